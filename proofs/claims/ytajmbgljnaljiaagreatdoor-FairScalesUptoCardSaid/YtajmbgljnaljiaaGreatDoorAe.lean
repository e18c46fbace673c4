/-
 slices.BinarySearchFunc over elements; the reference's find. No condition.
-/
import Derived.Test.YtajmbgljnaljiaaGreatDoorAd
import Derived.Test.YtajmbgljnaljiaaGreatDoorLg
namespace Go.Proofs.YtajmbgljnaljiaaGreatDoor
open Go.Ab Go.Proofs
set_option maxRecDepth 100000
def Bc(l:List Elem)(b:Elem)(P:Nat):Bool:=decide (P<l.length)&&(fE (l.getD P default) b==0)
set_option maxHeartbeats 1000000 in
theorem S.BinarySearch(l:List Elem)(b:Elem)(P:Nat)(f:Bool)(hl:l.length<2^30)(hs:eF l)(hb:b.counts.length<2^40)(hP:P<=l.length)(h: ∀ i,i<l.length->(fE (l.getD i default) b<0↔i<P)):aj Tryz.prog 59 [.row 3 f (.elems l),.dat (.elem b),.fn 45 []] (.gW [.int P,.bool (Bc l b P)]):=by
 refine aj.of Bd.bK (by simp) rfl rfl ?_
 conv=>whnf
 refine aB.same [0,2,4,8] (fun s:Nat×Nat=>[(9,.int s.1),(10,.int s.2)]) (fun s=>s.1<=P/\P<=s.2/\s.2<=l.length) (fun s=>s.2-s.1) (0,l.length) rfl (by decide) rfl (fun _=>rfl) ⟨Nat.zero_le _,hP,Nat.le_refl _⟩ ⟨⟨_,rfl,rfl⟩,⟨_,rfl,rfl⟩,trivial⟩ ?_
 conv=>whnf
 refine⟨rfl,?_⟩
 rintro⟨i,j⟩ ⟨h1,h2,h3⟩
 simp only at h1 h2 h3 ⊢
 conv=>whnf
 refine⟨fun g1=>?_,fun g1=>?_⟩
 ·have hij:i<j:=by simpa using g1
  have hm:ae0 ((i:Int)+j) 1=(((i+j) / 2:Nat):Int):=by rw[aas]; omega
  conv=>whnf
  repeat(refine VC.mk (by first|(rw[hm]; simp only[okI]; omega)|(omega)|(simp only[okI,Rw.rng] at *; first|omega|(simp_all; done)|(simp_all; omega))) ?_; conv=>whnf)
  rw[hm]
  conv=>whnf
  refine ah.pure (S.iI (l.getD ((((i+j) / 2:Nat):Int)).toNat default) b (hs.get _) hb) rfl ?_
  conv=>whnf
  have hlt:(i+j) / 2<l.length:=by omega
  have hq:=h ((i+j) / 2) hlt
  refine⟨fun g2=>?_,fun g2=>?_⟩
  ·have g3:fE (l.getD ((i+j) / 2) default) b<0:=of_decide_eq_true g2
   conv=>whnf
   refine .mk (by simp only[okI] at *; first|omega|(simp_all; done)|(simp_all; omega)) ?_
   conv=>whnf
   refine⟨((i+j) / 2+1,j),⟨by have:=hq.1 g3; omega,h2,h3⟩,by simp only; omega,⟨⟨_,rfl,rfl⟩,⟨_,rfl,rfl⟩,trivial⟩,?_,rfl⟩
   repeat' (first|exact trivial|exact⟨_,rfl,rfl⟩|constructor)
  ·have g3: ¬ fE (l.getD ((i+j) / 2) default) b<0:=of_decide_eq_false g2
   conv=>whnf
   refine⟨(i,(i+j) / 2),⟨h1,by rcases Nat.lt_or_ge ((i+j) / 2) P with q|q; exact absurd (hq.2 q) g3; exact q,by omega⟩,by simp only; omega,⟨⟨_,rfl,rfl⟩,⟨_,rfl,rfl⟩,trivial⟩,?_,rfl⟩
   repeat' (first|exact trivial|exact⟨_,rfl,rfl⟩|constructor)
 ·have hij: ¬ i<j:=by simpa using g1
  have e:i=P:=by omega
  subst e
  conv=>whnf
  repeat(refine VC.mk (by first|exact id|(intro h; simp only[h,true_and]; done)|(simp only[Rw.rng] at *; first|omega|(simp_all; done)|(simp_all; omega))) ?_; conv=>whnf)
  refine ah.dM (fun _=>S.iI (l.getD (i:Int).toNat default) b (hs.get _) hb) rfl ?_
  conv=>whnf
  repeat(refine VC.mk id ?_; conv=>whnf)
  refine ak.eqv ?_
  unfold Bc
  simp
  rfl
def fdE(l:List Elem)(b:Elem):Int:=match l.findIdx? (fun x=>fE x b==0) with
 |some i=>i
 |none=> -1
theorem S.y7(l:List Elem)(b:Elem)(f:Bool)(hl:l.length<2^30)(hs:eF l)(hb:b.counts.length<2^40):aj Tryz.prog 65 [.row 3 f (.elems l),.dat (.elem b)] (.int (fdE l b)):=by
 refine aj.of Bd.y7 (by simp) rfl rfl ?_
 conv=>whnf
 refine aB.same [0,3] (fun i:Nat=>[(5,.int i)]) (fun i=>i<=l.length/\ ∀ k,k<i->(fE (l.getD k default) b==0)=false) (fun i=>l.length-i) 0 rfl (by decide) rfl (fun _=>rfl) ⟨Nat.zero_le _,fun k hk=>absurd hk (Nat.not_lt_zero _)⟩ ⟨⟨_,rfl,rfl⟩,trivial⟩ ?_
 conv=>whnf
 refine⟨rfl,?_⟩
 rintro i ⟨hi,hno⟩
 conv=>whnf
 refine⟨fun g1=>?_,fun g1=>?_⟩
 ·have hi':i<l.length:=by simpa using g1
  conv=>whnf
  refine .mk (by simp only[Rw.rng] at *; first|omega|(simp_all; done)|(simp_all; omega)) ?_
  conv=>whnf
  refine ah.pure (S.lM (l.getD (i:Int).toNat default) b (hs.get _) hb) rfl ?_
  conv=>whnf
  refine⟨fun g2=>?_,fun g2=>?_⟩
  ·conv=>whnf
   refine ak.int ?_
   have:l.findIdx? (fun x=>fE x b==0)=some i:=by
    rw[List.findIdx?_eq_some_iff_getElem]
    refine⟨hi',?_,fun k hk=>?_⟩
    ·have:(fE (l.getD i default) b==0)=true:=g2
     rw[show l.getD i default=l[i] by simp[hi']] at this; exact this
    ·have hk':k<l.length:=by omega
     have:=hno k hk
     rw[show l.getD k default=l[k] by simp[hk']] at this
     rw[this]; decide
   rw[fdE,this]
  ·conv=>whnf
   refine .mk (by simp only[okI] at *; first|omega|(simp_all; done)|(simp_all; omega)) ?_
   conv=>whnf
   refine⟨i+1,⟨by omega,fun k hk=>?_⟩,by omega,⟨⟨_,rfl,rfl⟩,trivial⟩,?_,rfl⟩
   ·rcases Nat.lt_or_ge k i with q|q
    ·exact hno k q
    ·have:k=i:=by omega
     subst this; exact g2
   ·repeat' (first|exact trivial|exact⟨_,rfl,rfl⟩|constructor)
 ·have hi':l.length<=i:=by simpa using g1
  conv=>whnf
  refine ak.int ?_
  have:l.findIdx? (fun x=>fE x b==0)=none:=by
   rw[List.findIdx?_eq_none_iff]
   intro x hx
   obtain⟨k,hk,rfl⟩:=List.mem_iff_getElem.1 hx
   have:=hno k (by omega)
   rw[show l.getD k default=l[k] by simp[hk]] at this; exact this
  rw[fdE,this]
structure Gr where
 n:Nat
 k:Nat
 Rj:Nat->Nat->Bool
 E5:Nat->Nat->Bool
 OZ:Nat->Nat->Bool
 dF:Nat->Nat->List Int
variable (g:Gr)
def Gr.Cl(i:Nat)(G:Nat->Prop):Prop:= ∀ a,G a->a<g.n/\g.Rj a i=true/\ ∀ x,x<g.k->g.E5 a x=true->g.OZ x i=false/\ ∀ b∈g.dF a x,G b.toNat
def Gr.Rk(a i:Nat):Prop:= ∃ G,g.Cl i G/\G a
noncomputable def Gr.hlp(a i:Nat):Bool:=@decide (g.Rk a i) (Classical.propDecidable _)
variable {g}
theorem Dk{a i:Nat}:g.hlp a i=true↔g.Rk a i:=by
 unfold Gr.hlp
 exact⟨fun h=>@of_decide_eq_true _ (Classical.propDecidable _) h,fun h=>@decide_eq_true _ (Classical.propDecidable _) h⟩
theorem Rk.cl{i:Nat}:g.Cl i fun a=>g.Rk a i:=by
 rintro a ⟨G,hG,ha⟩
 obtain⟨h1,h2,h3⟩:=hG a ha
 exact⟨h1,h2,fun x hx hn=>⟨(h3 x hx hn).1,fun b hb=>⟨G,hG,(h3 x hx hn).2 b hb⟩⟩⟩
theorem Rk.max{i a:Nat}{G:Nat->Prop}(h:g.Cl i G)(ha:G a):g.Rk a i:=⟨G,h,ha⟩
variable (g)
def gB(R:List (List Bool))(a i:Nat):Bool:=(R.getD a []).getD i false
def Gr.blk(a i:Nat):Bool:=(List.range g.k).any fun x=>g.E5 a x&&g.OZ x i
noncomputable def Gr.pG:List (List Bool):=(List.range g.n).map fun a=>(List.range g.k).map fun i=>g.hlp a i
noncomputable def Gr.Fj:List (List Int):=(List.range g.n).map fun a=>((List.range g.k).filter fun i=>g.hlp a i).map fun i:Nat=>(i:Int)
structure Gr.Inv(R:List (List Bool)):Prop where
 len:R.length=g.n
 row: ∀ a,a<g.n->(R.getD a []).length=g.k
 dn: ∀ a i,gB R a i=true->g.Rj a i=true/\g.blk a i=false
 up: ∀ a i,i<g.k->g.Rk a i->gB R a i=true
variable {g}
theorem getD_none{α:Type}{l:List α}{i:Nat}{d:α}(h:l.length<=i):l.getD i d=d:=by
 simp[List.getD_eq_getElem?_getD,List.getElem?_eq_none h]
theorem getD_some{α:Type}{l:List α}{i:Nat}{d:α}(h:i<l.length):l.getD i d=l[i]:=by simp[h]
theorem kP{α:Type}{f:Nat->α}{n i:Nat}{d:α}(h:i<n):((List.range n).map f).getD i d=f i:=by
 simp[h]
theorem acP{a i:Nat}(ha:a<g.n)(hi:i<g.k):gB g.pG a i=g.hlp a i:=by
 unfold gB Gr.pG
 rw[kP ha,kP hi]
theorem uF{α:Type}{l l':List α}(d:α)(h:l.length=l'.length)(H: ∀ i,i<l.length->l.getD i d=l'.getD i d):l=l':=by
 apply List.ext_getElem h
 intro i h1 h2
 have:=H i h1
 rw[getD_some h1,getD_some h2] at this
 exact this
theorem JZ:g.pG.length=g.n:=by simp[Gr.pG]
theorem Rl{a:Nat}(ha:a<g.n):(g.pG.getD a []).length=g.k:=by unfold Gr.pG; rw[kP ha]; simp
theorem Gr.Inv.done{R:List (List Bool)}(h:g.Inv R)(hs: ∀ a x i,a<g.n->x<g.k->i<g.k->g.E5 a x=true->gB R a i=true-> ∀ b∈g.dF a x,gB R b.toNat i=true):R=g.pG:=by
 refine uF [] (by rw[h.len,JZ]) fun a ha=>?_
 rw[h.len] at ha
 refine uF false (by rw[h.row a ha,Rl ha]) fun i hi=>?_
 rw[h.row a ha] at hi
 show gB R a i=gB g.pG a i
 rw[acP ha hi,Bool.eq_iff_iff,Dk]
 refine⟨fun q=>?_,h.up a i hi⟩
 refine Rk.max (G:=fun a=>a<g.n/\gB R a i=true) ?_ ⟨ha,q⟩
 rintro c ⟨hc,qc⟩
 obtain⟨d1,d2⟩:=h.dn c i qc
 refine⟨hc,d1,fun x hx hn=>⟨?_,fun b hb=>?_⟩⟩
 ·unfold Gr.blk at d2
  rw[List.any_eq_false] at d2
  have:=d2 x (List.mem_range.2 hx)
  rw[hn,Bool.true_and] at this
  exact Bool.eq_false_iff.2 this
 ·have q2:=hs c x i hc hx hi hn qc b hb
  refine⟨?_,q2⟩
  rcases Nat.lt_or_ge b.toNat g.n with hl|hl
  ·exact hl
  ·unfold gB at q2
   rw[show R.getD b.toNat []=[] from getD_none (by rw[h.len]; exact hl)] at q2
   exact absurd q2 (by simp)
def setB(R:List (List Bool))(a i:Nat)(v:Bool):List (List Bool):=R.set a ((R.getD a []).set i v)
theorem Rn{R:List (List Bool)}{a i:Nat}{v:Bool}:(setB R a i v).length=R.length:=by simp[setB]
theorem aat{R:List (List Bool)}{a i c:Nat}{v:Bool}:((setB R a i v).getD c []).length=(R.getD c []).length:=by
 unfold setB
 by_cases hc:c=a
 ·subst hc
  rcases Nat.lt_or_ge c R.length with h|h
  ·rw[getD_some (by simpa using h),List.getElem_set_self,List.length_set]
  ·rw[List.set_eq_of_length_le h]
 ·rw[List.getD_eq_getElem?_getD,List.getElem?_set_ne (Ne.symm hc),<- List.getD_eq_getElem?_getD]
theorem aau{R:List (List Bool)}{a i c j:Nat}{v:Bool}(ha:a<R.length)(hi:i<(R.getD a []).length):gB (setB R a i v) c j=if c=a/\j=i then v else gB R c j:=by
 unfold gB setB
 by_cases hc:c=a
 ·subst hc
  have e:(R.set c ((R.getD c []).set i v)).getD c []=(R.getD c []).set i v:=by
   rw[getD_some (by simpa using ha),List.getElem_set_self]
  rw[e]
  by_cases hj:j=i
  ·subst hj
   rw[if_pos ⟨rfl,rfl⟩,getD_some (by simpa using hi),List.getElem_set_self]
  ·rw[if_neg (fun h=>hj h.2),List.getD_eq_getElem?_getD,List.getElem?_set_ne (Ne.symm hj),<- List.getD_eq_getElem?_getD]
 ·rw[if_neg (fun h=>hc h.1)]
  have e:(R.set a ((R.getD a []).set i v)).getD c []=R.getD c []:=by
   rw[List.getD_eq_getElem?_getD,List.getElem?_set_ne (Ne.symm hc),<- List.getD_eq_getElem?_getD]
  rw[e]
theorem Gr.Inv.take{R:List (List Bool)}(h:g.Inv R){a x i:Nat}{b:Int}(ha:a<g.n)(hx:x<g.k)(hi:i<g.k)(hn:g.E5 a x=true)(hb:b∈g.dF a x)(hg:gB R b.toNat i=false):g.Inv (setB R a i false):=by
 have ha':a<R.length:=by rw[h.len]; exact ha
 have hi':i<(R.getD a []).length:=by rw[h.row a ha]; exact hi
 refine⟨by rw[Rn,h.len],fun c hc=>by rw[aat,h.row c hc],fun c j q=>?_,fun c j hj q=>?_⟩
 ·rw[aau ha' hi'] at q
  split at q
  ·cases q
  ·exact h.dn c j q
 ·rw[aau ha' hi']
  split
  ·rename_i e
   obtain⟨rfl,rfl⟩:=e
   exfalso
   have:=((Rk.cl c q).2.2 x hx hn).2 b hb
   have:=h.up _ _ hi this
   rw[hg] at this; cases this
  ·exact h.up c j hj q
def DT:List (List Bool)->Nat
 |[]=>0
 |r::t=>r.countP (fun b=>b)+DT t
theorem aav: ∀ {R:List (List Bool)} {a i:Nat},gB R a i=true->DT (setB R a i false)+1=DT R:=by
 intro R
 induction R with
 |nil=>intro a i h; simp[gB] at h
 |cons r t ih =>
  intro a i h
  cases a with
  |zero =>
   have hi:i<r.length:=by
    rcases Nat.lt_or_ge i r.length with h1|h1
    ·exact h1
    ·unfold gB at h; rw[List.getD_cons_zero,getD_none h1] at h; cases h
   have hv:r[i]=true:=by unfold gB at h; rw[List.getD_cons_zero,getD_some hi] at h; exact h
   show DT (r.set i false::t)+1=DT (r::t)
   simp only[DT]
   have:(r.set i false).countP (fun b=>b)+1=r.countP fun b=>b:=by
    have key: ∀ {r:List Bool} {i:Nat} (hi:i<r.length),r[i]=true->(r.set i false).countP (fun b=>b)+1=r.countP fun b=>b:=by
     intro r
     induction r with
     |nil=>intro i hi; exact absurd hi (Nat.not_lt_zero _)
     |cons y s ihs =>
      intro i hi hv
      cases i with
      |zero =>
       simp only[List.getElem_cons_zero] at hv
       subst hv
       simp
      |succ i =>
       simp only[List.length_cons] at hi
       simp only[List.getElem_cons_succ] at hv
       have:=ihs (by omega) hv
       simp only[List.set_cons_succ,List.countP_cons]
       omega
    exact key hi hv
   omega
  |succ a =>
   have h':gB t a i=true:=by unfold gB at h ⊢; rw[List.getD_cons_succ] at h; exact h
   have:=ih h'
   show DT (r::setB t a i false)+1=DT (r::t)
   simp only[DT]
   omega
def Gr.kept(g:Gr)(G:List Bool)(i a:Nat):Bool:=(List.range g.k).all fun x=> !(g.E5 a x)||(!(g.OZ x i)&&(g.dF a x).all fun b=>G.getD b.toNat false)
structure Gr.Inv1(g:Gr)(i:Nat)(G:List Bool):Prop where
 len:G.length=g.n
 dn: ∀ a,G.getD a false=true->g.Rj a i=true
 up: ∀ a,g.Rk a i->G.getD a false=true
noncomputable def Gr.Eo(g:Gr)(i:Nat):List Bool:=(List.range g.n).map fun a=>g.hlp a i
theorem BI{G:List Bool}{i a:Nat}:g.kept G i a=true↔ ∀ x,x<g.k->g.E5 a x=true->g.OZ x i=false/\ ∀ b∈g.dF a x,G.getD b.toNat false=true:=by
 unfold Gr.kept
 rw[List.all_eq_true]
 constructor
 ·intro h x hx hn
  have:=h x (List.mem_range.2 hx)
  rw[hn,Bool.not_true,Bool.false_or,Bool.and_eq_true,Bool.not_eq_true',List.all_eq_true] at this
  exact this
 ·intro h x hx
  cases hn:g.E5 a x with
  |false=>rfl
  |true =>
   obtain⟨h1,h2⟩:=h x (List.mem_range.1 hx) hn
   rw[Bool.not_true,Bool.false_or,Bool.and_eq_true,Bool.not_eq_true',List.all_eq_true]
   exact⟨h1,h2⟩
theorem Gr.Inv1.done{G:List Bool}{i:Nat}(h:g.Inv1 i G)(hs: ∀ a,a<g.n->G.getD a false=true->g.kept G i a=true):G=g.Eo i:=by
 refine uF false (by rw[h.len]; simp[Gr.Eo]) fun a ha=>?_
 rw[h.len] at ha
 unfold Gr.Eo
 rw[kP ha,Bool.eq_iff_iff,Dk]
 refine⟨fun q=>?_,h.up a⟩
 refine Rk.max (G:=fun a=>a<g.n/\G.getD a false=true) ?_ ⟨ha,q⟩
 rintro c ⟨hc,qc⟩
 refine⟨hc,h.dn c qc,fun x hx hn=>?_⟩
 obtain⟨h1,h2⟩:=BI.1 (hs c hc qc) x hx hn
 refine⟨h1,fun b hb=>⟨?_,h2 b hb⟩⟩
 rcases Nat.lt_or_ge b.toNat g.n with hl|hl
 ·exact hl
 ·have q2:=h2 b hb
  rw[getD_none (by rw[h.len]; exact hl)] at q2
  cases q2
theorem Gr.Inv1.take{G:List Bool}{i a:Nat}(h:g.Inv1 i G)(ha:a<g.n)(hk:g.kept G i a=false):g.Inv1 i (G.set a false):=by
 have ha':a<G.length:=by rw[h.len]; exact ha
 have hg: ∀ c,(G.set a false).getD c false=if c=a then false else G.getD c false:=by
  intro c
  by_cases hc:c=a
  ·subst hc; rw[if_pos rfl,getD_some (by simpa using ha'),List.getElem_set_self]
  ·rw[if_neg hc,List.getD_eq_getElem?_getD,List.getElem?_set_ne (Ne.symm hc),<- List.getD_eq_getElem?_getD]
 refine⟨by rw[List.length_set,h.len],fun c q=>?_,fun c q=>?_⟩
 ·rw[hg] at q
  split at q
  ·cases q
  ·exact h.dn c q
 ·rw[hg]
  split
  ·rename_i e; subst e
   exfalso
   have:g.kept G i c=true:=BI.2 fun x hx hn=>⟨((Rk.cl c q).2.2 x hx hn).1,fun b hb=>h.up _ (((Rk.cl c q).2.2 x hx hn).2 b hb)⟩
   rw[hk] at this; cases this
  ·exact h.up c q
theorem aaw: ∀ {r:List Bool} {i:Nat},r.getD i false=true->(r.set i false).countP (fun b=>b)+1=r.countP fun b=>b:=by
 intro r
 induction r with
 |nil=>intro i h; simp at h
 |cons y s ih =>
  intro i h
  cases i with
  |zero=>rw[List.getD_cons_zero] at h; subst h; simp
  |succ i =>
   rw[List.getD_cons_succ] at h
   have:=ih h
   simp only[List.set_cons_succ,List.countP_cons]
   omega
def Gr.okP(g:Gr)(R:List (List Bool))(a x c i:Nat):Prop:=x<g.k->c<(g.dF a x).length->i<g.k->g.E5 a x=true->gB R a i=true->gB R ((g.dF a x).getD c 0).toNat i=true
structure Gr.qY(g:Gr)(R0 R:List (List Bool))(ag:Bool)(a x c i:Nat):Prop where
 inv:g.Inv R
 le:DT R<=DT R0
 lt:ag=true->DT R<DT R0
 st:ag=false-> ∀ a' x' c' i',(a'<a\/a'=a/\(x'<x\/x'=x/\(c'<c\/c'=c/\i'<i)))->g.okP R a' x' c' i'
theorem Gr.qY.zero{R:List (List Bool)}(h:g.Inv R):g.qY R R false 0 0 0 0:=⟨h,Nat.le_refl _,fun h=>(by cases h),fun _ a' x' c' i' h=>by omega⟩
theorem Gr.qY.ael{R0 R:List (List Bool)}{ag:Bool}{a x c i:Nat}(h:g.qY R0 R ag a x c i)(hk:gB R a i=true->gB R ((g.dF a x).getD c 0).toNat i=true):g.qY R0 R ag a x c (i+1):=by
 refine⟨h.inv,h.le,h.lt,fun e a' x' c' i' q=>?_⟩
 by_cases h1:a'<a\/a'=a/\(x'<x\/x'=x/\(c'<c\/c'=c/\i'<i))
 ·exact h.st e a' x' c' i' h1
 ·have e1:a'=a:=by omega
  have e2:x'=x:=by omega
  have e3:c'=c:=by omega
  have e4:i'=i:=by omega
  subst e1; subst e2; subst e3; subst e4
  exact fun _ _ _ _=>hk
theorem Gr.qY.take{R0 R:List (List Bool)}{ag:Bool}{a x c i:Nat}(h:g.qY R0 R ag a x c i)(ha:a<g.n)(hx:x<g.k)(hc:c<(g.dF a x).length)(hi:i<g.k)(hn:g.E5 a x=true)(h1:gB R a i=true)(h2:gB R ((g.dF a x).getD c 0).toNat i=false):g.qY R0 (setB R a i false) true a x c (i+1):=by
 have hm:(g.dF a x).getD c 0∈g.dF a x:=by rw[getD_some hc]; exact List.getElem_mem hc
 have:=aav h1
 have:=h.le
 exact⟨h.inv.take ha hx hi hn hm h2,by omega,fun _=>by omega,fun e=>by cases e⟩
theorem Gr.qY.agE{R0 R:List (List Bool)}{ag:Bool}{a x c i:Nat}(h:g.qY R0 R ag a x c i)(hi:g.k<=i):g.qY R0 R ag a x (c+1) 0:=by
 refine⟨h.inv,h.le,h.lt,fun e a' x' c' i' q=>?_⟩
 by_cases h1:a'<a\/a'=a/\(x'<x\/x'=x/\(c'<c\/c'=c/\i'<i))
 ·exact h.st e a' x' c' i' h1
 ·exact fun _ _ h3=>by omega
theorem Gr.qY.agF{R0 R:List (List Bool)}{ag:Bool}{a x c:Nat}(h:g.qY R0 R ag a x c 0)(hc:(g.dF a x).length<=c):g.qY R0 R ag a (x+1) 0 0:=by
 refine⟨h.inv,h.le,h.lt,fun e a' x' c' i' q=>?_⟩
 by_cases h1:a'<a\/a'=a/\(x'<x\/x'=x/\(c'<c\/c'=c/\i'<0))
 ·exact h.st e a' x' c' i' h1
 ·have e1:a'=a:=by omega
  have e2:x'=x:=by omega
  subst e1; subst e2
  exact fun _ h3=>by omega
theorem Gr.qY.agG{R0 R:List (List Bool)}{ag:Bool}{a x:Nat}(h:g.qY R0 R ag a x 0 0)(hn:g.E5 a x=false):g.qY R0 R ag a (x+1) 0 0:=by
 refine⟨h.inv,h.le,h.lt,fun e a' x' c' i' q=>?_⟩
 by_cases h1:a'<a\/a'=a/\(x'<x\/x'=x/\(c'<0\/c'=0/\i'<0))
 ·exact h.st e a' x' c' i' h1
 ·have e1:a'=a:=by omega
  have e2:x'=x:=by omega
  subst e1; subst e2
  intro _ _ _ h4
  rw[hn] at h4; cases h4
theorem Gr.qY.yQ{R0 R:List (List Bool)}{ag:Bool}{a x:Nat}(h:g.qY R0 R ag a x 0 0)(hx:g.k<=x):g.qY R0 R ag (a+1) 0 0 0:=by
 refine⟨h.inv,h.le,h.lt,fun e a' x' c' i' q=>?_⟩
 by_cases h1:a'<a\/a'=a/\(x'<x\/x'=x/\(c'<0\/c'=0/\i'<0))
 ·exact h.st e a' x' c' i' h1
 ·exact fun h3=>by omega
theorem Gr.qY.all{R0 R:List (List Bool)}{a:Nat}(h:g.qY R0 R false a 0 0 0)(ha:g.n<=a):R=g.pG:=by
 refine h.inv.done fun a' x i h1 h2 h3 h4 h5 b hb=>?_
 obtain⟨c,hc,rfl⟩:=List.mem_iff_getElem.1 hb
 have:=h.st rfl a' x c i (by omega) h2 hc h3 h4 h5
 rw[getD_some hc] at this; exact this
def Gr.b1(g:Gr)(a i:Nat):Bool:=g.Rj a i&& !(g.blk a i)
def Gr.bX(g:Gr)(a i x:Nat):Bool:=g.Rj a i&& !((List.range x).any fun x'=>g.E5 a x'&&g.OZ x' i)
def Gr.O1(g:Gr)(a:Nat):List Bool:=(List.range g.k).map (g.b1 a)
def Gr.BJ(g:Gr)(a i:Nat):List Bool:=(List.range i).map (g.b1 a)++List.replicate (g.k-i) false
def Gr.wO(g:Gr)(a i x:Nat):List Bool:=(List.range i).map (g.b1 a)++g.bX a i x::List.replicate (g.k-(i+1)) false
def Gr.og(g:Gr)(a:Nat):List (List Bool):=(List.range a).map g.O1
theorem Yk{a:Nat}:g.BJ a 0=List.replicate g.k false:=by simp[Gr.BJ]
theorem aax{a:Nat}:g.BJ a g.k=g.O1 a:=by simp[Gr.BJ,Gr.O1]
theorem aay{a i:Nat}(h:i<=g.k):(g.BJ a i).length=g.k:=by simp[Gr.BJ]; omega
theorem aaz{a i x:Nat}(h:i<g.k):(g.wO a i x).length=g.k:=by simp[Gr.wO]; omega
theorem Dl{a:Nat}:(g.og a).length=a:=by simp[Gr.og]
theorem UZ{a:Nat}:g.og (a+1)=g.og a++[g.O1 a]:=by simp[Gr.og,List.range_succ]
theorem aaA{a i:Nat}(h:i<g.k):(g.BJ a i).set i (g.Rj a i)=g.wO a i 0:=by
 unfold Gr.BJ Gr.wO
 rw[List.set_append_right _ _ (by simp)]
 simp only[List.length_map,List.length_range,Nat.sub_self]
 rw[show g.k-i=(g.k-(i+1))+1 by omega,List.replicate_succ,List.set_cons_zero]
 simp[Gr.bX]
theorem aaB{a i:Nat}(_h:i<g.k):g.wO a i g.k=g.BJ a (i+1):=by
 unfold Gr.BJ Gr.wO
 rw[List.range_succ,List.map_append,List.append_assoc]; rfl
theorem aaC{a i x:Nat}(h1:g.E5 a x=true)(h2:g.OZ x i=true):(g.wO a i x).set i false=g.wO a i (x+1):=by
 have e:g.bX a i (x+1)=false:=by
  unfold Gr.bX
  rw[List.range_succ,List.any_append]
  simp[h1,h2]
 unfold Gr.wO
 rw[List.set_append_right _ _ (by simp),e]
 simp
theorem Yl{a i x:Nat}(h:(g.E5 a x&&g.OZ x i)=false):g.wO a i (x+1)=g.wO a i x:=by
 have e:g.bX a i (x+1)=g.bX a i x:=by
  unfold Gr.bX
  rw[List.range_succ,List.any_append]
  simp only[List.any_cons,List.any_nil,h,Bool.or_false]
 unfold Gr.wO
 rw[e]
theorem Ym:g.Inv (g.og g.n):=by
 have hr: ∀ a,a<g.n->(g.og g.n).getD a []=g.O1 a:=fun a ha=>by unfold Gr.og; rw[kP ha]
 refine⟨Dl,fun a ha=>by rw[hr a ha]; simp[Gr.O1],fun a i q=>?_,fun a i hi q=>?_⟩
 ·unfold gB at q
  rcases Nat.lt_or_ge a g.n with ha|ha
  ·rw[hr a ha] at q
   rcases Nat.lt_or_ge i g.k with hi|hi
   ·unfold Gr.O1 at q
    rw[kP hi,Gr.b1,Bool.and_eq_true,Bool.not_eq_true'] at q
    exact q
   ·rw[getD_none (by simp[Gr.O1]; omega)] at q; cases q
  ·rw[show(g.og g.n).getD a []=[] from getD_none (by rw[Dl]; exact ha)] at q
   exact absurd q (by simp)
 ·obtain⟨ha,hb,hc⟩:=Rk.cl a q
  unfold gB
  rw[hr a ha]
  unfold Gr.O1
  rw[kP hi,Gr.b1,hb,Bool.true_and,Bool.not_eq_true']
  unfold Gr.blk
  rw[List.any_eq_false]
  intro x hx
  cases hn:g.E5 a x with
  |false=>simp
  |true=>rw[(hc x (List.mem_range.1 hx) hn).1]; simp
theorem Np{α:Type}{l:List α}{u d:α}{a:Nat}(h:l.length=a):(l++[u]).getD a d=u:=by
 subst h
 rw[List.getD_eq_getElem?_getD,List.getElem?_append_right (Nat.le_refl _),Nat.sub_self]; rfl
theorem Ro{α:Type}{l:List α}{u v:α}{a:Nat}(h:l.length=a):(l++[u]).set a v=l++[v]:=by
 subst h
 rw[List.set_append_right _ _ (Nat.le_refl _),Nat.sub_self]; rfl
structure Gr.IU(g:Gr)(r:Nat)(G0 G:List Bool)(ag:Bool)(i:Nat):Prop where
 inv:g.Inv1 r G
 le:G.countP (fun b=>b)<=G0.countP fun b=>b
 lt:ag=true->G.countP (fun b=>b)<G0.countP fun b=>b
 st:ag=false-> ∀ a,a<i->G.getD a false=true->g.kept G r a=true
theorem Gr.IU.zero{r:Nat}{G:List Bool}(h:g.Inv1 r G):g.IU r G G false 0:=⟨h,Nat.le_refl _,fun h=>(by cases h),fun _ a h=>by omega⟩
theorem Gr.IU.next{r i:Nat}{G0 G:List Bool}{ag:Bool}(h:g.IU r G0 G ag i)(hk:G.getD i false=true->g.kept G r i=true):g.IU r G0 G ag (i+1):=by
 refine⟨h.inv,h.le,h.lt,fun e a ha=>?_⟩
 rcases Nat.lt_or_ge a i with q|q
 ·exact h.st e a q
 ·have:a=i:=by omega
  subst this; exact hk
theorem Gr.IU.take{r i:Nat}{G0 G:List Bool}{ag:Bool}(h:g.IU r G0 G ag i)(hi:i<g.n)(h1:G.getD i false=true)(h2:g.kept G r i=false):g.IU r G0 (G.set i false) true (i+1):=by
 have:=aaw h1
 have:=h.le
 exact⟨h.inv.take hi h2,by omega,fun _=>by omega,fun e=>by cases e⟩
theorem Gr.IU.all{r i:Nat}{G0 G:List Bool}(h:g.IU r G0 G false i)(hi:g.n<=i):G=g.Eo r :=
 h.inv.done fun a ha=>h.st rfl a (by omega)
def Gr.Ep(g:Gr)(r i:Nat):List Bool:=(List.range i).map (fun a=>g.Rj a r)++List.replicate (g.n-i) false
theorem Yn{r:Nat}:g.Ep r 0=List.replicate g.n false:=by simp[Gr.Ep]
theorem aaD{r i:Nat}(h:i<=g.n):(g.Ep r i).length=g.n:=by simp[Gr.Ep]; omega
theorem aaE{r i:Nat}(h:i<g.n):(g.Ep r i).set i (g.Rj i r)=g.Ep r (i+1):=by
 unfold Gr.Ep
 rw[List.set_append_right _ _ (by simp)]
 simp only[List.length_map,List.length_range,Nat.sub_self]
 rw[show g.n-i=(g.n-(i+1))+1 by omega,List.replicate_succ,List.set_cons_zero,List.range_succ,List.map_append,List.append_assoc]; rfl
theorem aaF{r:Nat}:g.Inv1 r (g.Ep r g.n):=by
 have e:g.Ep r g.n=(List.range g.n).map fun a=>g.Rj a r:=by simp[Gr.Ep]
 rw[e]
 refine⟨by simp,fun a q=>?_,fun a q=>?_⟩
 ·rcases Nat.lt_or_ge a g.n with ha|ha
  ·rw[kP ha] at q; exact q
  ·rw[getD_none (by simpa using ha)] at q; cases q
 ·obtain⟨ha,hb,_⟩:=Rk.cl a q
  rw[kP ha]; exact hb
def kZ(l:List Elem)(b:Elem):Nat:=l.countP fun x=>decide (fE x b<0)
theorem WI(l:List Elem)(b:Elem):kZ l b<=l.length:=List.countP_le_length
theorem Ja{b:Elem}: ∀ {l:List Elem},SS l-> ∀ i,i<l.length->(fE (l.getD i default) b<0↔i<kZ l b):=by
 intro l
 induction l with
 |nil=>intro _ i hi; exact absurd hi (Nat.not_lt_zero _)
 |cons a t ih =>
  intro hs i hi
  obtain⟨h1,h2⟩:=List.pairwise_cons.1 hs
  by_cases ha:fE a b<0
  ·have e:kZ (a::t) b=kZ t b+1:=by unfold kZ; rw[List.countP_cons_of_pos (by simpa using ha)]
   rw[e]
   cases i with
   |zero=>rw[List.getD_cons_zero]; exact⟨fun _=>by omega,fun _=>ha⟩
   |succ i =>
    rw[List.getD_cons_succ,ih h2 i (by simpa using hi)]
    omega
  ·have hall: ∀ x∈t,¬ fE x b<0:=fun x hx q=>ha (wP (h1 x hx) q)
   have e0:kZ t b=0:=by
    unfold kZ
    rw[List.countP_eq_zero]
    intro x hx
    simpa using hall x hx
   have e:kZ (a::t) b=0:=by unfold kZ at e0 ⊢; rw[List.countP_cons_of_neg (by simpa using ha),e0]
   rw[e]
   refine⟨fun q=>?_,fun q=>absurd q (Nat.not_lt_zero _)⟩
   cases i with
   |zero=>rw[List.getD_cons_zero] at q; exact absurd q ha
   |succ i =>
    rw[List.getD_cons_succ] at q
    have hi':i<t.length:=by simpa using hi
    exact absurd q (hall _ (bZ hi'))
theorem acQ{l:List Elem}{b:Elem}(hs:SS l):Bc l b (kZ l b)=true↔b∈l:=by
 unfold Bc
 rw[Bool.and_eq_true,decide_eq_true_eq,beq_iff_eq,iW]
 constructor
 ·rintro⟨h1,h2⟩; rw[<- h2]; exact bZ h1
 ·intro hb
  obtain⟨i,hi,e⟩:=List.mem_iff_getElem.1 hb
  have eg:l.getD i default=b:=by rw[getD_some hi]; exact e
  have hlt:=Ja (b:=b) hs
  have h1:kZ l b<=i:=by
   rcases Nat.lt_or_ge i (kZ l b) with q|q
   ·have:=(hlt i hi).2 q
    rw[eg,iW.2 rfl] at this; exact absurd this (by decide)
   ·exact q
  rcases Nat.lt_or_ge (kZ l b) i with q|q
  ·have h2:kZ l b<l.length:=by omega
   have h3:fE (l.getD (kZ l b) default) b<0:=by
    have:=List.pairwise_iff_getElem.1 hs (kZ l b) i h2 hi q
    rw[e] at this
    rw[getD_some h2]; exact this
   exact absurd ((hlt _ h2).1 h3) (Nat.lt_irrefl _)
  ·have:kZ l b=i:=by omega
   rw[this]; exact⟨hi,eg⟩
theorem agH{l:List Elem}{b:Elem}(hs:SS l):fdE l b=if Bc l b (kZ l b)=true then(kZ l b:Int) else -1:=by
 by_cases h:Bc l b (kZ l b)=true
 ·rw[if_pos h]
  unfold Bc at h
  rw[Bool.and_eq_true,decide_eq_true_eq] at h
  obtain⟨h1,h2⟩:=h
  have:l.findIdx? (fun x=>fE x b==0)=some (kZ l b):=by
   rw[List.findIdx?_eq_some_iff_getElem]
   refine⟨h1,by rw[getD_some h1] at h2; exact h2,fun j hj=>?_⟩
   have hj':j<l.length:=by omega
   have:=(Ja (b:=b) hs j hj').2 hj
   rw[getD_some hj'] at this
   simp only[beq_iff_eq]
   omega
  unfold fdE; rw[this]
 ·rw[if_neg h]
  have hn:b ∉ l:=fun q=>h ((acQ hs).2 q)
  have:l.findIdx? (fun x=>fE x b==0)=none:=by
   rw[List.findIdx?_eq_none_iff]
   intro x hx
   cases hc:(fE x b==0) with
   |false=>rfl
   |true=>rw[beq_iff_eq,iW] at hc; subst hc; exact absurd hx hn
  unfold fdE; rw[this]
def xO(l:List Elem)(L:List Elem):List Int:=L.filterMap fun b=>if Bc l b (kZ l b)=true then some (kZ l b:Int) else none
theorem Nq{l L:List Elem}{i:Nat}(hi:i<L.length):xO l (L.take (i+1))=if Bc l (L.getD i default) (kZ l (L.getD i default))=true then xO l (L.take i)++[(kZ l (L.getD i default):Int)] else xO l (L.take i):=by
 unfold xO
 rw[List.take_add_one,List.filterMap_append]
 rw[List.getElem?_eq_getElem hi,getD_some hi]
 split<;>rename_i h<;>simp[h]
theorem J3(l L:List Elem):(xO l L).length<=L.length:=List.length_filterMap_le ..
theorem aaG{l L:List Elem}{b:Int}(h:b∈xO l L):0<=b/\b<l.length:=by
 unfold xO at h
 obtain⟨x,hx,e⟩:=List.mem_filterMap.1 h
 split at e
 ·rename_i q
  cases e
  unfold Bc at q
  rw[Bool.and_eq_true,decide_eq_true_eq] at q
  omega
 ·cases e
def DU(l:List Elem)(r:Rule)(a:Elem):List Int:=xO l (gy r a)
def AV(p:aC)(a:Elem):List Bool:=p.rules.map fun r=>(eP r a).isSome
def yx(l:List Elem)(p:aC)(a:Elem):List (List Int):=p.rules.map fun r=>DU l r a
abbrev rowB(l:List Bool):OV:=.row 4 0 (.bools l) []
abbrev fB(R:List (List Bool)):List (Option OV):=R.map fun r=>some (rowB r)
theorem Dn(n:Nat): ∃ r:Rw,(bif isZero (.int n) then some Rw.nil else LQ (n:Int).toNat (T.bool false))=some r/\r.aS=(Rw.bools (List.replicate n false)).aS:=by
 cases n with
 |zero=>exact⟨.nil,rfl,rfl⟩
 |succ k=>exact⟨.bools (List.replicate (k+1) false),rfl,rfl⟩
def wQ(B a n:Nat):List V:=(List.range a).map (fun j=>V.inn (B+j))++List.replicate (n-a) (vw .nil)
abbrev U0(B a n:Nat):OV:=.gen 69 0 (wQ B a n)
theorem rP{B a n:Nat}(h:a<=n):(wQ B a n).length=n:=by simp[wQ]; omega
theorem Fp{B a n j:Nat}(h:j<a):(wQ B a n)[j]? =some (.inn (B+j)):=by
 unfold wQ
 rw[List.getElem?_append_left (by simpa using h),List.getElem?_map,List.getElem?_range h]; rfl
theorem AtZ.out{B a n j:Nat}{K:V->Prop}(h:j<a)(hK:K (.inn (B+j))):AtZ (wQ B a n) j K:=⟨_,Fp h,hK⟩
theorem acR{k:Nat}: ∀ {l:List V},(∀ v∈l,v.kd=some k)->GH k l=true:=by
 intro l
 induction l with
 |nil=>intro _; rfl
 |cons v r ih =>
  intro h
  have h1:=h v (by simp)
  have h2:=ih fun u hu=>h u (List.mem_cons_of_mem _ hu)
  simp only[GH,h1,h2]
  simp
theorem acS{n:Nat}{l:List T}(h: ∀ t∈l,T.lt n t=true):T.Qo n l=true:=by
 induction l with
 |nil=>rfl
 |cons t r ih=>simp only[T.Qo,h t (by simp),ih fun u hu=>h u (List.mem_cons_of_mem _ hu),Bool.and_self]
theorem J4{B a n:Nat}{v:V}(h:v∈wQ B a n):(∃ j,j<a/\v= .inn (B+j))\/v=vw .nil:=by
 unfold wQ at h
 rcases List.mem_append.1 h with h|h
 ·obtain⟨j,hj,rfl⟩:=List.mem_map.1 h
  exact .inl ⟨j,List.mem_range.1 hj,rfl⟩
 ·exact .inr (List.eq_of_mem_replicate h)
theorem Fq{ty nx:Nat}{l:List V}(h1: ∀ v∈l,v.kd=some 0)(h2: ∀ v∈l,T.lt nx v.aI=true):(OV.gen ty 0 l).good nx=true:=by
 simp only[OV.good,acR h1,Bool.and_eq_true,Bool.true_and]
 refine⟨acS fun t ht=>?_,rfl⟩
 rw[bJ,List.mem_map] at ht
 obtain⟨v,hv,rfl⟩:=ht
 exact h2 v hv
theorem fH{B a n nx:Nat}(h:B+a<=nx):(U0 B a n).good nx=true:=by
 refine Fq (fun v hv=>?_) fun v hv=>?_
 ·rcases J4 hv with ⟨j,_,rfl⟩|rfl<;>rfl
 ·rcases J4 hv with ⟨j,hj,rfl⟩|rfl
  ·show Nat.blt (B+j) nx=true
   exact Nat.blt_eq.mpr (by omega)
  ·rfl
theorem pV(ρ:Nat->Nat): ∀ l:List T,T.bU ρ l=l.map (T.ren ρ):=by
 intro l
 induction l with
 |nil=>rfl
 |cons a l ih=>simp only[T.bU,List.map_cons,ih]
theorem iK{B a n:Nat}{f:Nat->Nat}:bD (T.bU (lJ B (fun j=>B+j) f) (U0 B a n).ay.l) (U0 B a n).ay.l:=by
 refine bD.of_eq ?_
 show T.bU _ (V.aS (wQ B a n))=V.aS (wQ B a n)
 rw[pV,bJ,List.map_map]
 refine List.map_congr_left fun v hv=>?_
 rcases J4 hv with ⟨j,hj,rfl⟩|rfl
 ·show T.own (lJ B (fun j=>B+j) f (B+j))=T.own (B+j)
  rw[rQ]
 ·rfl
theorem aaH{B a n N:Nat}{f:Nat->Nat}(h:a<n):bD (T.bU (lJ B (fun j=>if j=a then N else B+j) f) (U0 B (a+1) n).ay.l) (OV.gen 69 0 ((wQ B a n).set a (.own N))).ay.l:=by
 refine bD.of_eq ?_
 show T.bU _ (V.aS (wQ B (a+1) n))=V.aS ((wQ B a n).set a (.own N))
 have e:(wQ B a n).set a (.own N)=(List.range a).map (fun j=>V.inn (B+j))++ .own N::List.replicate (n-(a+1)) (vw .nil):=by
  unfold wQ
  rw[List.set_append_right _ _ (by simp)]
  simp only[List.length_map,List.length_range,Nat.sub_self]
  rw[show n-a=(n-(a+1))+1 by omega,List.replicate_succ,List.set_cons_zero]
 rw[e,pV,bJ,bJ,List.map_map]
 unfold wQ
 simp only[List.range_succ,List.map_append,List.map_cons,List.map_nil,List.append_assoc,List.cons_append,List.nil_append,List.map_replicate,List.map_map]
 congr 1
 ·refine List.map_congr_left fun j hj=>?_
  show T.own (lJ B _ f (B+j))=T.own (B+j)
  rw[rQ,if_neg (by have:=List.mem_range.1 hj; omega)]
 ·congr 1
  show T.own (lJ B _ f (B+a))=T.own N
  rw[rQ,if_pos rfl]
theorem jg{R:List (List Bool)}{nx:Nat}: ∀ o,some o∈fB R->o.good nx=true/\o.Ig=true:=by
 intro o h
 obtain⟨r,_,e⟩:=List.mem_map.1 h
 cases e
 exact⟨rfl,rfl⟩
theorem BK{R:List (List Bool)}{j:Nat}(h:j<R.length):(fB R)[j]? =some (some (rowB (R.getD j []))):=by
 rw[List.getElem?_map,List.getElem?_eq_getElem h,getD_some h]; rfl
theorem gU{R:List (List Bool)}:(fB R).length=R.length:=List.length_map _
theorem ae1{R:List (List Bool)}{j:Nat}{r:List Bool}:(fB R).set j (some (rowB r))=fB (R.set j r):=by
 exact(List.map_set ..).symm
theorem O4{R:List (List Bool)}{r:List Bool}{a:Nat}(h:R.length=a):(fB (R++[r]))[a]? =some (some (rowB r)):=by
 subst h
 rw[List.getElem?_map,List.getElem?_append_right (Nat.le_refl _),Nat.sub_self]; rfl
theorem acT{R:List (List Bool)}{r:List Bool}{a:Nat}(h:R.length=a): ∀ j o,j≠a->(fB (R++[r]))[j]? =some (some o)->(fB R)[j]? =some (some o):=by
 intro j o hj q
 rcases Nat.lt_or_ge j R.length with hl|hl
 ·rw[List.getElem?_map,List.getElem?_append_left hl] at q; rw[List.getElem?_map]; exact q
 ·rw[List.getElem?_map,List.getElem?_eq_none (by rw[List.length_append]; simp only[List.length_singleton]; omega)] at q; cases q
theorem O5.fB{B:Nat}(C k:Nat){j x:Nat}{R:List (List Bool)}{v:V}{h:Hz}{K:Hz->Prop}(r':List Bool)(e:h.drop k=kE B (fB R))(ho:DV B C (h.take k)=true)(hC:B+R.length<=C)(hj:j<R.length)(hr:x<(R.getD j []).length)(hs:(Rw.bools (R.getD j [])).set x v=some (.bools r'))
  (hK:K (h.take k++kE B (fB (R.set j r')))):O5 h (B+j) x 0 v K :=
 O5.fam C (show BL (h.take k) _ h from by rw[BL,<- e,List.take_append_drop]) ho (by rw[gU]; exact hC) (BK hj) hs (by show 0<=(x:Int)/\(x:Int)<_; omega) (by rw[ae1]; exact hK)
def IV(p:aC)(l:List Elem)(on:List (List Bool))(dF:List (List (List Int)))(w:List Int):Gr where
 n:=l.length
 k:=p.rules.length
 Rj a i:=(on.getD a []).getD i false&&rF (p.rules.getD i default) w
 E5 a x:=((on.getD a []).getD x false&& !(oK (p.rules.getD x default) w))&& !(rF (p.rules.getD x default) w)
 OZ x i:=ZR (p.rules.getD x default) (p.rules.getD i default).fr
 dF a x:=(dF.getD a []).getD x []
structure Rq(p:aC)(l:List Elem)(on:List (List Bool))(dF:List (List (List Int)))(w:List Int):Prop where
 n:l.length<=2187
 k:p.rules.length<=8
 AV:on.length=l.length
 onR: ∀ a,a<l.length->(on.getD a []).length=p.rules.length
 yx:dF.length=l.length
 afR: ∀ a,a<l.length->(dF.getD a []).length=p.rules.length
 afN: ∀ a x,((dF.getD a []).getD x []).length<=2187
 sS: ∀ a x,∀ b∈(dF.getD a []).getD x [],0<=b/\b<l.length
 ZE: ∀ i,i<p.rules.length->Uy w.length (p.rules.getD i default)
 wok:w.all Uo=true
 wl:w.length<2^30
abbrev spV(p:aC)(l:List Elem)(on:List (List Bool))(dF:List (List (List Int))):V:=.agg [.str p.name,.int p.topology,.row 0 false (.strs p.states),.row 0 false (.strs p.messages),.row 0 false (.strs p.values),.int p.fault,.row 5 false (.y8 p.bQ),.row 0 false (.ints p.initial),.row 0 false (.ints p.leader),.row 19 false (.rules p.rules),.row 3 false (.elems l),.row 0 false (.iL on),.row 0 false (.jO dF)]
theorem S.neutral(p:aC)(l:List Elem)(on:List (List Bool))(dF:List (List (List Int)))(w:List Int)(f:Bool)(a x:Nat)(h:Rq p l on dF w)(ha:a<l.length)(hx:x<p.rules.length):aj Tryz.prog 60 [.int a,.int x,.ref 14 (spV p l on dF),.ref 0 (.row 0 f (.ints w))] (.bool ((IV p l on dF w).E5 a x)):=by
 have h1:=h.AV
 have h2:=h.onR a ha
 refine aj.of Bd.ng (by simp) rfl rfl ?_
 conv=>whnf
 repeat(refine VC.mk (by first|(first|(simp only[Rw.rng]; omega)|(simp only[Rw.rng,Int.toNat_natCast]; omega))|exact fun h=>⟨h,h⟩) ?_; conv=>whnf)
 refine ah.dM (fun _=>S.lT (p.rules.getD x default) w f h.wok (h.ZE x hx) h.wl) rfl ?_
 conv=>whnf
 repeat(refine VC.mk (by first|exact id|exact fun h=>⟨h,h⟩) ?_; conv=>whnf)
 refine ah.dM (fun _=>S.mW (p.rules.getD x default) w f h.wok (h.ZE x hx) h.wl) rfl ?_
 conv=>whnf
 repeat(refine VC.mk id ?_; conv=>whnf)
 refine ak.eqv ?_
 rfl
abbrev boxS(p:aC)(l:List Elem)(on:List (List Bool))(dF:List (List (List Int))):OV:=.box 66 14 (spV p l on dF)
abbrev ahM(w:List Int)(f:Bool):OV:=.box 24 0 (.row 0 f (.ints w))
abbrev pW(p:aC)(l:List Elem)(on:List (List Bool))(dF:List (List (List Int)))(w:List Int)(f:Bool)(a:Nat):List (Nat×OV):=[(0,boxS p l on dF),(1,ahM w f),(6,U0 10000 a l.length)]
theorem Ii.iL{h:Hz}{i B:Nat}{R:List (List Bool)}(hi:h.get i=some (U0 B R.length R.length))(hB:i<B)(hR: ∀ j,j<R.length->h.get (B+j)=some (rowB (R.getD j []))):Ii (.row 0 false (.iL R)) (.own i) h:=by
 have hl:(OV.row 69 0 (.iL R) []).ay.l=R.map Aa:=by simp[OV.ay,Rw.aS,V.aS]
 refine⟨[(i,some (.row 69 0 (.iL R) []))],⟨fun c=>B<=c,⟨_,hi,by omega,rfl,rfl,?_,?_,?_⟩,trivial⟩,?_⟩
 ·rw[hl]
  show T.dP _ _ _ (V.aS (wQ B R.length R.length))
  refine Jb (by rw[dQ,rP (Nat.le_refl _),List.length_map]) fun j t u h1 h2=>?_
  have hj:j<R.length:=by have:=(List.getElem?_eq_some_iff.1 h1).1; simpa using this
  rw[bJ,List.getElem?_map,Fp hj] at h2
  rw[List.getElem?_map,List.getElem?_eq_getElem hj] at h1
  cases h1; cases h2
  have:=aO (hR j hj)
  rw[getD_some hj] at this
  simp only[V.aI,T.sub]
  refine⟨trivial,Nat.le_add_right _ _,?_,by decide,4,?_⟩
  ·rw[dR]; intro t ht; obtain⟨x,_,rfl⟩:=List.mem_map.1 ht; rfl
  ·rw[this]; simp[OV.ay,Rw.aS,V.aS]
 ·rw[hl]
  show _=List.map T.kd (V.aS (wQ B R.length R.length))
  rw[bJ,List.map_map,List.map_map]
  apply List.ext_getElem
  ·simp[rP]
  ·intro j h1 h2
   have hj:j<R.length:=by simpa using h1
   have:=Fp (B:=B) (n:=R.length) hj
   have h3:j<(wQ B R.length R.length).length:=by rw[rP (Nat.le_refl _)]; exact hj
   rw[List.getElem?_eq_getElem h3,Option.some.injEq] at this
   simp only[List.getElem_map,Function.comp,this]; rfl
 ·rw[hl]
  show _=List.map fZ (V.aS (wQ B R.length R.length))
  rw[bJ,List.map_map,List.map_map]
  apply List.ext_getElem
  ·simp[rP]
  ·intro j h1 h2
   have hj:j<R.length:=by simpa using h1
   have:=Fp (B:=B) (n:=R.length) hj
   have h3:j<(wQ B R.length R.length).length:=by rw[rP (Nat.le_refl _)]; exact hj
   rw[List.getElem?_eq_getElem h3,Option.some.injEq] at this
   simp only[List.getElem_map,Function.comp,this]; rfl
 ·show T.sub _ _ (.sl 0 false (R.map Aa)) (.own i)
  simp only[T.sub]
  refine⟨trivial,trivial,?_,by decide,69,?_⟩
  ·rw[dR]; intro t ht; obtain⟨x,_,rfl⟩:=List.mem_map.1 ht; rfl
  ·rw[<- hl]
   simp[Hz.au,Hz.get,OV.ay]
abbrev aaI(p:aC)(l:List Elem)(on:List (List Bool))(dF:List (List (List Int)))(w:List Int)(f:Bool)(a i:Nat):List (Nat×OV):=pW p l on dF w f a++[(7,.box 85 19 (.dat (.rule (p.rules.getD i default))))]
set_option maxHeartbeats 4000000 in
theorem S.O6(p:aC)(l:List Elem)(on:List (List Bool))(dF:List (List (List Int)))(w:List Int)(f:Bool)(h:Rq p l on dF w):aj Tryz.prog 35 [spV p l on dF,.row 0 f (.ints w)] (.row 0 false (.iL (IV p l on dF w).pG)):=by
 have hn:=h.n; have hk:=h.k; have e1:=h.AV; have e2:=h.yx; have hwl:=h.wl
 generalize hg:IV p l on dF w=g
 have gn:g.n=l.length:=by rw[<- hg]; rfl
 have gk:g.k=p.rules.length:=by rw[<- hg]; rfl
 refine aj.ofF Bd.qE rfl (by simp) rfl rfl ?_
 by_cases h0:l.length=0
 ·have hl0:l=[]:=List.length_eq_zero_iff.1 h0
  subst hl0
  have hH:g.pG=[]:=by unfold Gr.pG; rw[gn]; rfl
  conv=>whnf
  refine .mk (by omega) ?_
  conv=>whnf
  refine aB.times 1 rfl ?_
  conv=>whnf
  refine Fork.mk (fun q=>absurd (q.symm.trans ((rfl:decide ((0:Int)<0)=false))).symm Bool.false_ne_true) (fun _=>?_)
  conv=>whnf
  refine aB.times 2 rfl ?_
  conv=>whnf
  refine Fork.mk (fun _=>?_) (fun q=>absurd (q.symm.trans (rfl)) Bool.false_ne_true)
  conv=>whnf
  refine aB.times 1 rfl ?_
  conv=>whnf
  refine Fork.mk (fun q=>absurd (q.symm.trans ((rfl:decide ((0:Int)<0)=false))).symm Bool.false_ne_true) (fun _=>?_)
  conv=>whnf
  refine Fork.mk (fun q=>absurd (q.symm.trans (rfl)).symm Bool.false_ne_true) (fun _=>?_)
  conv=>whnf
  rw[hH]
  refine⟨[(6,some (.row 69 0 .nil []))],⟨fun _=>False,⟨_,rfl,id,rfl,rfl,aP _,rfl,rfl⟩,trivial⟩,?_⟩
  show T.sub _ _ (.sl 0 false []) (.own 6)
  simp only[T.sub]
  exact⟨trivial,trivial,rfl,by decide,69,rfl⟩
 conv=>whnf
 rw[yN (by omega:0<l.length)]
 conv=>whnf
 refine .mk (by omega) ?_
 conv=>whnf
 refine aB.fam 20000 [2,3,5,6,24] (fun a:Nat=>[(25,.int a)]) (fun a=>mZ (pW p l on dF w f a)++kE 10000 (fB (g.og a))) (fun a=>a<=l.length) (fun a=>l.length-a) 0 (lJ 10000 (fun j=>10000+j) (dX (pW p l on dF w f 0) [0,1,6])) _ rfl (by decide) (fun _=>rfl) (Nat.zero_le _) (sR rfl) (.inl rfl) ?_ ?_
 ·refine gG.Ij 20000 (pW p l on dF w f 0) [0,1,6] ?_ rfl rfl (Nat.zero_le _) (by rw[gU,Dl]; omega) (by decide) jg ?_
  (repeat' (first|refine bH.lo rfl ?_|refine bH.hi rfl ?_|exact bH.nil))
  exact⟨aT rfl rfl,aT rfl rfl,kX rfl (fH (by omega)) rfl ⟨rfl,rfl⟩ iK,trivial⟩
 conv=>whnf
 refine⟨(sR rfl),rfl,?_⟩
 rintro a ha
 have hrl:(g.og a).length=a:=Dl
 conv=>whnf
 refine⟨fun h1=>?_,fun h1=>?_⟩
 ·have ha':a<l.length:=by simpa using h1
  obtain⟨r0,hr0,hr1⟩:=Dn p.rules.length
  conv=>whnf
  rw[hr0]
  conv=>whnf
  repeat(refine VC.mk (by first|(first|(rw[rP ha]; simpa using ha')|(simp only[Int.toNat_natCast]; rw[rP ha]; exact ha'))|(omega)) ?_; conv=>whnf)
  have hoR:=h.onR a ha'
  have hoL:(wQ 10000 (a+1) l.length).length=l.length:=rP ha'
  refine aB.fam 20000 [2,3,5,6,7,24,25,38,39] (fun i:Nat=>[(40,.int i)]) (fun i=>mZ (pW p l on dF w f (a+1))++kE 10000 (fB (g.og a++[g.BJ a i]))) (fun i=>i<=p.rules.length) (fun i=>p.rules.length-i) 0 (lJ 10000 (fun j=>if j=a then 20009 else 10000+j) (dX (pW p l on dF w f (a+1)) [0,1,6])) _ rfl (by decide) (fun _=>rfl) (Nat.zero_le _) (sR rfl) (.inl rfl) ?_ ?_
  ·refine gG.agI 20000 a 20009 (fB (g.og a)) (pW p l on dF w f (a+1)) [0,1,6] ?_ rfl rfl rfl (Nat.zero_le _) (by rw[gU,List.length_append,hrl]; simp only[List.length_singleton]; omega) (by rw[gU,hrl]; omega) (by decide) jg ?_ (acT hrl) ?_
   (repeat' (first|refine bH.lo rfl ?_|refine bH.hi rfl ?_|exact bH.nil))
   ·intro o ho
    rw[O4 hrl] at ho
    cases ho
    refine⟨_,rfl,?_⟩
    show(OV.row 4 0 r0 []).ay=_
    rw[Yk,gk]
    simp[OV.ay,hr1]
   exact⟨aT rfl rfl,aT rfl rfl,kX rfl (fH (by omega)) rfl ⟨rfl,rfl⟩ (aaH ha'),trivial⟩
  conv=>whnf
  refine⟨(sR rfl),rfl,?_⟩
  rintro i hi
  have hrm:(g.BJ a i).length=p.rules.length:=by rw[aay (by omega),gk]
  have hll:(g.og a++[g.BJ a i]).length=a+1:=by rw[List.length_append,hrl]; rfl
  conv=>whnf
  refine⟨fun h2=>?_,fun h2=>?_⟩
  ·have hi':i<p.rules.length:=by simpa using h2
   conv=>whnf
   repeat(refine VC.mk (by first|(omega)|(simp only[Rw.rng] at *; first|omega|(simp_all; done)|(simp_all; omega))) ?_; conv=>whnf)
   refine AtZ.out (j:=a) (Nat.lt_succ_self a) ?_
   conv=>whnf
   repeat(refine VC.mk (by first|(first|(simp only[Rw.rng]; omega)|(simp only[Rw.rng,Int.toNat_natCast]; omega))|exact fun h=>⟨h,h⟩) ?_; conv=>whnf)
   refine ah.dM (fun _=>S.mW (p.rules.getD i default) w f h.wok (h.ZE i hi') h.wl) rfl ?_
   conv=>whnf
   refine VC.mk id ?_
   conv=>whnf
   refine Us.Rt 20000 ?_ (by rw[gU,hll]; omega) (O4 hrl) ?_
   (repeat' (first|refine bH.lo rfl ?_|refine bH.hi rfl ?_|exact bH.nil))
   conv=>whnf
   refine .mk (by first|(simp only[Rw.rng]; omega)|(simp only[Rw.rng,Int.toNat_natCast]; omega)) ?_
   conv=>whnf
   have hgl:(g.og a++[g.BJ a i]).getD a []=g.BJ a i:=Np hrl
   refine O5.fB (j:=a) (x:=i) 20000 5 (g.wO a i 0) rfl rfl (by rw[hll]; omega) (by rw[hll]; exact Nat.lt_succ_self a) (by rw[hgl,hrm]; exact hi') ?_ ?_
   ·rw[hgl]
    show some (Rw.bools ((g.BJ a i).set i _))=_
    rw[<- aaA (by omega),<- hg]; rfl
   rw[Ro hrl]
   conv=>whnf
   have hge:g.OZ=fun x i=>ZR (p.rules.getD x default) (p.rules.getD i default).fr:=by rw[<- hg]; rfl
   refine aB.fam 20000 [2,3,5,6,7,8,24,25,38,39,40,67] (fun x:Nat=>[(68,.int x),(9,.ptr 7 0 0)]) (fun x=>mZ (aaI p l on dF w f (a+1) i)++kE 10000 (fB (g.og a++[g.wO a i x]))) (fun x=>x<=p.rules.length) (fun x=>p.rules.length-x) 0 (lJ 10000 (fun j=>10000+j) (dX (aaI p l on dF w f (a+1) i) [0,1,6,20004])) _ rfl (by decide) (fun _=>rfl) (Nat.zero_le _) (sR rfl) (.inl rfl) ?_ ?_
   ·refine gG.Ij 20000 (aaI p l on dF w f (a+1) i) [0,1,6,20004] ?_ rfl rfl (Nat.zero_le _) (by rw[gU,List.length_append,hrl]; simp only[List.length_singleton]; omega) (by decide) jg ?_
    (repeat' (first|refine bH.lo rfl ?_|refine bH.hi rfl ?_|exact bH.nil))
    exact⟨aT rfl rfl,aT rfl rfl,kX rfl (fH (by omega)) rfl ⟨rfl,rfl⟩ iK,aT rfl rfl,trivial⟩
   conv=>whnf
   refine⟨(sR rfl),rfl,?_⟩
   rintro x hx
   have hxl:(g.wO a i x).length=p.rules.length:=by rw[aaz (by omega),gk]
   have aaJ:(g.og a++[g.wO a i x]).length=a+1:=by rw[List.length_append,hrl]; rfl
   have agJ:(g.og a++[g.wO a i x]).getD a []=g.wO a i x:=Np hrl
   conv=>whnf
   refine⟨fun h3=>?_,fun h3=>?_⟩
   ·have hx':x<p.rules.length:=by simpa using h3
    conv=>whnf
    refine ah.lend (S.neutral p l on dF w f a x h ha' hx') ⟨aF _,aF _,Jc trivial rfl rfl (by decide),Jc trivial rfl rfl (by decide),trivial⟩ rfl rfl ?_
    rw[hg]
    conv=>whnf
    repeat(refine VC.mk (by first|exact id|exact fun h=>⟨h,h⟩|(intro h; (repeat' apply And.intro)<;>first|exact h|omega|(simp only[Rw.nO]; omega)|(simp only[Rw.rng]; omega))) ?_; conv=>whnf)
    refine ah.dM (fun _=>S.wG (p.rules.getD x default) (p.rules.getD i default).fr w.length (h.ZE x hx') (h.ZE i hi').place.src) rfl ?_
    conv=>whnf
    refine VC.mk id ?_
    conv=>whnf
    refine⟨fun h4=>?_,fun h4=>?_⟩
    ·replace h4:(g.E5 a x&&g.OZ x i)=true:=by rw[hge]; exact h4
     rw[Bool.and_eq_true] at h4
     conv=>whnf
     refine .mk (by omega) ?_
     conv=>whnf
     refine AtZ.out (j:=a) (Nat.lt_succ_self a) ?_
     conv=>whnf
     refine Us.Rt 20000 ?_ (by rw[gU,aaJ]; omega) (O4 hrl) ?_
     (repeat' (first|refine bH.lo rfl ?_|refine bH.hi rfl ?_|exact bH.nil))
     conv=>whnf
     refine .mk (by first|(simp only[Rw.rng]; omega)|(simp only[Rw.rng,Int.toNat_natCast]; omega)) ?_
     conv=>whnf
     refine O5.fB (j:=a) (x:=i) 20000 4 (g.wO a i (x+1)) rfl rfl (by rw[aaJ]; omega) (by rw[aaJ]; exact Nat.lt_succ_self a) (by rw[agJ,hxl]; exact hi') ?_ ?_
     ·rw[agJ]
      show some (Rw.bools ((g.wO a i x).set i false))=_
      rw[aaC h4.1 h4.2]
     rw[Ro hrl]
     conv=>whnf
     refine .mk (by simp only[okI] at *; first|omega|(simp_all; done)|(simp_all; omega)) ?_
     conv=>whnf
     refine iH.BM 20000 (x+1) (fB (g.og a++[g.wO a i (x+1)])) (aaI p l on dF w f (a+1) i) [0,1,6,7] rfl (by omega) (by omega) ?_ rfl rfl (Nat.zero_le _) (by rw[gU,List.length_append,hrl]; simp only[List.length_singleton]; omega) (by decide) jg (sR rfl) (sR rfl) ?_
     (repeat' (first|refine bH.lo rfl ?_|refine bH.hi rfl ?_|exact bH.nil))
     exact⟨aT rfl rfl,aT rfl rfl,kX rfl (fH (by omega)) rfl ⟨rfl,rfl⟩ iK,aT rfl rfl,trivial⟩
    ·replace h4:(g.E5 a x&&g.OZ x i)=false:=by rw[hge]; exact h4
     conv=>whnf
     refine .mk (by simp only[okI] at *; first|omega|(simp_all; done)|(simp_all; omega)) ?_
     conv=>whnf
     refine iH.BM 20000 (x+1) (fB (g.og a++[g.wO a i x])) (aaI p l on dF w f (a+1) i) [0,1,6,7] (by rw[Yl h4]) (by omega) (by omega) ?_ rfl rfl (Nat.zero_le _) (by rw[gU,aaJ]; omega) (by decide) jg (sR rfl) (sR rfl) ?_
     (repeat' (first|refine bH.lo rfl ?_|refine bH.hi rfl ?_|exact bH.nil))
     exact⟨aT rfl rfl,aT rfl rfl,kX rfl (fH (by omega)) rfl ⟨rfl,rfl⟩ iK,aT rfl rfl,trivial⟩
   ·have hx':x=g.k:=by
     have: ¬ x<p.rules.length:=by simpa using h3
     omega
    conv=>whnf
    refine .mk (by simp only[okI] at *; first|omega|(simp_all; done)|(simp_all; omega)) ?_
    conv=>whnf
    refine iH.BM 20000 (i+1) (fB (g.og a++[g.wO a i x])) (pW p l on dF w f (a+1)) [0,1,6] (by rw[hx',aaB (by omega)]) (by omega) (by omega) ?_ rfl rfl (Nat.zero_le _) (by rw[gU,aaJ]; omega) (by decide) jg (sR rfl) (sR rfl) ?_
    (repeat' (first|refine bH.lo rfl ?_|refine bH.hi rfl ?_|exact bH.nil))
    exact⟨aT rfl rfl,aT rfl rfl,kX rfl (fH (by omega)) rfl ⟨rfl,rfl⟩ iK,trivial⟩
  ·have hi':i=g.k:=by
    have: ¬ i<p.rules.length:=by simpa using h2
    omega
   conv=>whnf
   refine .mk (by simp only[okI] at *; first|omega|(simp_all; done)|(simp_all; omega)) ?_
   conv=>whnf
   refine iH.BM 20000 (a+1) (fB (g.og a++[g.BJ a i])) (pW p l on dF w f (a+1)) [0,1,6] (by rw[UZ,hi',aax]) (by omega) (by omega) ?_ rfl rfl (Nat.zero_le _) (by rw[gU,hll]; omega) (by decide) jg (sR rfl) (sR rfl) ?_
   (repeat' (first|refine bH.lo rfl ?_|refine bH.hi rfl ?_|exact bH.nil))
   exact⟨aT rfl rfl,aT rfl rfl,kX rfl (fH (by omega)) rfl ⟨rfl,rfl⟩ iK,trivial⟩
 ·have ha':a=g.n:=by
   have: ¬ a<l.length:=by simpa using h1
   omega
  rw[ha']
  have hI:=Ym (g:=g)
  generalize g.og g.n=R0 at hI
  conv=>whnf
  have hR0:R0.length=l.length:=by rw[hI.len,gn]
  have hoL:(wQ 10000 g.n l.length).length=l.length:=rP (by omega)
  refine aB.fam 20000 [2,3,5,6] (fun s:List (List Bool)×Bool=>[(11,.bool s.2)]) (fun s=>mZ (pW p l on dF w f g.n)++kE 10000 (fB s.1)) (fun s=>g.Inv s.1/\(s.2=false->s.1=g.pG)) (fun s=>2*DT s.1+(bif s.2 then 1 else 0)) (R0,true) (lJ 10000 (fun j=>10000+j) (dX (pW p l on dF w f g.n) [0,1,6])) _ rfl (by decide) (fun _=>rfl) ⟨hI,fun e=>by cases e⟩ (sR rfl) (.inl rfl) ?_ ?_
  ·refine gG.Ij 20000 (pW p l on dF w f g.n) [0,1,6] ?_ rfl rfl (Nat.zero_le _) (by rw[gU]; show 10000+R0.length<=20000; omega) (by decide) jg ?_
   (repeat' (first|refine bH.lo rfl ?_|refine bH.hi rfl ?_|exact bH.nil))
   exact⟨aT rfl rfl,aT rfl rfl,kX rfl (fH (by omega)) rfl ⟨rfl,rfl⟩ iK,trivial⟩
  conv=>whnf
  refine⟨(sR rfl),rfl,?_⟩
  rintro⟨R,ag⟩ ⟨hI,hst⟩
  replace hI:g.Inv R:=hI
  replace hst:ag=false->R=g.pG:=hst
  have hRl:R.length=l.length:=by rw[hI.len,gn]
  conv=>whnf
  refine⟨fun h2=>?_,fun h2=>?_⟩
  ·replace h2:ag=true:=h2
   subst h2
   conv=>whnf
   refine aB.fam 20000 [2,3,5,6,98] (fun s:(List (List Bool)×Bool)×Nat=>[(11,.bool s.1.2),(99,.int s.2)]) (fun s=>mZ (pW p l on dF w f g.n)++kE 10000 (fB s.1.1)) (fun s=>g.qY R s.1.1 s.1.2 s.2 0 0 0/\s.2<=l.length) (fun s=>l.length-s.2) ((R,false),0) (lJ 10000 (fun j=>10000+j) (dX (pW p l on dF w f g.n) [0,1,6])) _ rfl (by decide) (fun _=>rfl) ⟨.zero hI,Nat.zero_le _⟩ (sR rfl) (.inl rfl) ?_ ?_
   ·refine gG.Ij 20000 (pW p l on dF w f g.n) [0,1,6] ?_ rfl rfl (Nat.zero_le _) (by rw[gU]; show 10000+R.length<=20000; omega) (by decide) jg ?_
    (repeat' (first|refine bH.lo rfl ?_|refine bH.hi rfl ?_|exact bH.nil))
    exact⟨aT rfl rfl,aT rfl rfl,kX rfl (fH (by omega)) rfl ⟨rfl,rfl⟩ iK,trivial⟩
   conv=>whnf
   refine⟨(sR rfl),rfl,?_⟩
   rintro⟨⟨R1,ag⟩,a⟩ ⟨hA,ha⟩
   replace hA:g.qY R R1 ag a 0 0 0:=hA
   replace ha:a<=l.length:=ha
   have hR1:R1.length=l.length:=by rw[hA.inv.len,gn]
   conv=>whnf
   refine⟨fun h3=>?_,fun h3=>?_⟩
   ·have ha':a<l.length:=by simpa using h3
    have hoR:=h.onR a ha'
    have haR:=h.afR a ha'
    conv=>whnf
    refine aB.fam 20000 [2,3,5,6,12,98,99,105] (fun s:(List (List Bool)×Bool)×Nat=>[(11,.bool s.1.2),(106,.int s.2)]) (fun s=>mZ (pW p l on dF w f g.n)++kE 10000 (fB s.1.1)) (fun s=>g.qY R s.1.1 s.1.2 a s.2 0 0/\s.2<=p.rules.length) (fun s=>p.rules.length-s.2) ((R1,ag),0) (lJ 10000 (fun j=>10000+j) (dX (pW p l on dF w f g.n) [0,1,6])) _ rfl (by decide) (fun _=>rfl) ⟨hA,Nat.zero_le _⟩ (sR rfl) (.inl rfl) ?_ ?_
    ·refine gG.Ij 20000 (pW p l on dF w f g.n) [0,1,6] ?_ rfl rfl (Nat.zero_le _) (by rw[gU]; show 10000+R1.length<=20000; omega) (by decide) jg ?_
     (repeat' (first|refine bH.lo rfl ?_|refine bH.hi rfl ?_|exact bH.nil))
     exact⟨aT rfl rfl,aT rfl rfl,kX rfl (fH (by omega)) rfl ⟨rfl,rfl⟩ iK,trivial⟩
    conv=>whnf
    refine⟨(sR rfl),rfl,?_⟩
    clear hA hR1
    rintro⟨⟨R1,ag⟩,x⟩ ⟨hA,hx⟩
    replace hA:g.qY R R1 ag a x 0 0:=hA
    replace hx:x<=p.rules.length:=hx
    have hR1:R1.length=l.length:=by rw[hA.inv.len,gn]
    conv=>whnf
    refine⟨fun h4=>?_,fun h4=>?_⟩
    ·have hx':x<p.rules.length:=by simpa using h4
     conv=>whnf
     refine ah.lend (S.neutral p l on dF w f a x h ha' hx') ⟨aF _,aF _,Jc trivial rfl rfl (by decide),Jc trivial rfl rfl (by decide),trivial⟩ rfl rfl ?_
     rw[hg]
     conv=>whnf
     refine⟨fun h5=>?_,fun h5=>?_⟩
     ·replace h5:g.E5 a x=false:=by simpa using h5
      conv=>whnf
      refine .mk (by simp only[okI] at *; first|omega|(simp_all; done)|(simp_all; omega)) ?_
      conv=>whnf
      refine iH.BM 20000 (((R1,ag),x+1)) (fB R1) (pW p l on dF w f g.n) [0,1,6] rfl ⟨hA.agG h5,hx'⟩ (by simp only; omega) ?_ rfl rfl (Nat.zero_le _) (by rw[gU]; omega) (by decide) jg (sR rfl) (sR rfl) ?_
      (repeat' (first|refine bH.lo rfl ?_|refine bH.hi rfl ?_|exact bH.nil))
      exact⟨aT rfl rfl,aT rfl rfl,kX rfl (fH (by omega)) rfl ⟨rfl,rfl⟩ iK,trivial⟩
     ·replace h5:g.E5 a x=true:=by simpa using h5
      have hga:g.dF a x=(dF.getD a []).getD x []:=by rw[<- hg]; rfl
      have ahN:=h.afN a x
      conv=>whnf
      repeat(refine VC.mk (by first|(simp only[Rw.rng]; omega)|(simp only[Rw.rng,Int.toNat_natCast]; omega)) ?_; conv=>whnf)
      refine aB.fam 20000 [2,3,5,6,12,13,98,99,105,106,121,122] (fun s:(List (List Bool)×Bool)×Nat=>[(11,.bool s.1.2),(123,.int s.2)]) (fun s=>mZ (pW p l on dF w f g.n)++kE 10000 (fB s.1.1)) (fun s=>g.qY R s.1.1 s.1.2 a x s.2 0/\s.2<=((dF.getD a []).getD x []).length) (fun s=>((dF.getD a []).getD x []).length-s.2) ((R1,ag),0) (lJ 10000 (fun j=>10000+j) (dX (pW p l on dF w f g.n) [0,1,6])) _ rfl (by decide) (fun _=>rfl) ⟨hA,Nat.zero_le _⟩ (sR rfl) (.inl rfl) ?_ ?_
      ·refine gG.Ij 20000 (pW p l on dF w f g.n) [0,1,6] ?_ rfl rfl (Nat.zero_le _) (by rw[gU]; show 10000+R1.length<=20000; omega) (by decide) jg ?_
       (repeat' (first|refine bH.lo rfl ?_|refine bH.hi rfl ?_|exact bH.nil))
       exact⟨aT rfl rfl,aT rfl rfl,kX rfl (fH (by omega)) rfl ⟨rfl,rfl⟩ iK,trivial⟩
      conv=>whnf
      refine⟨(sR rfl),rfl,?_⟩
      clear hA hR1
      rintro⟨⟨R1,ag⟩,c⟩ ⟨hA,hc⟩
      replace hA:g.qY R R1 ag a x c 0:=hA
      replace hc:c<=((dF.getD a []).getD x []).length:=hc
      have hR1:R1.length=l.length:=by rw[hA.inv.len,gn]
      conv=>whnf
      refine⟨fun h6=>?_,fun h6=>?_⟩
      ·have hc':c<((dF.getD a []).getD x []).length:=by simpa using h6
       have hrow:=hA.inv.row a (by omega)
       rw[gk] at hrow
       conv=>whnf
       repeat(refine VC.mk (by first|(simp only[Rw.rng]; omega)|(simp only[Rw.rng,Int.toNat_natCast]; omega)) ?_; conv=>whnf)
       refine AtZ.out (j:=a) (by omega) ?_
       conv=>whnf
       refine Us.Rt 20000 (L:=fB R1) (j:=a) ?_ (by rw[gU]; omega) (BK (by omega)) ?_
       (repeat' (first|refine bH.lo rfl ?_|refine bH.hi rfl ?_|exact bH.nil))
       conv=>whnf
       have hmem:((dF.getD a []).getD x []).getD c 0∈(dF.getD a []).getD x []:=bZ hc'
       obtain⟨hb0,hb1⟩:=h.sS a x _ hmem
       have hbg:(g.dF a x).getD c 0=((dF.getD a []).getD x []).getD c 0:=by rw[hga]
       have hbn:(((dF.getD a []).getD x []).getD c 0).toNat<l.length:=by omega
       rw[hrow]
       refine aB.fam 20000 [2,3,5,6,12,13,15,98,99,105,106,121,122,123,131] (fun s:(List (List Bool)×Bool)×Nat=>[(11,.bool s.1.2),(132,.int s.2)]) (fun s=>mZ (pW p l on dF w f g.n)++kE 10000 (fB s.1.1)) (fun s=>g.qY R s.1.1 s.1.2 a x c s.2/\s.2<=p.rules.length) (fun s=>p.rules.length-s.2) ((R1,ag),0) (lJ 10000 (fun j=>10000+j) (dX (pW p l on dF w f g.n) [0,1,6])) _ rfl (by decide) (fun _=>rfl) ⟨hA,Nat.zero_le _⟩ (sR rfl) (.inl rfl) ?_ ?_
       ·refine gG.Ij 20000 (pW p l on dF w f g.n) [0,1,6] ?_ rfl rfl (Nat.zero_le _) (by rw[gU]; show 10000+R1.length<=20000; omega) (by decide) jg ?_
        (repeat' (first|refine bH.lo rfl ?_|refine bH.hi rfl ?_|exact bH.nil))
        exact⟨aT rfl rfl,aT rfl rfl,kX rfl (fH (by omega)) rfl ⟨rfl,rfl⟩ iK,trivial⟩
       conv=>whnf
       refine⟨(sR rfl),rfl,?_⟩
       clear hA hR1 hrow
       rintro⟨⟨R1,ag⟩,i⟩ ⟨hA,hi⟩
       replace hA:g.qY R R1 ag a x c i:=hA
       replace hi:i<=p.rules.length:=hi
       have hR1:R1.length=l.length:=by rw[hA.inv.len,gn]
       have hrow:=hA.inv.row a (by omega)
       have agK:=hA.inv.row (((dF.getD a []).getD x []).getD c 0).toNat (by omega)
       rw[gk] at hrow agK
       conv=>whnf
       refine⟨fun h7=>?_,fun h7=>?_⟩
       ·have hi':i<p.rules.length:=by simpa using h7
        conv=>whnf
        refine .mk (by first|(simp only[]; omega)|(simp only[Rw.rng,Int.toNat_natCast]; omega)) ?_
        conv=>whnf
        refine AtZ.out (j:=a) (by omega) ?_
        conv=>whnf
        refine Us.Rt 20000 (L:=fB R1) (j:=a) ?_ (by rw[gU]; omega) (BK (by omega)) ?_
        (repeat' (first|refine bH.lo rfl ?_|refine bH.hi rfl ?_|exact bH.nil))
        conv=>whnf
        refine .mk (by first|(simp only[Rw.rng]; omega)|(simp only[Rw.rng,Int.toNat_natCast]; omega)) ?_
        conv=>whnf
        refine Us.Rt 20000 (L:=fB R1) (j:=a) ?_ (by rw[gU]; omega) (BK (by omega)) ?_
        (repeat' (first|refine bH.lo rfl ?_|refine bH.hi rfl ?_|exact bH.nil))
        conv=>whnf
        repeat(refine VC.mk (by first|(intro h; simp_all; done)|(simp only[Rw.rng] at *; first|omega|(simp_all; done)|(simp_all; omega))) ?_; conv=>whnf)
        refine⟨fun h8=>?_,fun h8=>?_⟩
        ·have h8':gB R1 a i=true:=h8
         conv=>whnf
         refine .mk (by omega) ?_
         conv=>whnf
         refine AtZ.out (j:=(((dF.getD a []).getD x []).getD c 0).toNat) (by omega) ?_
         conv=>whnf
         refine Fork.mk (fun _=>?_) (fun q=>absurd (q.symm.trans (h8)) Bool.false_ne_true)
         conv=>whnf
         refine .mk (by omega) ?_
         conv=>whnf
         refine Us.Rt 20000 (L:=fB R1) (j:=(((dF.getD a []).getD x []).getD c 0).toNat) ?_ (by rw[gU]; omega) (BK (by omega)) ?_
         (repeat' (first|refine bH.lo rfl ?_|refine bH.hi rfl ?_|exact bH.nil))
         conv=>whnf
         refine .mk (by first|(simp only[Rw.rng]; omega)|(simp only[Rw.rng,Int.toNat_natCast]; omega)) ?_
         conv=>whnf
         refine Fork.mk (fun _=>?_) (fun q=>absurd (q.symm.trans (h8)) Bool.false_ne_true)
         conv=>whnf
         refine Us.Rt 20000 (L:=fB R1) (j:=(((dF.getD a []).getD x []).getD c 0).toNat) ?_ (by rw[gU]; omega) (BK (by omega)) ?_
         (repeat' (first|refine bH.lo rfl ?_|refine bH.hi rfl ?_|exact bH.nil))
         conv=>whnf
         repeat(refine VC.mk (by first|exact id|(simp only[Rw.rng] at *; first|omega|(simp_all; done)|(simp_all; omega))) ?_; conv=>whnf)
         refine⟨fun h9=>?_,fun h9=>?_⟩
         ·replace h9:(gB R1 a i&& !(gB R1 (((dF.getD a []).getD x []).getD c 0).toNat i))=true:=h9
          rw[h8',Bool.true_and,Bool.not_eq_true'] at h9
          conv=>whnf
          refine .mk (by omega) ?_
          conv=>whnf
          refine AtZ.out (j:=a) (by omega) ?_
          conv=>whnf
          refine Us.Rt 20000 (L:=fB R1) (j:=a) ?_ (by rw[gU]; omega) (BK (by omega)) ?_
          (repeat' (first|refine bH.lo rfl ?_|refine bH.hi rfl ?_|exact bH.nil))
          conv=>whnf
          refine .mk (by first|(simp only[Rw.rng]; omega)|(simp only[Rw.rng,Int.toNat_natCast]; omega)) ?_
          conv=>whnf
          refine O5.fB (j:=a) (x:=i) (R:=R1) 20000 3 ((R1.getD a []).set i false) rfl rfl (by omega) (by omega) (by omega) rfl ?_
          conv=>whnf
          refine .mk (by simp only[okI] at *; first|omega|(simp_all; done)|(simp_all; omega)) ?_
          conv=>whnf
          refine iH.BM 20000 (((setB R1 a i false,true),i+1)) (fB (setB R1 a i false)) (pW p l on dF w f g.n) [0,1,6] rfl ⟨hA.take (by omega) (by omega) (by rw[hga]; exact hc') (by omega) h5 h8' (by rw[hbg]; exact h9),hi'⟩ (by simp only; omega) ?_ rfl rfl (Nat.zero_le _) (by rw[gU,Rn]; omega) (by decide) jg (sR rfl) (sR rfl) ?_
          (repeat' (first|refine bH.lo rfl ?_|refine bH.hi rfl ?_|exact bH.nil))
          exact⟨aT rfl rfl,aT rfl rfl,kX rfl (fH (by omega)) rfl ⟨rfl,rfl⟩ iK,trivial⟩
         ·replace h9:(gB R1 a i&& !(gB R1 (((dF.getD a []).getD x []).getD c 0).toNat i))=false:=h9
          rw[h8',Bool.true_and,Bool.not_eq_false'] at h9
          conv=>whnf
          refine .mk (by simp only[okI] at *; first|omega|(simp_all; done)|(simp_all; omega)) ?_
          conv=>whnf
          refine iH.BM 20000 (((R1,ag),i+1)) (fB R1) (pW p l on dF w f g.n) [0,1,6] rfl ⟨hA.ael (fun _=>by rw[hbg]; exact h9),hi'⟩ (by simp only; omega) ?_ rfl rfl (Nat.zero_le _) (by rw[gU]; omega) (by decide) jg (sR rfl) (sR rfl) ?_
          (repeat' (first|refine bH.lo rfl ?_|refine bH.hi rfl ?_|exact bH.nil))
          exact⟨aT rfl rfl,aT rfl rfl,kX rfl (fH (by omega)) rfl ⟨rfl,rfl⟩ iK,trivial⟩
        ·have h8':gB R1 a i=false:=h8
         conv=>whnf
         refine Fork.mk (fun q=>absurd (q.symm.trans (h8)).symm Bool.false_ne_true) (fun _=>?_)
         conv=>whnf
         refine Fork.mk (fun q=>absurd (q.symm.trans (h8)).symm Bool.false_ne_true) (fun _=>?_)
         conv=>whnf
         refine Fork.mk (fun q=>absurd (q.symm.trans (h8)).symm Bool.false_ne_true) (fun _=>?_)
         conv=>whnf
         refine .mk (by intro h; simp_all; done) ?_
         conv=>whnf
         refine⟨fun h9=>?_,fun h9=>?_⟩
         ·exfalso
          exact absurd h9 (by simp)
         ·conv=>whnf
          refine .mk (by simp only[okI] at *; first|omega|(simp_all; done)|(simp_all; omega)) ?_
          conv=>whnf
          refine iH.BM 20000 (((R1,ag),i+1)) (fB R1) (pW p l on dF w f g.n) [0,1,6] rfl ⟨hA.ael (fun q=>by rw[h8'] at q; cases q),hi'⟩ (by simp only; omega) ?_ rfl rfl (Nat.zero_le _) (by rw[gU]; omega) (by decide) jg (sR rfl) (sR rfl) ?_
          (repeat' (first|refine bH.lo rfl ?_|refine bH.hi rfl ?_|exact bH.nil))
          exact⟨aT rfl rfl,aT rfl rfl,kX rfl (fH (by omega)) rfl ⟨rfl,rfl⟩ iK,trivial⟩
       ·have hi':g.k<=i:=by
         have: ¬ i<p.rules.length:=by simpa using h7
         omega
        conv=>whnf
        refine .mk (by simp only[okI] at *; first|omega|(simp_all; done)|(simp_all; omega)) ?_
        conv=>whnf
        refine iH.BM 20000 (((R1,ag),c+1)) (fB R1) (pW p l on dF w f g.n) [0,1,6] rfl ⟨hA.agE hi',hc'⟩ (by simp only; omega) ?_ rfl rfl (Nat.zero_le _) (by rw[gU]; omega) (by decide) jg (sR rfl) (sR rfl) ?_
        (repeat' (first|refine bH.lo rfl ?_|refine bH.hi rfl ?_|exact bH.nil))
        exact⟨aT rfl rfl,aT rfl rfl,kX rfl (fH (by omega)) rfl ⟨rfl,rfl⟩ iK,trivial⟩
      ·have hc':((dF.getD a []).getD x []).length<=c:=by simpa using h6
       conv=>whnf
       refine .mk (by simp only[okI] at *; first|omega|(simp_all; done)|(simp_all; omega)) ?_
       conv=>whnf
       refine iH.BM 20000 (((R1,ag),x+1)) (fB R1) (pW p l on dF w f g.n) [0,1,6] rfl ⟨hA.agF (by rw[hga]; exact hc'),hx'⟩ (by simp only; omega) ?_ rfl rfl (Nat.zero_le _) (by rw[gU]; omega) (by decide) jg (sR rfl) (sR rfl) ?_
       (repeat' (first|refine bH.lo rfl ?_|refine bH.hi rfl ?_|exact bH.nil))
       exact⟨aT rfl rfl,aT rfl rfl,kX rfl (fH (by omega)) rfl ⟨rfl,rfl⟩ iK,trivial⟩
    ·have hx':p.rules.length<=x:=by simpa using h4
     conv=>whnf
     refine .mk (by simp only[okI] at *; first|omega|(simp_all; done)|(simp_all; omega)) ?_
     conv=>whnf
     refine iH.BM 20000 (((R1,ag),a+1)) (fB R1) (pW p l on dF w f g.n) [0,1,6] rfl ⟨hA.yQ (by omega),ha'⟩ (by simp only; omega) ?_ rfl rfl (Nat.zero_le _) (by rw[gU]; omega) (by decide) jg (sR rfl) (sR rfl) ?_
     (repeat' (first|refine bH.lo rfl ?_|refine bH.hi rfl ?_|exact bH.nil))
     exact⟨aT rfl rfl,aT rfl rfl,kX rfl (fH (by omega)) rfl ⟨rfl,rfl⟩ iK,trivial⟩
   ·have ha':l.length<=a:=by simpa using h3
    conv=>whnf
    have hinv:g.Inv R1/\(ag=false->R1=g.pG):=⟨hA.inv,fun e=>by subst e; exact hA.all (by omega)⟩
    have hmu:2*DT R1+(bif ag then 1 else 0)<2*DT R+1:=by
     have:=hA.le
     cases ag with
     |false=>simp only[cond_false]; omega
     |true=>have:=hA.lt rfl; simp only[cond_true]; omega
    refine iH.BM 20000 ((R1,ag)) (fB R1) (pW p l on dF w f g.n) [0,1,6] rfl hinv hmu ?_ rfl rfl (Nat.zero_le _) (by rw[gU]; omega) (by decide) jg (sR rfl) (sR rfl) ?_
    (repeat' (first|refine bH.lo rfl ?_|refine bH.hi rfl ?_|exact bH.nil))
    exact⟨aT rfl rfl,aT rfl rfl,kX rfl (fH (by omega)) rfl ⟨rfl,rfl⟩ iK,trivial⟩
  ·replace h2:ag=false:=h2
   have e:=hst h2
   subst e
   have hhl:g.pG.length=l.length:=hRl
   conv=>whnf
   refine Ii.iL (B:=10000) ?_ (by decide) fun j hj=>?_
   ·show some (U0 10000 g.n l.length)=_
    rw[hhl,gn]
   ·refine bH.get (C:=20000) (L:=fB g.pG) ?_ (by rw[gU]; omega) (BK hj)
    (repeat' (first|refine bH.lo rfl ?_|refine bH.hi rfl ?_|exact bH.nil))
abbrev gpV(l:List Elem)(on:List (List Bool))(dF:List (List (List Int))):V:=.agg [.row 3 false (.elems l),.row 0 false (.jO dF),.row 0 false (.iL on)]
theorem acU{p:aC}{l:List Elem}{on:List (List Bool)}{dF:List (List (List Int))}{w:List Int}{a x:Nat}:(IV p l on dF w).E5 a x= !((!((on.getD a []).getD x false)||oK (p.rules.getD x default) w)||rF (p.rules.getD x default) w):=by
 show(((on.getD a []).getD x false&& !(oK (p.rules.getD x default) w))&& !(rF (p.rules.getD x default) w))=_
 cases (on.getD a []).getD x false<;>cases oK (p.rules.getD x default) w<;>rfl
set_option maxHeartbeats 1000000 in
theorem S.BN(p:aC)(l:List Elem)(on:List (List Bool))(dF:List (List (List Int)))(w:List Int)(f:Bool)(G:List Bool)(r i:Nat)(h:Rq p l on dF w)(hG:G.length=l.length)(hr:r<p.rules.length)(hi:i<l.length):aj Tryz.prog 96 [.dat (.iE p),gpV l on dF,.row 0 f (.ints w),.row 0 false (.bools G),.int r,.int i] (.bool ((IV p l on dF w).kept G r i)):=by
 have hn:=h.n; have hk:=h.k; have e1:=h.AV; have e2:=h.yx; have hwl:=h.wl
 have hoR:=h.onR i hi
 have haR:=h.afR i hi
 generalize hg:IV p l on dF w=g
 have gn:g.n=l.length:=by rw[<- hg]; rfl
 have gk:g.k=p.rules.length:=by rw[<- hg]; rfl
 refine aj.of Bd.BN (by simp) rfl rfl ?_
 conv=>whnf
 refine aB.same [2,3,4,5,6,7] (fun x:Nat=>[(13,.int x)]) (fun x=>x<=p.rules.length/\ ∀ x',x'<x->g.E5 i x'=true->g.OZ x' r=false/\ ∀ b∈g.dF i x',G.getD b.toNat false=true) (fun x=>p.rules.length-x) 0 rfl (by decide) rfl (fun _=>rfl) ⟨Nat.zero_le _,fun x hx=>by omega⟩ ⟨⟨_,rfl,rfl⟩,trivial⟩ ?_
 conv=>whnf
 refine⟨rfl,?_⟩
 rintro x ⟨hx,hno⟩
 have hga:g.dF i x=(dF.getD i []).getD x []:=by rw[<- hg]; rfl
 have hgm:g.OZ x r=ZR (p.rules.getD x default) (p.rules.getD r default).fr:=by rw[<- hg]; rfl
 have hgn:g.E5 i x= !((!((on.getD i []).getD x false)||oK (p.rules.getD x default) w)||rF (p.rules.getD x default) w):=by rw[<- hg]; exact acU
 have ahN:=h.afN i x
 conv=>whnf
 refine⟨fun h3=>?_,fun h3=>?_⟩
 ·have hx':x<p.rules.length:=by simpa using h3
  conv=>whnf
  repeat(refine VC.mk (by first|(first|(simp only[Rw.rng]; omega)|(simp only[Rw.rng,Int.toNat_natCast]; omega)|(intro _; simp only[Rw.rng]; omega))|exact fun h=>h|exact fun h=>⟨h,h⟩|(intro h; (repeat' apply And.intro)<;>first|exact h|omega|(simp only[Rw.nO]; omega)|(simp only[Rw.rng]; omega))) ?_; conv=>whnf)
  refine ah.dM (fun _=>S.nX (p.rules.getD x default) w f h.wok (h.ZE x hx') h.wl) rfl ?_
  conv=>whnf
  repeat(refine VC.mk (by first|exact id|exact fun h=>⟨h,h⟩|(intro h; rw[h]; rfl)|(intro h; (repeat' apply And.intro)<;>first|exact h|omega|(simp only[Rw.nO]; omega)|(simp only[Rw.rng]; omega))) ?_; conv=>whnf)
  refine ah.dM (fun _=>S.oL (p.rules.getD x default) w f h.wok (h.ZE x hx') h.wl) rfl ?_
  conv=>whnf
  refine .mk (by intro h; rw[h]; rfl) ?_
  conv=>whnf
  refine⟨fun h4=>?_,fun h4=>?_⟩
  ·replace h4:g.E5 i x=false:=by rw[hgn,show((!((on.getD i []).getD x false)||oK (p.rules.getD x default) w)||rF (p.rules.getD x default) w)=true from h4]; rfl
   conv=>whnf
   refine .mk (by simp only[okI] at *; first|omega|(simp_all; done)|(simp_all; omega)) ?_
   conv=>whnf
   refine⟨x+1,⟨hx',fun x' h1 h2=>?_⟩,by omega,⟨⟨_,rfl,rfl⟩,trivial⟩,?_,rfl⟩
   ·rcases Nat.lt_or_ge x' x with q|q
    ·exact hno x' q h2
    ·have:x'=x:=by omega
     subst this; rw[h4] at h2; cases h2
   ·repeat' (first|exact trivial|exact⟨_,rfl,rfl⟩|constructor)
  ·replace h4:g.E5 i x=true:=by rw[hgn,show((!((on.getD i []).getD x false)||oK (p.rules.getD x default) w)||rF (p.rules.getD x default) w)=false from h4]; rfl
   conv=>whnf
   repeat(refine VC.mk (by first|(simp only[Rw.rng]; omega)|(simp only[Rw.rng,Int.toNat_natCast]; omega)) ?_; conv=>whnf)
   refine ah.pure (S.yK (p.rules.getD x default) (p.rules.getD r default).fr w.length (h.ZE x hx') (h.ZE r hr).place.src) rfl ?_
   conv=>whnf
   refine⟨fun h5=>?_,fun h5=>?_⟩
   ·replace h5:g.OZ x r=true:=by rw[hgm]; exact h5
    conv=>whnf
    refine ak.bool ?_
    refine Bool.eq_false_iff.2 fun q=>?_
    have:=(BI.1 q x (by omega) h4).1
    rw[h5] at this; cases this
   ·replace h5:g.OZ x r=false:=by rw[hgm]; exact h5
    conv=>whnf
    refine aB.same [2,3,4,5,6,7,13] (fun c:Nat=>[(14,.int c)]) (fun c=>c<=((dF.getD i []).getD x []).length/\ ∀ c',c'<c->G.getD (((dF.getD i []).getD x []).getD c' 0).toNat false=true) (fun c=>((dF.getD i []).getD x []).length-c) 0 rfl (by decide) rfl (fun _=>rfl) ⟨Nat.zero_le _,fun x hx=>by omega⟩ ⟨⟨_,rfl,rfl⟩,trivial⟩ ?_
    conv=>whnf
    refine⟨rfl,?_⟩
    rintro c ⟨hc,hcn⟩
    conv=>whnf
    repeat(refine VC.mk (by first|(simp only[Rw.rng]; omega)|(simp only[Rw.rng,Int.toNat_natCast]; omega)) ?_; conv=>whnf)
    refine⟨fun h6=>?_,fun h6=>?_⟩
    ·have hc':c<((dF.getD i []).getD x []).length:=by simpa using h6
     obtain⟨hb0,hb1⟩:=h.sS i x _ (bZ (d:=0) hc')
     conv=>whnf
     repeat(refine VC.mk (by first|(simp only[Rw.rng]; omega)|(simp only[Rw.rng,Int.toNat_natCast]; omega)) ?_; conv=>whnf)
     refine⟨fun h7=>?_,fun h7=>?_⟩
     ·replace h7:G.getD (((dF.getD i []).getD x []).getD c 0).toNat false=false:=by simpa using h7
      conv=>whnf
      refine ak.bool ?_
      refine Bool.eq_false_iff.2 fun q=>?_
      have:=(BI.1 q x (by omega) h4).2 (((dF.getD i []).getD x []).getD c 0) (by rw[hga]; exact bZ hc')
      rw[h7] at this; cases this
     ·replace h7:G.getD (((dF.getD i []).getD x []).getD c 0).toNat false=true:=by simpa using h7
      conv=>whnf
      refine .mk (by simp only[okI] at *; first|omega|(simp_all; done)|(simp_all; omega)) ?_
      conv=>whnf
      refine⟨c+1,⟨hc',fun c' h1=>?_⟩,by omega,⟨⟨_,rfl,rfl⟩,trivial⟩,?_,rfl⟩
      ·rcases Nat.lt_or_ge c' c with q|q
       ·exact hcn c' q
       ·have:c'=c:=by omega
        subst this; exact h7
      ·repeat' (first|exact trivial|exact⟨_,rfl,rfl⟩|constructor)
    ·have hc':((dF.getD i []).getD x []).length<=c:=by simpa using h6
     conv=>whnf
     refine .mk (by simp only[okI] at *; first|omega|(simp_all; done)|(simp_all; omega)) ?_
     conv=>whnf
     refine⟨x+1,⟨hx',fun x' h1 h2=>?_⟩,by omega,⟨⟨_,rfl,rfl⟩,trivial⟩,?_,rfl⟩
     ·rcases Nat.lt_or_ge x' x with q|q
      ·exact hno x' q h2
      ·have:x'=x:=by omega
       subst this
       refine⟨h5,fun b hb=>?_⟩
       rw[hga] at hb
       obtain⟨c',hc1,rfl⟩:=List.mem_iff_getElem.1 hb
       have:=hcn c' (by omega)
       rw[getD_some hc1] at this; exact this
     ·repeat' (first|exact trivial|exact⟨_,rfl,rfl⟩|constructor)
 ·have hx':p.rules.length<=x:=by simpa using h3
  conv=>whnf
  exact ak.bool (BI.2 fun x' h1 h2=>hno x' (by omega) h2)
theorem ak.ownB{h:Hz}{j:Nat}{l:List Bool}(q:h.get j=some (rowB l)):ak (.row 0 false (.bools l)) (.own j) h:=⟨by
 show T.sub _ h.au (.sl 0 false (l.map T.bool)) (.own j)
 simp only[T.sub]
 refine⟨trivial,trivial,?_,by decide,4,?_⟩
 ·rw[dR]; intro t ht; obtain⟨x,_,rfl⟩:=List.mem_map.1 ht; rfl
 ·rw[aO q]; simp[OV.ay,Rw.aS,V.aS]⟩
theorem aem{h:Hz}{j:Nat}{Z:Nat->Prop}{l:List Bool}(hz:Z j)(q:h.get j=some (rowB l)):T.sub Z h.au (V.row 0 false (.bools l)).aI (V.own j).aI:=by
 show T.sub _ h.au (.sl 0 false (l.map T.bool)) (.own j)
 simp only[T.sub]
 refine⟨trivial,hz,?_,by decide,4,?_⟩
 ·rw[dR]; intro t ht; obtain⟨x,_,rfl⟩:=List.mem_map.1 ht; rfl
 ·rw[aO q]; simp[OV.ay,Rw.aS,V.aS]
abbrev ae2(l:List Elem)(on:List (List Bool))(dF:List (List (List Int))):OV:=.box 72 4 (gpV l on dF)
abbrev ae3(p:aC)(l:List Elem)(on:List (List Bool))(dF:List (List (List Int)))(G:List Bool):List (Nat×OV):=[(0,LV p),(1,ae2 l on dF),(6,rowB G)]
set_option maxHeartbeats 1000000 in
theorem S.qO(p:aC)(l:List Elem)(on:List (List Bool))(dF:List (List (List Int)))(w:List Int)(f:Bool)(r:Nat)(h:Rq p l on dF w)(hr:r<p.rules.length):aj Tryz.prog 64 [.dat (.iE p),gpV l on dF,.row 0 f (.ints w),.int r] (.row 0 false (.bools ((IV p l on dF w).Eo r))):=by
 have hn:=h.n; have hk:=h.k; have e1:=h.AV; have e2:=h.yx; have hwl:=h.wl
 generalize hg:IV p l on dF w=g
 have gn:g.n=l.length:=by rw[<- hg]; rfl
 have gk:g.k=p.rules.length:=by rw[<- hg]; rfl
 obtain⟨r0,hr0,hr1⟩:=Dn l.length
 refine aj.of Bd.qO (by simp) rfl rfl ?_
 conv=>whnf
 rw[hr0]
 conv=>whnf
 refine .mk (by omega) ?_
 conv=>whnf
 refine aB.nD 20 [2,3,4,5] (fun i:Nat=>[(10,.int i),(9,.own 6)]) (fun i=>ae3 p l on dF (g.Ep r i)) (fun i=>i<=l.length) (fun i=>l.length-i) 0 [0,1,6] rfl (by decide) (fun _=>rfl) (Nat.zero_le _) ?_ ?_ ?_
 ·exact(sR rfl)
 ·refine⟨aT rfl rfl,aT rfl rfl,okF rfl nofun rfl rfl rfl ⟨rfl,rfl⟩ ?_,trivial⟩
  rw[Yn,gn]
  simp[OV.ay,hr1]
 conv=>whnf
 refine⟨(sR rfl),rfl,?_⟩
 rintro i hi
 have hbl:(g.Ep r i).length=l.length:=by rw[aaD (by omega),gn]
 conv=>whnf
 refine⟨fun h1=>?_,fun h1=>?_⟩
 ·have hi':i<l.length:=by
   have:(i:Int)<((g.Ep r i).length:Int):=of_decide_eq_true h1
   omega
  have hoR:=h.onR i hi'
  have hbs:=aaE (g:=g) (r:=r) (i:=i) (by omega)
  conv=>whnf
  repeat(refine VC.mk (by first|(first|(simp only[Rw.rng]; omega)|(simp only[Rw.rng,Int.toNat_natCast]; omega)|(intro _; simp only[Rw.rng]; omega))|exact fun h=>h|exact fun h=>⟨h,h⟩|(intro h; (repeat' apply And.intro)<;>first|exact h|omega|(simp only[Rw.nO]; omega)|(simp only[Rw.rng]; omega))) ?_; conv=>whnf)
  refine ah.dM (fun _=>S.oL (p.rules.getD r default) w f h.wok (h.ZE r hr) h.wl) rfl ?_
  conv=>whnf
  repeat(refine VC.mk (by first|(first|(simp only[Rw.rng,Int.toNat_natCast]; omega))|exact fun h=>h|(simp only[okI] at *; first|omega|(simp_all; done)|(simp_all; omega))) ?_; conv=>whnf)
  refine⟨i+1,[0,1,6],hi',by omega,(sR rfl),(sR rfl),?_⟩
  rw[<- hbs,<- hg]
  exact⟨aT rfl rfl,aT rfl rfl,aT rfl rfl,trivial⟩
 ·have hi':l.length<=i:=by
   have: ¬ ((i:Int)<((g.Ep r i).length:Int)):=of_decide_eq_false h1
   omega
  have hie:i=g.n:=by omega
  have hI:=aaF (g:=g) (r:=r)
  rw[hie]
  generalize g.Ep r g.n=G0 at hI
  conv=>whnf
  refine aB.nD 20 [2,3,4,5] (fun s:List Bool×Bool=>[(11,.bool s.2),(9,.own 6)]) (fun s=>ae3 p l on dF s.1) (fun s=>g.Inv1 r s.1/\(s.2=false->s.1=g.Eo r)) (fun s=>2*s.1.countP (fun b=>b)+(bif s.2 then 1 else 0)) (G0,true) [0,1,6] rfl (by decide) (fun _=>rfl) ⟨hI,fun e=>by cases e⟩ ?_ ?_ ?_
  ·exact(sR rfl)
  ·skip
   exact⟨aT rfl rfl,aT rfl rfl,aT rfl rfl,trivial⟩
  conv=>whnf
  refine⟨(sR rfl),rfl,?_⟩
  rintro⟨G,ag⟩ ⟨hI,hst⟩
  replace hI:g.Inv1 r G:=hI
  replace hst:ag=false->G=g.Eo r:=hst
  conv=>whnf
  refine⟨fun h2=>?_,fun h2=>?_⟩
  ·replace h2:ag=true:=h2
   subst h2
   conv=>whnf
   refine aB.nD 20 [2,3,4,5] (fun s:(List Bool×Bool)×Nat=>[(11,.bool s.1.2),(12,.int s.2),(9,.own 6)]) (fun s=>ae3 p l on dF s.1.1) (fun s=>g.IU r G s.1.1 s.1.2 s.2/\s.2<=l.length) (fun s=>l.length-s.2) ((G,false),0) [0,1,6] rfl (by decide) (fun _=>rfl) ⟨.zero hI,Nat.zero_le _⟩ ?_ ?_ ?_
   ·exact(sR rfl)
   ·skip
    exact⟨aT rfl rfl,aT rfl rfl,aT rfl rfl,trivial⟩
   conv=>whnf
   refine⟨(sR rfl),rfl,?_⟩
   rintro⟨⟨G1,ag⟩,i⟩ ⟨hA,hi⟩
   replace hA:g.IU r G G1 ag i:=hA
   replace hi:i<=l.length:=hi
   have hG1:G1.length=l.length:=by rw[hA.inv.len,gn]
   conv=>whnf
   refine⟨fun h3=>?_,fun h3=>?_⟩
   ·have hi':i<l.length:=by
     have:(i:Int)<(G1.length:Int):=of_decide_eq_true h3
     omega
    conv=>whnf
    repeat(refine VC.mk (by first|(first|(simp only[Rw.rng]; omega)|(simp only[Int.toNat_natCast]; omega))|(intro h; simp only[h,true_and]; done)) ?_; conv=>whnf)
    refine ah.Nr (fun _=>S.BN p l on dF w f G1 r i h hG1 hr hi') (fun _=>⟨aF _,aF _,aF _,aem trivial rfl,aF _,aF _,trivial⟩) rfl rfl ?_
    rw[hg]
    conv=>whnf
    repeat(refine VC.mk id ?_; conv=>whnf)
    refine⟨fun h4=>?_,fun h4=>?_⟩
    ·replace h4:(G1.getD i false&& !(g.kept G1 r i))=true:=h4
     rw[Bool.and_eq_true,Bool.not_eq_true'] at h4
     conv=>whnf
     repeat(refine VC.mk (by first|(first|(simp only[Rw.rng]; omega)|(simp only[]; omega))|(simp only[okI] at *; first|omega|(simp_all; done)|(simp_all; omega))) ?_; conv=>whnf)
     refine⟨((G1.set i false,true),i+1),[0,1,6],⟨hA.take (by omega) h4.1 h4.2,hi'⟩,by simp only; omega,(sR rfl),(sR rfl),?_⟩
     exact⟨aT rfl rfl,aT rfl rfl,aT rfl rfl,trivial⟩
    ·replace h4:(G1.getD i false&& !(g.kept G1 r i))=false:=h4
     conv=>whnf
     refine .mk (by simp only[okI] at *; first|omega|(simp_all; done)|(simp_all; omega)) ?_
     conv=>whnf
     refine⟨((G1,ag),i+1),[0,1,6],⟨hA.next (fun q=>by rw[q,Bool.true_and,Bool.not_eq_false'] at h4; exact h4),hi'⟩,by simp only; omega,(sR rfl),(sR rfl),?_⟩
     exact⟨aT rfl rfl,aT rfl rfl,aT rfl rfl,trivial⟩
   ·have hi':g.n<=i:=by
     have: ¬ ((i:Int)<(G1.length:Int)):=of_decide_eq_false h3
     omega
    conv=>whnf
    refine⟨(G1,ag),[0,1,6],⟨hA.inv,fun e=>by subst e; exact hA.all hi'⟩,?_,(sR rfl),(sR rfl),?_⟩
    ·have:=hA.le
     show 2*G1.countP (fun b=>b)+(bif ag then 1 else 0)<2*G.countP (fun b=>b)+1
     cases ag with
     |false=>simp only[cond_false]; omega
     |true=>have:=hA.lt rfl; simp only[cond_true]; omega
    exact⟨aT rfl rfl,aT rfl rfl,aT rfl rfl,trivial⟩
  ·replace h2:ag=false:=h2
   have e:=hst h2
   subst e
   conv=>whnf
   exact ak.ownB rfl
def fO:List Int->Option OV
 |[]=>none
 |x::r=>some (nN (x::r))
abbrev fI(R:List (List Int)):List (Option OV):=R.map fO
def WJ(B:Nat)(R:List (List Int))(j:Nat):V:=match R.getD j [] with
 |[]=>vw .nil
 |_::_=>.inn (B+j)
def outW(B:Nat)(R:List (List Int)):List V:=(List.range R.length).map (WJ B R)
abbrev Yo(B:Nat)(R:List (List Int)):OV:=.gen 24 0 (outW B R)
theorem mG{B:Nat}{R:List (List Int)}:(outW B R).length=R.length:=by simp[outW]
theorem y9{B j:Nat}{R:List (List Int)}(h:j<R.length):(outW B R)[j]? =some (WJ B R j):=by
 unfold outW; rw[List.getElem?_map,List.getElem?_range h]; rfl
theorem oQ{B j:Nat}{R:List (List Int)}:(R.getD j []=[]/\WJ B R j=vw .nil)\/(R.getD j []≠[]/\WJ B R j= .inn (B+j)):=by
 unfold WJ
 cases R.getD j [] with
 |nil=>exact .inl ⟨rfl,rfl⟩
 |cons x r=>exact .inr ⟨(by simp),rfl⟩
theorem vP{B nx:Nat}{R:List (List Int)}(h:B+R.length<=nx):(Yo B R).good nx=true:=by
 refine Fq (fun v hv=>?_) fun v hv=>?_
 ·obtain⟨j,hj,rfl⟩:=List.mem_map.1 hv
  rcases oQ (B:=B) (j:=j) (R:=R) with ⟨_,e⟩|⟨_,e⟩<;>rw[e]<;>rfl
 ·obtain⟨j,hj,rfl⟩:=List.mem_map.1 hv
  have:=List.mem_range.1 hj
  rcases oQ (B:=B) (j:=j) (R:=R) with ⟨_,e⟩|⟨_,e⟩<;>rw[e]
  ·rfl
  ·show Nat.blt (B+j) nx=true
   exact Nat.blt_eq.mpr (by omega)
theorem J5{B:Nat}{R:List (List Int)}{f:Nat->Nat}:bD (T.bU (lJ B (fun j=>B+j) f) (Yo B R).ay.l) (Yo B R).ay.l:=by
 refine bD.of_eq ?_
 show T.bU _ (V.aS (outW B R))=V.aS (outW B R)
 rw[pV,bJ,List.map_map]
 refine List.map_congr_left fun v hv=>?_
 obtain⟨j,hj,rfl⟩:=List.mem_map.1 hv
 rcases oQ (B:=B) (j:=j) (R:=R) with ⟨_,e⟩|⟨_,e⟩
 ·simp only[Function.comp,e]; rfl
 ·simp only[Function.comp,e]
  show T.own (lJ B (fun j=>B+j) f (B+j))=T.own (B+j)
  rw[rQ]
theorem Ru{B i N:Nat}{R:List (List Int)}{c:List Int}{f:Nat->Nat}(hi:i<R.length)(hc:c≠[]):bD (T.bU (lJ B (fun j=>if j=i then N else B+j) f) (Yo B (R.set i c)).ay.l) (OV.gen 24 0 ((outW B R).set i (.own N))).ay.l:=by
 refine bD.of_eq ?_
 show T.bU _ (V.aS (outW B (R.set i c)))=V.aS ((outW B R).set i (.own N))
 rw[pV,bJ,bJ,List.map_map]
 have hl:(outW B (R.set i c)).length=R.length:=by rw[mG,List.length_set]
 apply List.ext_getElem
 ·simp[hl,mG]
 ·intro j h1 h2
  have hj:j<R.length:=by simpa [hl] using h1
  have e1:(outW B (R.set i c))[j]'(by rw[hl]; exact hj)=WJ B (R.set i c) j:=by
   have:=y9 (B:=B) (R:=R.set i c) (j:=j) (by rw[List.length_set]; exact hj)
   rw[List.getElem?_eq_getElem (by rw[hl]; exact hj),Option.some.injEq] at this
   exact this
  simp only[List.getElem_map,Function.comp,e1]
  by_cases hji:j=i
  ·subst hji
   have e2:((outW B R).set j (V.own N))[j]'(by rw[List.length_set,mG]; exact hj)=V.own N:=List.getElem_set_self ..
   rw[e2]
   have e3:(R.set j c).getD j []=c:=by rw[getD_some (by simpa using hi),List.getElem_set_self]
   rcases oQ (B:=B) (j:=j) (R:=R.set j c) with ⟨q,_⟩|⟨_,e⟩
   ·rw[e3] at q; exact absurd q hc
   ·rw[e]
    show T.own (lJ B _ f (B+j))=T.own N
    rw[rQ,if_pos rfl]
  ·have e2:((outW B R).set i (V.own N))[j]'(by rw[List.length_set,mG]; exact hj)=WJ B R j:=by
    rw[List.getElem_set_ne (Ne.symm hji)]
    have:=y9 (B:=B) (R:=R) (j:=j) hj
    rw[List.getElem?_eq_getElem (by rw[mG]; exact hj),Option.some.injEq] at this
    exact this
   rw[e2]
   have e3:(R.set i c).getD j []=R.getD j []:=by rw[List.getD_eq_getElem?_getD,List.getElem?_set_ne (Ne.symm hji),<- List.getD_eq_getElem?_getD]
   have e4:WJ B (R.set i c) j=WJ B R j:=by unfold WJ; rw[e3]
   rw[e4]
   rcases oQ (B:=B) (j:=j) (R:=R) with ⟨_,e⟩|⟨_,e⟩<;>rw[e]
   ·rfl
   ·show T.own (lJ B _ f (B+j))=T.own (B+j)
    rw[rQ,if_neg hji]
theorem Fv{R:List (List Int)}{nx:Nat}: ∀ o,some o∈fI R->o.good nx=true/\o.Ig=true:=by
 intro o h
 obtain⟨r,_,e⟩:=List.mem_map.1 h
 cases r with
 |nil=>cases e
 |cons x r=>cases e; exact⟨rfl,rfl⟩
theorem yA{R:List (List Int)}:(fI R).length=R.length:=List.length_map _
theorem U1{R:List (List Int)}{j:Nat}(h:R.getD j []≠[]):(fI R)[j]? =some (some (nN (R.getD j []))):=by
 have hj:j<R.length:=by
  rcases Nat.lt_or_ge j R.length with q|q
  ·exact q
  ·exact absurd (getD_none q) h
 rw[List.getElem?_map,List.getElem?_eq_getElem hj]
 rw[getD_some hj] at h ⊢
 cases hr:R[j] with
 |nil=>exact absurd hr h
 |cons x r=>rfl
theorem aaK{R:List (List Int)}{i:Nat}{c:List Int}: ∀ j o,j≠i->(fI (R.set i c))[j]? =some (some o)->(fI R)[j]? =some (some o):=by
 intro j o hj q
 rw[List.getElem?_map,List.getElem?_set_ne (Ne.symm hj)] at q
 rw[List.getElem?_map]; exact q
theorem aen{R:List (List Int)}{i:Nat}{c:List Int}{o:OV}(hi:i<R.length)(hc:c≠[])(q:(fI (R.set i c))[i]? =some (some o)):o=nN c:=by
 have e:(R.set i c).getD i []=c:=by rw[getD_some (by simpa using hi),List.getElem_set_self]
 rw[U1 (by rw[e]; exact hc),e] at q
 cases q; rfl
theorem Ii.iG{h:Hz}{i B:Nat}{R:List (List Int)}(hi:h.get i=some (Yo B R))(hB:i<B)(hR: ∀ j,R.getD j []≠[]->h.get (B+j)=some (nN (R.getD j []))):Ii (.row 0 false (.iG R)) (.own i) h:=by
 have hl:(OV.row 24 0 (.iG R) []).ay.l=R.map Go.Ab.ints:=by simp[OV.ay,Rw.aS,V.aS]
 have hel: ∀ j (hj:j<R.length),(outW B R)[j]'(by rw[mG]; exact hj)=WJ B R j:=fun j hj=>by
  have:=y9 (B:=B) (R:=R) (j:=j) hj
  rw[List.getElem?_eq_getElem (by rw[mG]; exact hj),Option.some.injEq] at this
  exact this
 refine⟨[(i,some (.row 24 0 (.iG R) []))],⟨fun c=>B<=c,⟨_,hi,by omega,rfl,rfl,?_,?_,?_⟩,trivial⟩,?_⟩
 ·rw[hl]
  show T.dP _ _ _ (V.aS (outW B R))
  refine Jb (by rw[dQ,mG,List.length_map]) fun j t u h1 h2=>?_
  have hj:j<R.length:=by have:=(List.getElem?_eq_some_iff.1 h1).1; simpa using this
  rw[bJ,List.getElem?_map,y9 hj] at h2
  rw[List.getElem?_map,List.getElem?_eq_getElem hj] at h1
  cases h1; cases h2
  have hRj:R.getD j []=R[j]:=getD_some hj
  rcases oQ (B:=B) (j:=j) (R:=R) with ⟨q,e⟩|⟨q,e⟩
  ·rw[e]; rw[hRj] at q; rw[q]
   show T.sub _ _ (.sl 0 false []) (.sl 0 true [])
   simp[T.sub]
  ·rw[e]
   have:=aO (hR j q)
   rw[hRj] at this
   simp only[V.aI,T.sub]
   refine⟨trivial,Nat.le_add_right _ _,?_,by decide,3,?_⟩
   ·rw[dR]; intro t ht; obtain⟨x,_,rfl⟩:=List.mem_map.1 ht; rfl
   ·rw[this]; simp[OV.ay,Rw.aS,V.aS]
 ·rw[hl]
  show _=List.map T.kd (V.aS (outW B R))
  rw[bJ,List.map_map,List.map_map]
  apply List.ext_getElem
  ·simp[mG]
  ·intro j h1 h2
   have hj:j<R.length:=by simpa using h1
   simp only[List.getElem_map,Function.comp,hel j hj]
   rcases oQ (B:=B) (j:=j) (R:=R) with ⟨_,e⟩|⟨_,e⟩<;>rw[e]<;>rfl
 ·rw[hl]
  show _=List.map fZ (V.aS (outW B R))
  rw[bJ,List.map_map,List.map_map]
  apply List.ext_getElem
  ·simp[mG]
  ·intro j h1 h2
   have hj:j<R.length:=by simpa using h1
   simp only[List.getElem_map,Function.comp,hel j hj]
   rcases oQ (B:=B) (j:=j) (R:=R) with ⟨_,e⟩|⟨_,e⟩<;>rw[e]<;>rfl
 ·show T.sub _ _ (.sl 0 false (R.map Go.Ab.ints)) (.own i)
  simp only[T.sub]
  refine⟨trivial,trivial,?_,by decide,24,?_⟩
  ·rw[dR]; intro t ht; obtain⟨x,_,rfl⟩:=List.mem_map.1 ht; rfl
  ·rw[<- hl]
   simp[Hz.au,Hz.get,OV.ay]
theorem J6.fI{B:Nat}(C k:Nat){j:Nat}{R:List (List Int)}{h:Hz}{K:Rw->Hz->Prop}(e:h.drop k=kE B (fI R))(ho:DV B C (h.take k)=true)(hC:B+R.length<=C)(hj:R.getD j []≠[])
  (hK:K (.ints (R.getD j [])) (h.take k++kE B ((fI R).set j none))):J6 h (B+j) 3 0 K :=
 J6.fam C (show BL (h.take k) _ h from by rw[BL,<- e,List.take_append_drop]) ho (by rw[yA]; exact hC) (U1 hj) hK
noncomputable def Gr.hl(g:Gr)(a r:Nat):List Int:=((List.range r).filter fun i=>g.hlp a i).map fun i:Nat=>(i:Int)
noncomputable def Gr.iP(g:Gr)(r i:Nat):List (List Int):=(List.range g.n).map fun a=>if a<i then g.hl a (r+1) else g.hl a r
variable {g:Gr}
theorem O7{a r:Nat}:g.hl a (r+1)=if g.hlp a r=true then g.hl a r++[(r:Int)] else g.hl a r:=by
 unfold Gr.hl
 rw[List.range_succ,List.filter_append,List.map_append]
 cases h:g.hlp a r<;>simp[h]
theorem dS{r i:Nat}:(g.iP r i).length=g.n:=by simp[Gr.iP]
theorem oU{r i a:Nat}(ha:a<g.n):(g.iP r i).getD a []=if a<i then g.hl a (r+1) else g.hl a r:=by
 unfold Gr.iP; rw[kP ha]
theorem Yp{r i:Nat}(hi:i<g.n):g.iP r (i+1)=(g.iP r i).set i (g.hl i (r+1)):=by
 refine uF [] (by rw[dS,List.length_set,dS]) fun a ha=>?_
 rw[dS] at ha
 rw[oU ha]
 by_cases hai:a=i
 ·subst hai
  rw[if_pos (Nat.lt_succ_self a),getD_some (by rw[List.length_set,dS]; exact ha),List.getElem_set_self]
 ·rw[List.getD_eq_getElem?_getD,List.getElem?_set_ne (Ne.symm hai),<- List.getD_eq_getElem?_getD,oU ha]
  by_cases h1:a<i
  ·rw[if_pos h1,if_pos (by omega)]
  ·rw[if_neg h1,if_neg (by omega)]
theorem U2{r i:Nat}(hi:i<g.n)(h:g.hlp i r=false):g.iP r (i+1)=g.iP r i:=by
 refine uF [] (by rw[dS,dS]) fun a ha=>?_
 rw[dS] at ha
 rw[oU ha,oU ha]
 by_cases hai:a=i
 ·subst hai
  rw[if_pos (Nat.lt_succ_self a),if_neg (Nat.lt_irrefl a),O7,h]; rfl
 ·by_cases h1:a<i
  ·rw[if_pos h1,if_pos (by omega)]
  ·rw[if_neg h1,if_neg (by omega)]
theorem U3{r i:Nat}(hi:g.n<=i):g.iP r i=g.iP (r+1) 0:=by
 refine uF [] (by rw[dS,dS]) fun a ha=>?_
 rw[dS] at ha
 rw[oU ha,oU ha,if_pos (by omega),if_neg (by omega)]
theorem Ns:g.iP g.k 0=g.Fj:=by
 refine uF [] (by rw[dS]; simp[Gr.Fj]) fun a ha=>?_
 rw[dS] at ha
 rw[oU ha,if_neg (by omega)]
 unfold Gr.Fj Gr.hl
 rw[kP ha]
theorem Es:g.iP 0 0=List.replicate g.n []:=by
 refine uF [] (by rw[dS]; simp) fun a ha=>?_
 rw[dS] at ha
 rw[oU ha,if_neg (by omega),getD_some (by simpa using ha)]
 simp[Gr.hl]
theorem ae4{i r:Nat}(h:g.hlp i r=true):g.hl i (r+1)≠[]:=by rw[O7,if_pos h]; simp
abbrev LW(p:aC)(l:List Elem)(on:List (List Bool))(dF:List (List (List Int)))(R:List (List Int)):List (Nat×OV):=[(0,LV p),(1,ae2 l on dF),(6,Yo 10000 R)]
theorem aaL{B n:Nat}:outW B (List.replicate n [])=List.replicate n (vw .nil):=by
 apply List.ext_getElem
 ·simp[mG]
 ·intro j h1 h2
  have hj:j<n:=by simpa using h2
  have:=y9 (B:=B) (R:=List.replicate n []) (j:=j) (by simpa using hj)
  rw[List.getElem?_eq_getElem h1,Option.some.injEq] at this
  rw[this,List.getElem_replicate]
  unfold WJ
  rw[getD_some (by simpa using hj),List.getElem_replicate]
theorem aaM{n j:Nat}{o:OV}:(fI (List.replicate n []))[j]? ≠some (some o):=by
 intro q
 rw[List.getElem?_map,Option.map_eq_some_iff] at q
 obtain⟨c,h1,h2⟩:=q
 have:=List.mem_of_getElem? h1
 rw[List.eq_of_mem_replicate this] at h2
 cases h2
theorem ae5{g:Gr}{a r:Nat}:(g.hl a r).length<=r:=by
 unfold Gr.hl
 rw[List.length_map]
 exact Nat.le_trans (List.length_filter_le ..) (by simp)
set_option maxHeartbeats 2000000 in
theorem S.zf(p:aC)(l:List Elem)(on:List (List Bool))(dF:List (List (List Int)))(w:List Int)(f:Bool)(h:Rq p l on dF w):aj Tryz.prog 36 [.dat (.iE p),gpV l on dF,.row 0 f (.ints w)] (.row 0 false (.iG (IV p l on dF w).Fj)):=by
 have hn:=h.n; have hk:=h.k; have e1:=h.AV; have e2:=h.yx; have hwl:=h.wl
 generalize hg:IV p l on dF w=g
 have gn:g.n=l.length:=by rw[<- hg]; rfl
 have gk:g.k=p.rules.length:=by rw[<- hg]; rfl
 refine aj.ofF Bd.zf rfl (by simp) rfl rfl ?_
 by_cases h0:l.length=0
 ·have hl0:l=[]:=List.length_eq_zero_iff.1 h0
  subst hl0
  have hH:g.Fj=[]:=by unfold Gr.Fj; rw[gn]; rfl
  have hC: ∀ r,g.Eo r=[]:=fun r=>by unfold Gr.Eo; rw[gn]; rfl
  conv=>whnf
  refine .mk (by omega) ?_
  conv=>whnf
  refine aB.nD 20 [2,3,4,7] (fun r:Nat=>[(8,.int r)]) (fun _=>[(0,LV p),(1,ae2 [] on dF),(6,.row 24 0 .nil [])]) (fun r=>r<=p.rules.length) (fun r=>p.rules.length-r) 0 [0,1,6] rfl (by decide) (fun _=>rfl) (Nat.zero_le _) (sR rfl) ⟨aT rfl rfl,aT rfl rfl,aT rfl rfl,trivial⟩ ?_
  conv=>whnf
  refine⟨(sR rfl),rfl,?_⟩
  rintro r hr
  conv=>whnf
  refine⟨fun h1=>?_,fun h1=>?_⟩
  ·have hr':r<p.rules.length:=by simpa using h1
   conv=>whnf
   refine ah.pure (S.qO p [] on dF w f r h hr') rfl ?_
   rw[hg,hC]
   conv=>whnf
   refine aB.times 1 rfl ?_
   conv=>whnf
   refine Fork.mk (fun q=>absurd (q.symm.trans ((rfl:decide ((0:Int)<0)=false))).symm Bool.false_ne_true) (fun _=>?_)
   conv=>whnf
   refine .mk (by simp only[okI] at *; first|omega|(simp_all; done)|(simp_all; omega)) ?_
   conv=>whnf
   exact⟨r+1,[0,1,6],hr',by omega,(sR rfl),(sR rfl),aT rfl rfl,aT rfl rfl,aT rfl rfl,trivial⟩
  ·conv=>whnf
   rw[hH]
   refine⟨[(6,some (.row 24 0 .nil []))],⟨fun _=>False,⟨_,rfl,id,rfl,rfl,aP _,rfl,rfl⟩,trivial⟩,?_⟩
   show T.sub _ _ (.sl 0 false []) (.own 6)
   simp only[T.sub]
   exact⟨trivial,trivial,rfl,by decide,24,rfl⟩
 conv=>whnf
 rw[yN (by omega:0<l.length)]
 conv=>whnf
 refine .mk (by omega) ?_
 conv=>whnf
 refine aB.fam 20000 [2,3,4,7] (fun r:Nat=>[(8,.int r)]) (fun r=>mZ (LW p l on dF (g.iP r 0))++kE 10000 (fI (g.iP r 0))) (fun r=>r<=p.rules.length) (fun r=>p.rules.length-r) 0 (lJ 10000 (fun j=>10000+j) (dX (LW p l on dF (g.iP 0 0)) [0,1,6])) _ rfl (by decide) (fun _=>rfl) (Nat.zero_le _) (sR rfl) (.inl rfl) ?_ ?_
 ·refine gG.fam (g:=fun j=>10000+j) (LW p l on dF (g.iP 0 0)) [0,1,6] ?_ rfl (Nat.zero_le _) (by rw[yA,dS]; omega) (fun j o q=>absurd (by rw[Es] at q; exact q) aaM) (fun j _ o _ q=>absurd (by rw[Es] at q; exact q) aaM)
  refine⟨aT rfl rfl,aT rfl rfl,kX rfl (vP (by rw[dS]; omega)) rfl ⟨rfl,rfl⟩ ?_,trivial⟩
  rw[show g.iP 0 0=List.replicate l.length [] by rw[Es,gn]]
  refine bD.of_eq ?_
  show T.bU _ (V.aS (outW 10000 (List.replicate l.length [])))=V.aS (List.replicate l.length (vw .nil))
  rw[aaL,pV,bJ,List.map_map,List.map_replicate,List.map_replicate]; rfl
 conv=>whnf
 refine⟨(sR rfl),rfl,?_⟩
 rintro r hr
 have hRl:(g.iP r 0).length=l.length:=by rw[dS,gn]
 conv=>whnf
 refine⟨fun h1=>?_,fun h1=>?_⟩
 ·have hr':r<p.rules.length:=by simpa using h1
  conv=>whnf
  refine ah.pure (S.qO p l on dF w f r h hr') rfl ?_
  rw[hg]
  have hcl:(g.Eo r).length=l.length:=by unfold Gr.Eo; simp[gn]
  conv=>whnf
  refine aB.fam 20000 [2,3,4,7,8,9] (fun i:Nat=>[(10,.int i)]) (fun i=>mZ (LW p l on dF (g.iP r i))++kE 10000 (fI (g.iP r i))) (fun i=>i<=l.length) (fun i=>l.length-i) 0 (lJ 10000 (fun j=>10000+j) (dX (LW p l on dF (g.iP r 0)) [0,1,6])) _ rfl (by decide) (fun _=>rfl) (Nat.zero_le _) (sR rfl) (.inl rfl) ?_ ?_
  ·refine gG.Ij 20000 (LW p l on dF (g.iP r 0)) [0,1,6] ?_ rfl rfl (Nat.zero_le _) (by rw[yA,hRl]; omega) (by decide) Fv ?_
   (repeat' (first|refine bH.lo rfl ?_|refine bH.hi rfl ?_|exact bH.nil))
   exact⟨aT rfl rfl,aT rfl rfl,kX rfl (vP (by omega)) rfl ⟨rfl,rfl⟩ J5,trivial⟩
  conv=>whnf
  refine⟨(sR rfl),rfl,?_⟩
  clear hRl
  rintro i hi
  have hRl:(g.iP r i).length=l.length:=by rw[dS,gn]
  conv=>whnf
  refine⟨fun h2=>?_,fun h2=>?_⟩
  ·have hi':i<l.length:=by
    have:(i:Int)<((g.Eo r).length:Int):=of_decide_eq_true h2
    omega
   have hgc:(g.Eo r).getD i false=g.hlp i r:=by unfold Gr.Eo; rw[kP (by omega)]
   have hwo:(outW 10000 (g.iP r i)).length=l.length:=by rw[mG,hRl]
   conv=>whnf
   refine .mk (by first|(simp only[Rw.rng]; omega)|(simp only[Rw.rng,Int.toNat_natCast]; omega)) ?_
   conv=>whnf
   refine⟨fun h3=>?_,fun h3=>?_⟩
   ·replace h3:g.hlp i r=true:=by rw[<- hgc]; exact h3
    have hst:=Yp (g:=g) (r:=r) (i:=i) (by omega)
    have hps:=ae4 h3
    have hln:=O7 (g:=g) (a:=i) (r:=r)
    rw[if_pos h3] at hln
    have hgi:(g.iP r i).getD i []=g.hl i r:=by rw[oU (by omega),if_neg (Nat.lt_irrefl i)]
    conv=>whnf
    refine .mk (by omega) ?_
    conv=>whnf
    refine⟨_,y9 (by omega),?_⟩
    rcases oQ (B:=10000) (j:=i) (R:=g.iP r i) with ⟨q,e⟩|⟨q,e⟩
    ·rw[show WJ 10000 (g.iP r i) (i:Int).toNat=vw .nil from e]
     conv=>whnf
     repeat(refine VC.mk (by first|(show(0+(0+1))*8<=140737488355328/\0+(0+1)<=1152921504606846976; omega)|(omega)|(simp only[okI] at *; first|omega|(simp_all; done)|(simp_all; omega))) ?_; conv=>whnf)
     refine iH.aaN 20000 (i+1) i 20016 (fI (g.iP r i)) (fI (g.iP r (i+1))) (LW p l on dF (g.iP r (i+1))) [0,1,6] rfl hi' (by omega) ?_ rfl rfl rfl (Nat.zero_le _) (by rw[yA,dS]; omega) (by rw[yA,dS]; omega) (by decide) Fv ?_ (by rw[hst]; exact aaK) (sR rfl) (sR rfl) ?_
     (repeat' (first|refine bH.lo rfl ?_|refine bH.hi rfl ?_|exact bH.nil))
     ·intro o ho
      rw[hst] at ho
      rw[aen (by omega) hps ho]
      refine⟨_,rfl,?_⟩
      rw[hln,show g.hl i r=[] by rw[<- hgi]; exact q]; rfl
     exact⟨aT rfl rfl,aT rfl rfl,kX rfl (vP (by rw[dS]; omega)) rfl ⟨rfl,rfl⟩ (by rw[hst]; exact Ru (by omega) hps),trivial⟩
    ·rw[show WJ 10000 (g.iP r i) (i:Int).toNat= .inn (10000+i) from e]
     have hlb:=ae5 (g:=g) (a:=i) (r:=r)
     conv=>whnf
     refine J6.fI 20000 3 rfl rfl (by omega) q ?_
     rw[hgi]
     conv=>whnf
     repeat(refine VC.mk (by first|(show((g.hl i r).length+(0+1))*8<=140737488355328/\(g.hl i r).length+(0+1)<=1152921504606846976; omega)|(omega)|(simp only[okI] at *; first|omega|(simp_all; done)|(simp_all; omega))) ?_; conv=>whnf)
     refine iH.aaN 20000 (i+1) i 20016 ((fI (g.iP r i)).set i none) (fI (g.iP r (i+1))) (LW p l on dF (g.iP r (i+1))) [0,1,6] rfl hi' (by omega) ?_ rfl rfl rfl (Nat.zero_le _) (by rw[yA,dS]; omega) (by rw[List.length_set,yA,dS]; omega) (by decide) Fv ?_ (fun j o hj q=>by rw[hst] at q; rw[List.getElem?_set_ne (Ne.symm hj)]; exact aaK j o hj q) (sR rfl) (sR rfl) ?_
     (repeat' (first|refine bH.lo rfl ?_|refine bH.hi rfl ?_|exact bH.nil))
     ·intro o ho
      rw[hst] at ho
      rw[aen (by omega) hps ho]
      refine⟨_,rfl,?_⟩
      rw[hln]
     exact⟨aT rfl rfl,aT rfl rfl,kX rfl (vP (by rw[dS]; omega)) rfl ⟨rfl,rfl⟩ (by rw[hst]; exact Ru (by omega) hps),trivial⟩
   ·replace h3:g.hlp i r=false:=by rw[<- hgc]; exact h3
    conv=>whnf
    refine .mk (by simp only[okI] at *; first|omega|(simp_all; done)|(simp_all; omega)) ?_
    conv=>whnf
    refine iH.BM 20000 (i+1) (fI (g.iP r i)) (LW p l on dF (g.iP r i)) [0,1,6] (by rw[U2 (by omega) h3]) hi' (by omega) ?_ rfl rfl (Nat.zero_le _) (by rw[yA,hRl]; omega) (by decide) Fv (sR rfl) (sR rfl) ?_
    (repeat' (first|refine bH.lo rfl ?_|refine bH.hi rfl ?_|exact bH.nil))
    exact⟨aT rfl rfl,aT rfl rfl,kX rfl (vP (by omega)) rfl ⟨rfl,rfl⟩ J5,trivial⟩
  ·have hi':g.n<=i:=by
    have: ¬ ((i:Int)<((g.Eo r).length:Int)):=of_decide_eq_false h2
    omega
   conv=>whnf
   refine .mk (by simp only[okI] at *; first|omega|(simp_all; done)|(simp_all; omega)) ?_
   conv=>whnf
   refine iH.BM 20000 (r+1) (fI (g.iP r i)) (LW p l on dF (g.iP r i)) [0,1,6] (by rw[<- U3 hi']) hr' (by omega) ?_ rfl rfl (Nat.zero_le _) (by rw[yA,hRl]; omega) (by decide) Fv (sR rfl) (sR rfl) ?_
   (repeat' (first|refine bH.lo rfl ?_|refine bH.hi rfl ?_|exact bH.nil))
   exact⟨aT rfl rfl,aT rfl rfl,kX rfl (vP (by omega)) rfl ⟨rfl,rfl⟩ J5,trivial⟩
 ·have hr':r=g.k:=by
   have: ¬ r<p.rules.length:=by simpa using h1
   omega
  rw[hr',Ns] at hRl
  rw[hr',Ns]
  conv=>whnf
  refine Ii.iG (B:=10000) rfl (by decide) fun j hj=>?_
  refine bH.get (C:=20000) (L:=fI g.Fj) ?_ (by rw[yA,hRl]; omega) (U1 hj)
  (repeat' (first|refine bH.lo rfl ?_|refine bH.hi rfl ?_|exact bH.nil))
end Go.Proofs.YtajmbgljnaljiaaGreatDoor
