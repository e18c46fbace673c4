/-
 slices.BinarySearchFunc over elements; the reference's find. No condition.
-/
import Derived.Test.YtajmbgljnaljiaaGreatDoorAd
import Derived.Test.YtajmbgljnaljiaaGreatDoorLg
namespace Go.Proofs.YtajmbgljnaljiaaGreatDoor
open Go.Ab Go.Proofs
set_option maxRecDepth 100000
def A8(l:List Elem)(b:Elem)(P:Nat):Bool:=decide (P<l.length)&&(fE (l.getD P default) b==0)
set_option maxHeartbeats 1000000 in
theorem S.BinarySearch(l:List Elem)(b:Elem)(P:Nat)(f:Bool)(hl:l.length<2^30)(hs:eF l)(hb:b.counts.length<2^40)(hP:P<=l.length)(h: ∀ i,i<l.length->(fE (l.getD i default) b<0↔i<P)):aj Tryz.prog 59 [.row 3 f (.elems l),.dat (.elem b),.fn 45 []] (.fZ [.int P,.bool (A8 l b P)]):=by
 refine aj.of Bd.bK (by simp) rfl rfl ?_
 conv=>whnf
 refine aB.same [0,2,4,8] (fun s:Nat×Nat=>[(9,.int s.1),(10,.int s.2)]) (fun s=>s.1<=P/\P<=s.2/\s.2<=l.length) (fun s=>s.2-s.1) (0,l.length) rfl (by decide) rfl (fun _=>rfl) ⟨Nat.zero_le _,hP,Nat.le_refl _⟩ ⟨⟨_,rfl,rfl⟩,⟨_,rfl,rfl⟩,trivial⟩ ?_
 conv=>whnf
 refine⟨rfl,?_⟩
 rintro⟨i,j⟩ ⟨h1,h2,h3⟩
 simp only at h1 h2 h3 ⊢
 conv=>whnf
 refine⟨fun g1=>?_,fun g1=>?_⟩
 ·have hij:i<j:=by simpa using g1
  have hm:aeW ((i:Int)+j) 1=(((i+j) / 2:Nat):Int):=by rw[aaq]; omega
  conv=>whnf
  repeat(refine VC.mk (by first|(rw[hm]; simp only[okI]; omega)|(omega)|(simp only[okI,Rw.rng] at *; first|omega|(simp_all; done)|(simp_all; omega))) ?_; conv=>whnf)
  rw[hm]
  conv=>whnf
  refine ah.pure (S.iH (l.getD ((((i+j) / 2:Nat):Int)).toNat default) b (hs.get _) hb) rfl ?_
  conv=>whnf
  have hlt:(i+j) / 2<l.length:=by omega
  have hq:=h ((i+j) / 2) hlt
  refine⟨fun g2=>?_,fun g2=>?_⟩
  ·have g3:fE (l.getD ((i+j) / 2) default) b<0:=of_decide_eq_true g2
   conv=>whnf
   refine .mk (by simp only[okI] at *; first|omega|(simp_all; done)|(simp_all; omega)) ?_
   conv=>whnf
   refine⟨((i+j) / 2+1,j),⟨by have:=hq.1 g3; omega,h2,h3⟩,by simp only; omega,⟨⟨_,rfl,rfl⟩,⟨_,rfl,rfl⟩,trivial⟩,?_,rfl⟩
   repeat' (first|exact trivial|exact⟨_,rfl,rfl⟩|constructor)
  ·have g3: ¬ fE (l.getD ((i+j) / 2) default) b<0:=of_decide_eq_false g2
   conv=>whnf
   refine⟨(i,(i+j) / 2),⟨h1,by rcases Nat.lt_or_ge ((i+j) / 2) P with q|q; exact absurd (hq.2 q) g3; exact q,by omega⟩,by simp only; omega,⟨⟨_,rfl,rfl⟩,⟨_,rfl,rfl⟩,trivial⟩,?_,rfl⟩
   repeat' (first|exact trivial|exact⟨_,rfl,rfl⟩|constructor)
 ·have hij: ¬ i<j:=by simpa using g1
  have e:i=P:=by omega
  subst e
  conv=>whnf
  repeat(refine VC.mk (by first|exact id|(intro h; simp only[h,true_and]; done)|(simp only[Rw.rng] at *; first|omega|(simp_all; done)|(simp_all; omega))) ?_; conv=>whnf)
  refine ah.dL (fun _=>S.iH (l.getD (i:Int).toNat default) b (hs.get _) hb) rfl ?_
  conv=>whnf
  repeat(refine VC.mk id ?_; conv=>whnf)
  refine ak.eqv ?_
  unfold A8
  simp
  rfl
def fdE(l:List Elem)(b:Elem):Int:=match l.findIdx? (fun x=>fE x b==0) with
 |some i=>i
 |none=> -1
theorem S.yY(l:List Elem)(b:Elem)(f:Bool)(hl:l.length<2^30)(hs:eF l)(hb:b.counts.length<2^40):aj Tryz.prog 65 [.row 3 f (.elems l),.dat (.elem b)] (.int (fdE l b)):=by
 refine aj.of Bd.yY (by simp) rfl rfl ?_
 conv=>whnf
 refine aB.same [0,3] (fun i:Nat=>[(5,.int i)]) (fun i=>i<=l.length/\ ∀ k,k<i->(fE (l.getD k default) b==0)=false) (fun i=>l.length-i) 0 rfl (by decide) rfl (fun _=>rfl) ⟨Nat.zero_le _,fun k hk=>absurd hk (Nat.not_lt_zero _)⟩ ⟨⟨_,rfl,rfl⟩,trivial⟩ ?_
 conv=>whnf
 refine⟨rfl,?_⟩
 rintro i ⟨hi,hno⟩
 conv=>whnf
 refine⟨fun g1=>?_,fun g1=>?_⟩
 ·have hi':i<l.length:=by simpa using g1
  conv=>whnf
  refine .mk (by simp only[Rw.rng] at *; first|omega|(simp_all; done)|(simp_all; omega)) ?_
  conv=>whnf
  refine ah.pure (S.lN (l.getD (i:Int).toNat default) b (hs.get _) hb) rfl ?_
  conv=>whnf
  refine⟨fun g2=>?_,fun g2=>?_⟩
  ·conv=>whnf
   refine ak.int ?_
   have:l.findIdx? (fun x=>fE x b==0)=some i:=by
    rw[List.findIdx?_eq_some_iff_getElem]
    refine⟨hi',?_,fun k hk=>?_⟩
    ·have:(fE (l.getD i default) b==0)=true:=g2
     rw[show l.getD i default=l[i] by simp[hi']] at this; exact this
    ·have hk':k<l.length:=by omega
     have:=hno k hk
     rw[show l.getD k default=l[k] by simp[hk']] at this
     rw[this]; decide
   rw[fdE,this]
  ·conv=>whnf
   refine .mk (by simp only[okI] at *; first|omega|(simp_all; done)|(simp_all; omega)) ?_
   conv=>whnf
   refine⟨i+1,⟨by omega,fun k hk=>?_⟩,by omega,⟨⟨_,rfl,rfl⟩,trivial⟩,?_,rfl⟩
   ·rcases Nat.lt_or_ge k i with q|q
    ·exact hno k q
    ·have:k=i:=by omega
     subst this; exact g2
   ·repeat' (first|exact trivial|exact⟨_,rfl,rfl⟩|constructor)
 ·have hi':l.length<=i:=by simpa using g1
  conv=>whnf
  refine ak.int ?_
  have:l.findIdx? (fun x=>fE x b==0)=none:=by
   rw[List.findIdx?_eq_none_iff]
   intro x hx
   obtain⟨k,hk,rfl⟩:=List.mem_iff_getElem.1 hx
   have:=hno k (by omega)
   rw[show l.getD k default=l[k] by simp[hk]] at this; exact this
  rw[fdE,this]
structure Gr where
 n:Nat
 k:Nat
 Uo:Nat->Nat->Bool
 Fv:Nat->Nat->Bool
 Qq:Nat->Nat->Bool
 dG:Nat->Nat->List Int
variable (g:Gr)
def Gr.Cl(i:Nat)(G:Nat->Prop):Prop:= ∀ a,G a->a<g.n/\g.Uo a i=true/\ ∀ x,x<g.k->g.Fv a x=true->g.Qq x i=false/\ ∀ b∈g.dG a x,G b.toNat
def Gr.Rl(a i:Nat):Prop:= ∃ G,g.Cl i G/\G a
noncomputable def Gr.hlp(a i:Nat):Bool:=@decide (g.Rl a i) (Classical.propDecidable _)
variable {g}
theorem Jd{a i:Nat}:g.hlp a i=true↔g.Rl a i:=by
 unfold Gr.hlp
 exact⟨fun h=>@of_decide_eq_true _ (Classical.propDecidable _) h,fun h=>@decide_eq_true _ (Classical.propDecidable _) h⟩
theorem Rl.cl{i:Nat}:g.Cl i fun a=>g.Rl a i:=by
 rintro a ⟨G,hG,ha⟩
 obtain⟨h1,h2,h3⟩:=hG a ha
 exact⟨h1,h2,fun x hx hn=>⟨(h3 x hx hn).1,fun b hb=>⟨G,hG,(h3 x hx hn).2 b hb⟩⟩⟩
theorem Rl.max{i a:Nat}{G:Nat->Prop}(h:g.Cl i G)(ha:G a):g.Rl a i:=⟨G,h,ha⟩
variable (g)
def gB(R:List (List Bool))(a i:Nat):Bool:=(R.getD a []).getD i false
def Gr.blk(a i:Nat):Bool:=(List.range g.k).any fun x=>g.Fv a x&&g.Qq x i
noncomputable def Gr.ny:List (List Bool):=(List.range g.n).map fun a=>(List.range g.k).map fun i=>g.hlp a i
noncomputable def Gr.pz:List (List Int):=(List.range g.n).map fun a=>((List.range g.k).filter fun i=>g.hlp a i).map fun i:Nat=>(i:Int)
structure Gr.Inv(R:List (List Bool)):Prop where
 len:R.length=g.n
 row: ∀ a,a<g.n->(R.getD a []).length=g.k
 dn: ∀ a i,gB R a i=true->g.Uo a i=true/\g.blk a i=false
 up: ∀ a i,i<g.k->g.Rl a i->gB R a i=true
variable {g}
theorem getD_none{α:Type}{l:List α}{i:Nat}{d:α}(h:l.length<=i):l.getD i d=d:=by
 simp[List.getD_eq_getElem?_getD,List.getElem?_eq_none h]
theorem getD_some{α:Type}{l:List α}{i:Nat}{d:α}(h:i<l.length):l.getD i d=l[i]:=by simp[h]
theorem je{α:Type}{f:Nat->α}{n i:Nat}{d:α}(h:i<n):((List.range n).map f).getD i d=f i:=by
 simp[h]
theorem acM{a i:Nat}(ha:a<g.n)(hi:i<g.k):gB g.ny a i=g.hlp a i:=by
 unfold gB Gr.ny
 rw[je ha,je hi]
theorem uG{α:Type}{l l':List α}(d:α)(h:l.length=l'.length)(H: ∀ i,i<l.length->l.getD i d=l'.getD i d):l=l':=by
 apply List.ext_getElem h
 intro i h1 h2
 have:=H i h1
 rw[getD_some h1,getD_some h2] at this
 exact this
theorem Fz:g.ny.length=g.n:=by simp[Gr.ny]
theorem J6{a:Nat}(ha:a<g.n):(g.ny.getD a []).length=g.k:=by unfold Gr.ny; rw[je ha]; simp
theorem Gr.Inv.done{R:List (List Bool)}(h:g.Inv R)(hs: ∀ a x i,a<g.n->x<g.k->i<g.k->g.Fv a x=true->gB R a i=true-> ∀ b∈g.dG a x,gB R b.toNat i=true):R=g.ny:=by
 refine uG [] (by rw[h.len,Fz]) fun a ha=>?_
 rw[h.len] at ha
 refine uG false (by rw[h.row a ha,J6 ha]) fun i hi=>?_
 rw[h.row a ha] at hi
 show gB R a i=gB g.ny a i
 rw[acM ha hi,Bool.eq_iff_iff,Jd]
 refine⟨fun q=>?_,h.up a i hi⟩
 refine Rl.max (G:=fun a=>a<g.n/\gB R a i=true) ?_ ⟨ha,q⟩
 rintro c ⟨hc,qc⟩
 obtain⟨d1,d2⟩:=h.dn c i qc
 refine⟨hc,d1,fun x hx hn=>⟨?_,fun b hb=>?_⟩⟩
 ·unfold Gr.blk at d2
  rw[List.any_eq_false] at d2
  have:=d2 x (List.mem_range.2 hx)
  rw[hn,Bool.true_and] at this
  exact Bool.eq_false_iff.2 this
 ·have q2:=hs c x i hc hx hi hn qc b hb
  refine⟨?_,q2⟩
  rcases Nat.lt_or_ge b.toNat g.n with hl|hl
  ·exact hl
  ·unfold gB at q2
   rw[show R.getD b.toNat []=[] from getD_none (by rw[h.len]; exact hl)] at q2
   exact absurd q2 (by simp)
def setB(R:List (List Bool))(a i:Nat)(v:Bool):List (List Bool):=R.set a ((R.getD a []).set i v)
theorem Rn{R:List (List Bool)}{a i:Nat}{v:Bool}:(setB R a i v).length=R.length:=by simp[setB]
theorem aar{R:List (List Bool)}{a i c:Nat}{v:Bool}:((setB R a i v).getD c []).length=(R.getD c []).length:=by
 unfold setB
 by_cases hc:c=a
 ·subst hc
  rcases Nat.lt_or_ge c R.length with h|h
  ·rw[getD_some (by simpa using h),List.getElem_set_self,List.length_set]
  ·rw[List.set_eq_of_length_le h]
 ·rw[List.getD_eq_getElem?_getD,List.getElem?_set_ne (Ne.symm hc),<- List.getD_eq_getElem?_getD]
theorem aas{R:List (List Bool)}{a i c j:Nat}{v:Bool}(ha:a<R.length)(hi:i<(R.getD a []).length):gB (setB R a i v) c j=if c=a/\j=i then v else gB R c j:=by
 unfold gB setB
 by_cases hc:c=a
 ·subst hc
  have e:(R.set c ((R.getD c []).set i v)).getD c []=(R.getD c []).set i v:=by
   rw[getD_some (by simpa using ha),List.getElem_set_self]
  rw[e]
  by_cases hj:j=i
  ·subst hj
   rw[if_pos ⟨rfl,rfl⟩,getD_some (by simpa using hi),List.getElem_set_self]
  ·rw[if_neg (fun h=>hj h.2),List.getD_eq_getElem?_getD,List.getElem?_set_ne (Ne.symm hj),<- List.getD_eq_getElem?_getD]
 ·rw[if_neg (fun h=>hc h.1)]
  have e:(R.set a ((R.getD a []).set i v)).getD c []=R.getD c []:=by
   rw[List.getD_eq_getElem?_getD,List.getElem?_set_ne (Ne.symm hc),<- List.getD_eq_getElem?_getD]
  rw[e]
theorem Gr.Inv.take{R:List (List Bool)}(h:g.Inv R){a x i:Nat}{b:Int}(ha:a<g.n)(hx:x<g.k)(hi:i<g.k)(hn:g.Fv a x=true)(hb:b∈g.dG a x)(hg:gB R b.toNat i=false):g.Inv (setB R a i false):=by
 have ha':a<R.length:=by rw[h.len]; exact ha
 have hi':i<(R.getD a []).length:=by rw[h.row a ha]; exact hi
 refine⟨by rw[Rn,h.len],fun c hc=>by rw[aar,h.row c hc],fun c j q=>?_,fun c j hj q=>?_⟩
 ·rw[aas ha' hi'] at q
  split at q
  ·cases q
  ·exact h.dn c j q
 ·rw[aas ha' hi']
  split
  ·rename_i e
   obtain⟨rfl,rfl⟩:=e
   exfalso
   have:=((Rl.cl c q).2.2 x hx hn).2 b hb
   have:=h.up _ _ hi this
   rw[hg] at this; cases this
  ·exact h.up c j hj q
def DV:List (List Bool)->Nat
 |[]=>0
 |r::t=>r.countP (fun b=>b)+DV t
theorem aat: ∀ {R:List (List Bool)} {a i:Nat},gB R a i=true->DV (setB R a i false)+1=DV R:=by
 intro R
 induction R with
 |nil=>intro a i h; simp[gB] at h
 |cons r t ih =>
  intro a i h
  cases a with
  |zero =>
   have hi:i<r.length:=by
    rcases Nat.lt_or_ge i r.length with h1|h1
    ·exact h1
    ·unfold gB at h; rw[List.getD_cons_zero,getD_none h1] at h; cases h
   have hv:r[i]=true:=by unfold gB at h; rw[List.getD_cons_zero,getD_some hi] at h; exact h
   show DV (r.set i false::t)+1=DV (r::t)
   simp only[DV]
   have:(r.set i false).countP (fun b=>b)+1=r.countP fun b=>b:=by
    have key: ∀ {r:List Bool} {i:Nat} (hi:i<r.length),r[i]=true->(r.set i false).countP (fun b=>b)+1=r.countP fun b=>b:=by
     intro r
     induction r with
     |nil=>intro i hi; exact absurd hi (Nat.not_lt_zero _)
     |cons y s ihs =>
      intro i hi hv
      cases i with
      |zero =>
       simp only[List.getElem_cons_zero] at hv
       subst hv
       simp
      |succ i =>
       simp only[List.length_cons] at hi
       simp only[List.getElem_cons_succ] at hv
       have:=ihs (by omega) hv
       simp only[List.set_cons_succ,List.countP_cons]
       omega
    exact key hi hv
   omega
  |succ a =>
   have h':gB t a i=true:=by unfold gB at h ⊢; rw[List.getD_cons_succ] at h; exact h
   have:=ih h'
   show DV (r::setB t a i false)+1=DV (r::t)
   simp only[DV]
   omega
def Gr.kept(g:Gr)(G:List Bool)(i a:Nat):Bool:=(List.range g.k).all fun x=> !(g.Fv a x)||(!(g.Qq x i)&&(g.dG a x).all fun b=>G.getD b.toNat false)
structure Gr.Inv1(g:Gr)(i:Nat)(G:List Bool):Prop where
 len:G.length=g.n
 dn: ∀ a,G.getD a false=true->g.Uo a i=true
 up: ∀ a,g.Rl a i->G.getD a false=true
noncomputable def Gr.Es(g:Gr)(i:Nat):List Bool:=(List.range g.n).map fun a=>g.hlp a i
theorem BH{G:List Bool}{i a:Nat}:g.kept G i a=true↔ ∀ x,x<g.k->g.Fv a x=true->g.Qq x i=false/\ ∀ b∈g.dG a x,G.getD b.toNat false=true:=by
 unfold Gr.kept
 rw[List.all_eq_true]
 constructor
 ·intro h x hx hn
  have:=h x (List.mem_range.2 hx)
  rw[hn,Bool.not_true,Bool.false_or,Bool.and_eq_true,Bool.not_eq_true',List.all_eq_true] at this
  exact this
 ·intro h x hx
  cases hn:g.Fv a x with
  |false=>rfl
  |true =>
   obtain⟨h1,h2⟩:=h x (List.mem_range.1 hx) hn
   rw[Bool.not_true,Bool.false_or,Bool.and_eq_true,Bool.not_eq_true',List.all_eq_true]
   exact⟨h1,h2⟩
theorem Gr.Inv1.done{G:List Bool}{i:Nat}(h:g.Inv1 i G)(hs: ∀ a,a<g.n->G.getD a false=true->g.kept G i a=true):G=g.Es i:=by
 refine uG false (by rw[h.len]; simp[Gr.Es]) fun a ha=>?_
 rw[h.len] at ha
 unfold Gr.Es
 rw[je ha,Bool.eq_iff_iff,Jd]
 refine⟨fun q=>?_,h.up a⟩
 refine Rl.max (G:=fun a=>a<g.n/\G.getD a false=true) ?_ ⟨ha,q⟩
 rintro c ⟨hc,qc⟩
 refine⟨hc,h.dn c qc,fun x hx hn=>?_⟩
 obtain⟨h1,h2⟩:=BH.1 (hs c hc qc) x hx hn
 refine⟨h1,fun b hb=>⟨?_,h2 b hb⟩⟩
 rcases Nat.lt_or_ge b.toNat g.n with hl|hl
 ·exact hl
 ·have q2:=h2 b hb
  rw[getD_none (by rw[h.len]; exact hl)] at q2
  cases q2
theorem Gr.Inv1.take{G:List Bool}{i a:Nat}(h:g.Inv1 i G)(ha:a<g.n)(hk:g.kept G i a=false):g.Inv1 i (G.set a false):=by
 have ha':a<G.length:=by rw[h.len]; exact ha
 have hg: ∀ c,(G.set a false).getD c false=if c=a then false else G.getD c false:=by
  intro c
  by_cases hc:c=a
  ·subst hc; rw[if_pos rfl,getD_some (by simpa using ha'),List.getElem_set_self]
  ·rw[if_neg hc,List.getD_eq_getElem?_getD,List.getElem?_set_ne (Ne.symm hc),<- List.getD_eq_getElem?_getD]
 refine⟨by rw[List.length_set,h.len],fun c q=>?_,fun c q=>?_⟩
 ·rw[hg] at q
  split at q
  ·cases q
  ·exact h.dn c q
 ·rw[hg]
  split
  ·rename_i e; subst e
   exfalso
   have:g.kept G i c=true:=BH.2 fun x hx hn=>⟨((Rl.cl c q).2.2 x hx hn).1,fun b hb=>h.up _ (((Rl.cl c q).2.2 x hx hn).2 b hb)⟩
   rw[hk] at this; cases this
  ·exact h.up c q
theorem aau: ∀ {r:List Bool} {i:Nat},r.getD i false=true->(r.set i false).countP (fun b=>b)+1=r.countP fun b=>b:=by
 intro r
 induction r with
 |nil=>intro i h; simp at h
 |cons y s ih =>
  intro i h
  cases i with
  |zero=>rw[List.getD_cons_zero] at h; subst h; simp
  |succ i =>
   rw[List.getD_cons_succ] at h
   have:=ih h
   simp only[List.set_cons_succ,List.countP_cons]
   omega
def Gr.okP(g:Gr)(R:List (List Bool))(a x c i:Nat):Prop:=x<g.k->c<(g.dG a x).length->i<g.k->g.Fv a x=true->gB R a i=true->gB R ((g.dG a x).getD c 0).toNat i=true
structure Gr.qY(g:Gr)(R0 R:List (List Bool))(ag:Bool)(a x c i:Nat):Prop where
 inv:g.Inv R
 le:DV R<=DV R0
 lt:ag=true->DV R<DV R0
 st:ag=false-> ∀ a' x' c' i',(a'<a\/a'=a/\(x'<x\/x'=x/\(c'<c\/c'=c/\i'<i)))->g.okP R a' x' c' i'
theorem Gr.qY.zero{R:List (List Bool)}(h:g.Inv R):g.qY R R false 0 0 0 0:=⟨h,Nat.le_refl _,fun h=>(by cases h),fun _ a' x' c' i' h=>by omega⟩
theorem Gr.qY.aeh{R0 R:List (List Bool)}{ag:Bool}{a x c i:Nat}(h:g.qY R0 R ag a x c i)(hk:gB R a i=true->gB R ((g.dG a x).getD c 0).toNat i=true):g.qY R0 R ag a x c (i+1):=by
 refine⟨h.inv,h.le,h.lt,fun e a' x' c' i' q=>?_⟩
 by_cases h1:a'<a\/a'=a/\(x'<x\/x'=x/\(c'<c\/c'=c/\i'<i))
 ·exact h.st e a' x' c' i' h1
 ·have e1:a'=a:=by omega
  have e2:x'=x:=by omega
  have e3:c'=c:=by omega
  have e4:i'=i:=by omega
  subst e1; subst e2; subst e3; subst e4
  exact fun _ _ _ _=>hk
theorem Gr.qY.take{R0 R:List (List Bool)}{ag:Bool}{a x c i:Nat}(h:g.qY R0 R ag a x c i)(ha:a<g.n)(hx:x<g.k)(hc:c<(g.dG a x).length)(hi:i<g.k)(hn:g.Fv a x=true)(h1:gB R a i=true)(h2:gB R ((g.dG a x).getD c 0).toNat i=false):g.qY R0 (setB R a i false) true a x c (i+1):=by
 have hm:(g.dG a x).getD c 0∈g.dG a x:=by rw[getD_some hc]; exact List.getElem_mem hc
 have:=aat h1
 have:=h.le
 exact⟨h.inv.take ha hx hi hn hm h2,by omega,fun _=>by omega,fun e=>by cases e⟩
theorem Gr.qY.agw{R0 R:List (List Bool)}{ag:Bool}{a x c i:Nat}(h:g.qY R0 R ag a x c i)(hi:g.k<=i):g.qY R0 R ag a x (c+1) 0:=by
 refine⟨h.inv,h.le,h.lt,fun e a' x' c' i' q=>?_⟩
 by_cases h1:a'<a\/a'=a/\(x'<x\/x'=x/\(c'<c\/c'=c/\i'<i))
 ·exact h.st e a' x' c' i' h1
 ·exact fun _ _ h3=>by omega
theorem Gr.qY.agx{R0 R:List (List Bool)}{ag:Bool}{a x c:Nat}(h:g.qY R0 R ag a x c 0)(hc:(g.dG a x).length<=c):g.qY R0 R ag a (x+1) 0 0:=by
 refine⟨h.inv,h.le,h.lt,fun e a' x' c' i' q=>?_⟩
 by_cases h1:a'<a\/a'=a/\(x'<x\/x'=x/\(c'<c\/c'=c/\i'<0))
 ·exact h.st e a' x' c' i' h1
 ·have e1:a'=a:=by omega
  have e2:x'=x:=by omega
  subst e1; subst e2
  exact fun _ h3=>by omega
theorem Gr.qY.agy{R0 R:List (List Bool)}{ag:Bool}{a x:Nat}(h:g.qY R0 R ag a x 0 0)(hn:g.Fv a x=false):g.qY R0 R ag a (x+1) 0 0:=by
 refine⟨h.inv,h.le,h.lt,fun e a' x' c' i' q=>?_⟩
 by_cases h1:a'<a\/a'=a/\(x'<x\/x'=x/\(c'<0\/c'=0/\i'<0))
 ·exact h.st e a' x' c' i' h1
 ·have e1:a'=a:=by omega
  have e2:x'=x:=by omega
  subst e1; subst e2
  intro _ _ _ h4
  rw[hn] at h4; cases h4
theorem Gr.qY.yN{R0 R:List (List Bool)}{ag:Bool}{a x:Nat}(h:g.qY R0 R ag a x 0 0)(hx:g.k<=x):g.qY R0 R ag (a+1) 0 0 0:=by
 refine⟨h.inv,h.le,h.lt,fun e a' x' c' i' q=>?_⟩
 by_cases h1:a'<a\/a'=a/\(x'<x\/x'=x/\(c'<0\/c'=0/\i'<0))
 ·exact h.st e a' x' c' i' h1
 ·exact fun h3=>by omega
theorem Gr.qY.all{R0 R:List (List Bool)}{a:Nat}(h:g.qY R0 R false a 0 0 0)(ha:g.n<=a):R=g.ny:=by
 refine h.inv.done fun a' x i h1 h2 h3 h4 h5 b hb=>?_
 obtain⟨c,hc,rfl⟩:=List.mem_iff_getElem.1 hb
 have:=h.st rfl a' x c i (by omega) h2 hc h3 h4 h5
 rw[getD_some hc] at this; exact this
def Gr.b1(g:Gr)(a i:Nat):Bool:=g.Uo a i&& !(g.blk a i)
def Gr.bX(g:Gr)(a i x:Nat):Bool:=g.Uo a i&& !((List.range x).any fun x'=>g.Fv a x'&&g.Qq x' i)
def Gr.O6(g:Gr)(a:Nat):List Bool:=(List.range g.k).map (g.b1 a)
def Gr.BI(g:Gr)(a i:Nat):List Bool:=(List.range i).map (g.b1 a)++List.replicate (g.k-i) false
def Gr.wL(g:Gr)(a i x:Nat):List Bool:=(List.range i).map (g.b1 a)++g.bX a i x::List.replicate (g.k-(i+1)) false
def Gr.og(g:Gr)(a:Nat):List (List Bool):=(List.range a).map g.O6
theorem Yk{a:Nat}:g.BI a 0=List.replicate g.k false:=by simp[Gr.BI]
theorem aav{a:Nat}:g.BI a g.k=g.O6 a:=by simp[Gr.BI,Gr.O6]
theorem aaw{a i:Nat}(h:i<=g.k):(g.BI a i).length=g.k:=by simp[Gr.BI]; omega
theorem aax{a i x:Nat}(h:i<g.k):(g.wL a i x).length=g.k:=by simp[Gr.wL]; omega
theorem Dn{a:Nat}:(g.og a).length=a:=by simp[Gr.og]
theorem UO{a:Nat}:g.og (a+1)=g.og a++[g.O6 a]:=by simp[Gr.og,List.range_succ]
theorem aay{a i:Nat}(h:i<g.k):(g.BI a i).set i (g.Uo a i)=g.wL a i 0:=by
 unfold Gr.BI Gr.wL
 rw[List.set_append_right _ _ (by simp)]
 simp only[List.length_map,List.length_range,Nat.sub_self]
 rw[show g.k-i=(g.k-(i+1))+1 by omega,List.replicate_succ,List.set_cons_zero]
 simp[Gr.bX]
theorem aaz{a i:Nat}(_h:i<g.k):g.wL a i g.k=g.BI a (i+1):=by
 unfold Gr.BI Gr.wL
 rw[List.range_succ,List.map_append,List.append_assoc]; rfl
theorem aaA{a i x:Nat}(h1:g.Fv a x=true)(h2:g.Qq x i=true):(g.wL a i x).set i false=g.wL a i (x+1):=by
 have e:g.bX a i (x+1)=false:=by
  unfold Gr.bX
  rw[List.range_succ,List.any_append]
  simp[h1,h2]
 unfold Gr.wL
 rw[List.set_append_right _ _ (by simp),e]
 simp
theorem Yl{a i x:Nat}(h:(g.Fv a x&&g.Qq x i)=false):g.wL a i (x+1)=g.wL a i x:=by
 have e:g.bX a i (x+1)=g.bX a i x:=by
  unfold Gr.bX
  rw[List.range_succ,List.any_append]
  simp only[List.any_cons,List.any_nil,h,Bool.or_false]
 unfold Gr.wL
 rw[e]
theorem Ym:g.Inv (g.og g.n):=by
 have hr: ∀ a,a<g.n->(g.og g.n).getD a []=g.O6 a:=fun a ha=>by unfold Gr.og; rw[je ha]
 refine⟨Dn,fun a ha=>by rw[hr a ha]; simp[Gr.O6],fun a i q=>?_,fun a i hi q=>?_⟩
 ·unfold gB at q
  rcases Nat.lt_or_ge a g.n with ha|ha
  ·rw[hr a ha] at q
   rcases Nat.lt_or_ge i g.k with hi|hi
   ·unfold Gr.O6 at q
    rw[je hi,Gr.b1,Bool.and_eq_true,Bool.not_eq_true'] at q
    exact q
   ·rw[getD_none (by simp[Gr.O6]; omega)] at q; cases q
  ·rw[show(g.og g.n).getD a []=[] from getD_none (by rw[Dn]; exact ha)] at q
   exact absurd q (by simp)
 ·obtain⟨ha,hb,hc⟩:=Rl.cl a q
  unfold gB
  rw[hr a ha]
  unfold Gr.O6
  rw[je hi,Gr.b1,hb,Bool.true_and,Bool.not_eq_true']
  unfold Gr.blk
  rw[List.any_eq_false]
  intro x hx
  cases hn:g.Fv a x with
  |false=>simp
  |true=>rw[(hc x (List.mem_range.1 hx) hn).1]; simp
theorem Nv{α:Type}{l:List α}{u d:α}{a:Nat}(h:l.length=a):(l++[u]).getD a d=u:=by
 subst h
 rw[List.getD_eq_getElem?_getD,List.getElem?_append_right (Nat.le_refl _),Nat.sub_self]; rfl
theorem Ro{α:Type}{l:List α}{u v:α}{a:Nat}(h:l.length=a):(l++[u]).set a v=l++[v]:=by
 subst h
 rw[List.set_append_right _ _ (Nat.le_refl _),Nat.sub_self]; rfl
structure Gr.IY(g:Gr)(r:Nat)(G0 G:List Bool)(ag:Bool)(i:Nat):Prop where
 inv:g.Inv1 r G
 le:G.countP (fun b=>b)<=G0.countP fun b=>b
 lt:ag=true->G.countP (fun b=>b)<G0.countP fun b=>b
 st:ag=false-> ∀ a,a<i->G.getD a false=true->g.kept G r a=true
theorem Gr.IY.zero{r:Nat}{G:List Bool}(h:g.Inv1 r G):g.IY r G G false 0:=⟨h,Nat.le_refl _,fun h=>(by cases h),fun _ a h=>by omega⟩
theorem Gr.IY.next{r i:Nat}{G0 G:List Bool}{ag:Bool}(h:g.IY r G0 G ag i)(hk:G.getD i false=true->g.kept G r i=true):g.IY r G0 G ag (i+1):=by
 refine⟨h.inv,h.le,h.lt,fun e a ha=>?_⟩
 rcases Nat.lt_or_ge a i with q|q
 ·exact h.st e a q
 ·have:a=i:=by omega
  subst this; exact hk
theorem Gr.IY.take{r i:Nat}{G0 G:List Bool}{ag:Bool}(h:g.IY r G0 G ag i)(hi:i<g.n)(h1:G.getD i false=true)(h2:g.kept G r i=false):g.IY r G0 (G.set i false) true (i+1):=by
 have:=aau h1
 have:=h.le
 exact⟨h.inv.take hi h2,by omega,fun _=>by omega,fun e=>by cases e⟩
theorem Gr.IY.all{r i:Nat}{G0 G:List Bool}(h:g.IY r G0 G false i)(hi:g.n<=i):G=g.Es r :=
 h.inv.done fun a ha=>h.st rfl a (by omega)
def Gr.Et(g:Gr)(r i:Nat):List Bool:=(List.range i).map (fun a=>g.Uo a r)++List.replicate (g.n-i) false
theorem Yn{r:Nat}:g.Et r 0=List.replicate g.n false:=by simp[Gr.Et]
theorem aaB{r i:Nat}(h:i<=g.n):(g.Et r i).length=g.n:=by simp[Gr.Et]; omega
theorem aaC{r i:Nat}(h:i<g.n):(g.Et r i).set i (g.Uo i r)=g.Et r (i+1):=by
 unfold Gr.Et
 rw[List.set_append_right _ _ (by simp)]
 simp only[List.length_map,List.length_range,Nat.sub_self]
 rw[show g.n-i=(g.n-(i+1))+1 by omega,List.replicate_succ,List.set_cons_zero,List.range_succ,List.map_append,List.append_assoc]; rfl
theorem aaD{r:Nat}:g.Inv1 r (g.Et r g.n):=by
 have e:g.Et r g.n=(List.range g.n).map fun a=>g.Uo a r:=by simp[Gr.Et]
 rw[e]
 refine⟨by simp,fun a q=>?_,fun a q=>?_⟩
 ·rcases Nat.lt_or_ge a g.n with ha|ha
  ·rw[je ha] at q; exact q
  ·rw[getD_none (by simpa using ha)] at q; cases q
 ·obtain⟨ha,hb,_⟩:=Rl.cl a q
  rw[je ha]; exact hb
def kY(l:List Elem)(b:Elem):Nat:=l.countP fun x=>decide (fE x b<0)
theorem WB(l:List Elem)(b:Elem):kY l b<=l.length:=List.countP_le_length
theorem Je{b:Elem}: ∀ {l:List Elem},SS l-> ∀ i,i<l.length->(fE (l.getD i default) b<0↔i<kY l b):=by
 intro l
 induction l with
 |nil=>intro _ i hi; exact absurd hi (Nat.not_lt_zero _)
 |cons a t ih =>
  intro hs i hi
  obtain⟨h1,h2⟩:=List.pairwise_cons.1 hs
  by_cases ha:fE a b<0
  ·have e:kY (a::t) b=kY t b+1:=by unfold kY; rw[List.countP_cons_of_pos (by simpa using ha)]
   rw[e]
   cases i with
   |zero=>rw[List.getD_cons_zero]; exact⟨fun _=>by omega,fun _=>ha⟩
   |succ i =>
    rw[List.getD_cons_succ,ih h2 i (by simpa using hi)]
    omega
  ·have hall: ∀ x∈t,¬ fE x b<0:=fun x hx q=>ha (wM (h1 x hx) q)
   have e0:kY t b=0:=by
    unfold kY
    rw[List.countP_eq_zero]
    intro x hx
    simpa using hall x hx
   have e:kY (a::t) b=0:=by unfold kY at e0 ⊢; rw[List.countP_cons_of_neg (by simpa using ha),e0]
   rw[e]
   refine⟨fun q=>?_,fun q=>absurd q (Nat.not_lt_zero _)⟩
   cases i with
   |zero=>rw[List.getD_cons_zero] at q; exact absurd q ha
   |succ i =>
    rw[List.getD_cons_succ] at q
    have hi':i<t.length:=by simpa using hi
    exact absurd q (hall _ (dF hi'))
theorem acN{l:List Elem}{b:Elem}(hs:SS l):A8 l b (kY l b)=true↔b∈l:=by
 unfold A8
 rw[Bool.and_eq_true,decide_eq_true_eq,beq_iff_eq,iY]
 constructor
 ·rintro⟨h1,h2⟩; rw[<- h2]; exact dF h1
 ·intro hb
  obtain⟨i,hi,e⟩:=List.mem_iff_getElem.1 hb
  have eg:l.getD i default=b:=by rw[getD_some hi]; exact e
  have hlt:=Je (b:=b) hs
  have h1:kY l b<=i:=by
   rcases Nat.lt_or_ge i (kY l b) with q|q
   ·have:=(hlt i hi).2 q
    rw[eg,iY.2 rfl] at this; exact absurd this (by decide)
   ·exact q
  rcases Nat.lt_or_ge (kY l b) i with q|q
  ·have h2:kY l b<l.length:=by omega
   have h3:fE (l.getD (kY l b) default) b<0:=by
    have:=List.pairwise_iff_getElem.1 hs (kY l b) i h2 hi q
    rw[e] at this
    rw[getD_some h2]; exact this
   exact absurd ((hlt _ h2).1 h3) (Nat.lt_irrefl _)
  ·have:kY l b=i:=by omega
   rw[this]; exact⟨hi,eg⟩
theorem agz{l:List Elem}{b:Elem}(hs:SS l):fdE l b=if A8 l b (kY l b)=true then(kY l b:Int) else -1:=by
 by_cases h:A8 l b (kY l b)=true
 ·rw[if_pos h]
  unfold A8 at h
  rw[Bool.and_eq_true,decide_eq_true_eq] at h
  obtain⟨h1,h2⟩:=h
  have:l.findIdx? (fun x=>fE x b==0)=some (kY l b):=by
   rw[List.findIdx?_eq_some_iff_getElem]
   refine⟨h1,by rw[getD_some h1] at h2; exact h2,fun j hj=>?_⟩
   have hj':j<l.length:=by omega
   have:=(Je (b:=b) hs j hj').2 hj
   rw[getD_some hj'] at this
   simp only[beq_iff_eq]
   omega
  unfold fdE; rw[this]
 ·rw[if_neg h]
  have hn:b ∉ l:=fun q=>h ((acN hs).2 q)
  have:l.findIdx? (fun x=>fE x b==0)=none:=by
   rw[List.findIdx?_eq_none_iff]
   intro x hx
   cases hc:(fE x b==0) with
   |false=>rfl
   |true=>rw[beq_iff_eq,iY] at hc; subst hc; exact absurd hx hn
  unfold fdE; rw[this]
def xK(l:List Elem)(L:List Elem):List Int:=L.filterMap fun b=>if A8 l b (kY l b)=true then some (kY l b:Int) else none
theorem Nw{l L:List Elem}{i:Nat}(hi:i<L.length):xK l (L.take (i+1))=if A8 l (L.getD i default) (kY l (L.getD i default))=true then xK l (L.take i)++[(kY l (L.getD i default):Int)] else xK l (L.take i):=by
 unfold xK
 rw[List.take_add_one,List.filterMap_append]
 rw[List.getElem?_eq_getElem hi,getD_some hi]
 split<;>rename_i h<;>simp[h]
theorem J7(l L:List Elem):(xK l L).length<=L.length:=List.length_filterMap_le ..
theorem aaE{l L:List Elem}{b:Int}(h:b∈xK l L):0<=b/\b<l.length:=by
 unfold xK at h
 obtain⟨x,hx,e⟩:=List.mem_filterMap.1 h
 split at e
 ·rename_i q
  cases e
  unfold A8 at q
  rw[Bool.and_eq_true,decide_eq_true_eq] at q
  omega
 ·cases e
def DW(l:List Elem)(r:Rule)(a:Elem):List Int:=xK l (gI r a)
def zY(p:aC)(a:Elem):List Bool:=p.rules.map fun r=>(eP r a).isSome
def xQ(l:List Elem)(p:aC)(a:Elem):List (List Int):=p.rules.map fun r=>DW l r a
abbrev rowB(l:List Bool):OV:=.row 4 0 (.bools l) []
abbrev fB(R:List (List Bool)):List (Option OV):=R.map fun r=>some (rowB r)
theorem Dp(n:Nat): ∃ r:Rw,(bif isZero (.int n) then some Rw.nil else LY (n:Int).toNat (T.bool false))=some r/\r.aS=(Rw.bools (List.replicate n false)).aS:=by
 cases n with
 |zero=>exact⟨.nil,rfl,rfl⟩
 |succ k=>exact⟨.bools (List.replicate (k+1) false),rfl,rfl⟩
def wO(B a n:Nat):List V:=(List.range a).map (fun j=>V.inn (B+j))++List.replicate (n-a) (vw .nil)
abbrev UQ(B a n:Nat):OV:=.gen 69 0 (wO B a n)
theorem rP{B a n:Nat}(h:a<=n):(wO B a n).length=n:=by simp[wO]; omega
theorem FB{B a n j:Nat}(h:j<a):(wO B a n)[j]? =some (.inn (B+j)):=by
 unfold wO
 rw[List.getElem?_append_left (by simpa using h),List.getElem?_map,List.getElem?_range h]; rfl
theorem AtZ.out{B a n j:Nat}{K:V->Prop}(h:j<a)(hK:K (.inn (B+j))):AtZ (wO B a n) j K:=⟨_,FB h,hK⟩
theorem acO{k:Nat}: ∀ {l:List V},(∀ v∈l,v.kd=some k)->GR k l=true:=by
 intro l
 induction l with
 |nil=>intro _; rfl
 |cons v r ih =>
  intro h
  have h1:=h v (by simp)
  have h2:=ih fun u hu=>h u (List.mem_cons_of_mem _ hu)
  simp only[GR,h1,h2]
  simp
theorem acP{n:Nat}{l:List T}(h: ∀ t∈l,T.lt n t=true):T.Qr n l=true:=by
 induction l with
 |nil=>rfl
 |cons t r ih=>simp only[T.Qr,h t (by simp),ih fun u hu=>h u (List.mem_cons_of_mem _ hu),Bool.and_self]
theorem J8{B a n:Nat}{v:V}(h:v∈wO B a n):(∃ j,j<a/\v= .inn (B+j))\/v=vw .nil:=by
 unfold wO at h
 rcases List.mem_append.1 h with h|h
 ·obtain⟨j,hj,rfl⟩:=List.mem_map.1 h
  exact .inl ⟨j,List.mem_range.1 hj,rfl⟩
 ·exact .inr (List.eq_of_mem_replicate h)
theorem FC{ty nx:Nat}{l:List V}(h1: ∀ v∈l,v.kd=some 0)(h2: ∀ v∈l,T.lt nx v.aI=true):(OV.gen ty 0 l).good nx=true:=by
 simp only[OV.good,acO h1,Bool.and_eq_true,Bool.true_and]
 refine⟨acP fun t ht=>?_,rfl⟩
 rw[bJ,List.mem_map] at ht
 obtain⟨v,hv,rfl⟩:=ht
 exact h2 v hv
theorem fG{B a n nx:Nat}(h:B+a<=nx):(UQ B a n).good nx=true:=by
 refine FC (fun v hv=>?_) fun v hv=>?_
 ·rcases J8 hv with ⟨j,_,rfl⟩|rfl<;>rfl
 ·rcases J8 hv with ⟨j,hj,rfl⟩|rfl
  ·show Nat.blt (B+j) nx=true
   exact Nat.blt_eq.mpr (by omega)
  ·rfl
theorem pR(ρ:Nat->Nat): ∀ l:List T,T.bU ρ l=l.map (T.ren ρ):=by
 intro l
 induction l with
 |nil=>rfl
 |cons a l ih=>simp only[T.bU,List.map_cons,ih]
theorem iJ{B a n:Nat}{f:Nat->Nat}:bD (T.bU (lK B (fun j=>B+j) f) (UQ B a n).ay.l) (UQ B a n).ay.l:=by
 refine bD.of_eq ?_
 show T.bU _ (V.aS (wO B a n))=V.aS (wO B a n)
 rw[pR,bJ,List.map_map]
 refine List.map_congr_left fun v hv=>?_
 rcases J8 hv with ⟨j,hj,rfl⟩|rfl
 ·show T.own (lK B (fun j=>B+j) f (B+j))=T.own (B+j)
  rw[rQ]
 ·rfl
theorem aaF{B a n N:Nat}{f:Nat->Nat}(h:a<n):bD (T.bU (lK B (fun j=>if j=a then N else B+j) f) (UQ B (a+1) n).ay.l) (OV.gen 69 0 ((wO B a n).set a (.own N))).ay.l:=by
 refine bD.of_eq ?_
 show T.bU _ (V.aS (wO B (a+1) n))=V.aS ((wO B a n).set a (.own N))
 have e:(wO B a n).set a (.own N)=(List.range a).map (fun j=>V.inn (B+j))++ .own N::List.replicate (n-(a+1)) (vw .nil):=by
  unfold wO
  rw[List.set_append_right _ _ (by simp)]
  simp only[List.length_map,List.length_range,Nat.sub_self]
  rw[show n-a=(n-(a+1))+1 by omega,List.replicate_succ,List.set_cons_zero]
 rw[e,pR,bJ,bJ,List.map_map]
 unfold wO
 simp only[List.range_succ,List.map_append,List.map_cons,List.map_nil,List.append_assoc,List.cons_append,List.nil_append,List.map_replicate,List.map_map]
 congr 1
 ·refine List.map_congr_left fun j hj=>?_
  show T.own (lK B _ f (B+j))=T.own (B+j)
  rw[rQ,if_neg (by have:=List.mem_range.1 hj; omega)]
 ·congr 1
  show T.own (lK B _ f (B+a))=T.own N
  rw[rQ,if_pos rfl]
theorem jl{R:List (List Bool)}{nx:Nat}: ∀ o,some o∈fB R->o.good nx=true/\o.Ik=true:=by
 intro o h
 obtain⟨r,_,e⟩:=List.mem_map.1 h
 cases e
 exact⟨rfl,rfl⟩
theorem BJ{R:List (List Bool)}{j:Nat}(h:j<R.length):(fB R)[j]? =some (some (rowB (R.getD j []))):=by
 rw[List.getElem?_map,List.getElem?_eq_getElem h,getD_some h]; rfl
theorem gX{R:List (List Bool)}:(fB R).length=R.length:=List.length_map _
theorem aeX{R:List (List Bool)}{j:Nat}{r:List Bool}:(fB R).set j (some (rowB r))=fB (R.set j r):=by
 exact(List.map_set ..).symm
theorem O7{R:List (List Bool)}{r:List Bool}{a:Nat}(h:R.length=a):(fB (R++[r]))[a]? =some (some (rowB r)):=by
 subst h
 rw[List.getElem?_map,List.getElem?_append_right (Nat.le_refl _),Nat.sub_self]; rfl
theorem acQ{R:List (List Bool)}{r:List Bool}{a:Nat}(h:R.length=a): ∀ j o,j≠a->(fB (R++[r]))[j]? =some (some o)->(fB R)[j]? =some (some o):=by
 intro j o hj q
 rcases Nat.lt_or_ge j R.length with hl|hl
 ·rw[List.getElem?_map,List.getElem?_append_left hl] at q; rw[List.getElem?_map]; exact q
 ·rw[List.getElem?_map,List.getElem?_eq_none (by rw[List.length_append]; simp only[List.length_singleton]; omega)] at q; cases q
theorem O8.fB{B:Nat}(C k:Nat){j x:Nat}{R:List (List Bool)}{v:V}{h:Hz}{K:Hz->Prop}(r':List Bool)(e:h.drop k=kG B (fB R))(ho:DX B C (h.take k)=true)(hC:B+R.length<=C)(hj:j<R.length)(hr:x<(R.getD j []).length)(hs:(Rw.bools (R.getD j [])).set x v=some (.bools r'))
  (hK:K (h.take k++kG B (fB (R.set j r')))):O8 h (B+j) x 0 v K :=
 O8.fam C (show BK (h.take k) _ h from by rw[BK,<- e,List.take_append_drop]) ho (by rw[gX]; exact hC) (BJ hj) hs (by show 0<=(x:Int)/\(x:Int)<_; omega) (by rw[aeX]; exact hK)
def Hf(p:aC)(l:List Elem)(on:List (List Bool))(dG:List (List (List Int)))(w:List Int):Gr where
 n:=l.length
 k:=p.rules.length
 Uo a i:=(on.getD a []).getD i false&&Fa (p.rules.getD i default) w
 Fv a x:=((on.getD a []).getD x false&& !(zQ (p.rules.getD x default) w))&& !(Fa (p.rules.getD x default) w)
 Qq x i:=ZO (p.rules.getD x default) (p.rules.getD i default).fr
 dG a x:=(dG.getD a []).getD x []
structure Rq(p:aC)(l:List Elem)(on:List (List Bool))(dG:List (List (List Int)))(w:List Int):Prop where
 n:l.length<=2187
 k:p.rules.length<=8
 zY:on.length=l.length
 onR: ∀ a,a<l.length->(on.getD a []).length=p.rules.length
 xQ:dG.length=l.length
 afR: ∀ a,a<l.length->(dG.getD a []).length=p.rules.length
 afN: ∀ a x,((dG.getD a []).getD x []).length<=2187
 sU: ∀ a x,∀ b∈(dG.getD a []).getD x [],0<=b/\b<l.length
 ZE: ∀ i,i<p.rules.length->V9 w.length (p.rules.getD i default)
 wok:w.all Um=true
 wl:w.length<2^30
abbrev spV(p:aC)(l:List Elem)(on:List (List Bool))(dG:List (List (List Int))):V:=.agg [.str p.name,.int p.topology,.row 0 false (.strs p.states),.row 0 false (.strs p.messages),.row 0 false (.strs p.values),.int p.fault,.row 5 false (.yZ p.bQ),.row 0 false (.ints p.initial),.row 0 false (.ints p.leader),.row 19 false (.rules p.rules),.row 3 false (.elems l),.row 0 false (.iK on),.row 0 false (.jQ dG)]
theorem S.neutral(p:aC)(l:List Elem)(on:List (List Bool))(dG:List (List (List Int)))(w:List Int)(f:Bool)(a x:Nat)(h:Rq p l on dG w)(ha:a<l.length)(hx:x<p.rules.length):aj Tryz.prog 60 [.int a,.int x,.ref 14 (spV p l on dG),.ref 0 (.row 0 f (.ints w))] (.bool ((Hf p l on dG w).Fv a x)):=by
 have h1:=h.zY
 have h2:=h.onR a ha
 refine aj.of Bd.nC (by simp) rfl rfl ?_
 conv=>whnf
 repeat(refine VC.mk (by first|(first|(simp only[Rw.rng]; omega)|(simp only[Rw.rng,Int.toNat_natCast]; omega))|exact fun h=>⟨h,h⟩) ?_; conv=>whnf)
 refine ah.dL (fun _=>S.lU (p.rules.getD x default) w f h.wok (h.ZE x hx) h.wl) rfl ?_
 conv=>whnf
 repeat(refine VC.mk (by first|exact id|exact fun h=>⟨h,h⟩) ?_; conv=>whnf)
 refine ah.dL (fun _=>S.mX (p.rules.getD x default) w f h.wok (h.ZE x hx) h.wl) rfl ?_
 conv=>whnf
 repeat(refine VC.mk id ?_; conv=>whnf)
 refine ak.eqv ?_
 rfl
abbrev boxS(p:aC)(l:List Elem)(on:List (List Bool))(dG:List (List (List Int))):OV:=.box 66 14 (spV p l on dG)
abbrev ahJ(w:List Int)(f:Bool):OV:=.box 24 0 (.row 0 f (.ints w))
abbrev pU(p:aC)(l:List Elem)(on:List (List Bool))(dG:List (List (List Int)))(w:List Int)(f:Bool)(a:Nat):List (Nat×OV):=[(0,boxS p l on dG),(1,ahJ w f),(6,UQ 10000 a l.length)]
theorem Io.iK{h:Hz}{i B:Nat}{R:List (List Bool)}(hi:h.get i=some (UQ B R.length R.length))(hB:i<B)(hR: ∀ j,j<R.length->h.get (B+j)=some (rowB (R.getD j []))):Io (.row 0 false (.iK R)) (.own i) h:=by
 have hl:(OV.row 69 0 (.iK R) []).ay.l=R.map zZ:=by simp[OV.ay,Rw.aS,V.aS]
 refine⟨[(i,some (.row 69 0 (.iK R) []))],⟨fun c=>B<=c,⟨_,hi,by omega,rfl,rfl,?_,?_,?_⟩,trivial⟩,?_⟩
 ·rw[hl]
  show T.dP _ _ _ (V.aS (wO B R.length R.length))
  refine Jf (by rw[dQ,rP (Nat.le_refl _),List.length_map]) fun j t u h1 h2=>?_
  have hj:j<R.length:=by have:=(List.getElem?_eq_some_iff.1 h1).1; simpa using this
  rw[bJ,List.getElem?_map,FB hj] at h2
  rw[List.getElem?_map,List.getElem?_eq_getElem hj] at h1
  cases h1; cases h2
  have:=aO (hR j hj)
  rw[getD_some hj] at this
  simp only[V.aI,T.sub]
  refine⟨trivial,Nat.le_add_right _ _,?_,by decide,4,?_⟩
  ·rw[dR]; intro t ht; obtain⟨x,_,rfl⟩:=List.mem_map.1 ht; rfl
  ·rw[this]; simp[OV.ay,Rw.aS,V.aS]
 ·rw[hl]
  show _=List.map T.kd (V.aS (wO B R.length R.length))
  rw[bJ,List.map_map,List.map_map]
  apply List.ext_getElem
  ·simp[rP]
  ·intro j h1 h2
   have hj:j<R.length:=by simpa using h1
   have:=FB (B:=B) (n:=R.length) hj
   have h3:j<(wO B R.length R.length).length:=by rw[rP (Nat.le_refl _)]; exact hj
   rw[List.getElem?_eq_getElem h3,Option.some.injEq] at this
   simp only[List.getElem_map,Function.comp,this]; rfl
 ·rw[hl]
  show _=List.map fV (V.aS (wO B R.length R.length))
  rw[bJ,List.map_map,List.map_map]
  apply List.ext_getElem
  ·simp[rP]
  ·intro j h1 h2
   have hj:j<R.length:=by simpa using h1
   have:=FB (B:=B) (n:=R.length) hj
   have h3:j<(wO B R.length R.length).length:=by rw[rP (Nat.le_refl _)]; exact hj
   rw[List.getElem?_eq_getElem h3,Option.some.injEq] at this
   simp only[List.getElem_map,Function.comp,this]; rfl
 ·show T.sub _ _ (.sl 0 false (R.map zZ)) (.own i)
  simp only[T.sub]
  refine⟨trivial,trivial,?_,by decide,69,?_⟩
  ·rw[dR]; intro t ht; obtain⟨x,_,rfl⟩:=List.mem_map.1 ht; rfl
  ·rw[<- hl]
   simp[Hz.au,Hz.get,OV.ay]
abbrev aaG(p:aC)(l:List Elem)(on:List (List Bool))(dG:List (List (List Int)))(w:List Int)(f:Bool)(a i:Nat):List (Nat×OV):=pU p l on dG w f a++[(7,.box 85 19 (.dat (.rule (p.rules.getD i default))))]
set_option maxHeartbeats 4000000 in
theorem S.FD(p:aC)(l:List Elem)(on:List (List Bool))(dG:List (List (List Int)))(w:List Int)(f:Bool)(h:Rq p l on dG w):aj Tryz.prog 35 [spV p l on dG,.row 0 f (.ints w)] (.row 0 false (.iK (Hf p l on dG w).ny)):=by
 have hn:=h.n; have hk:=h.k; have e1:=h.zY; have e2:=h.xQ; have hwl:=h.wl
 generalize hg:Hf p l on dG w=g
 have gn:g.n=l.length:=by rw[<- hg]; rfl
 have gk:g.k=p.rules.length:=by rw[<- hg]; rfl
 refine aj.ofF Bd.qy rfl (by simp) rfl rfl ?_
 by_cases h0:l.length=0
 ·have hl0:l=[]:=List.length_eq_zero_iff.1 h0
  subst hl0
  have hH:g.ny=[]:=by unfold Gr.ny; rw[gn]; rfl
  conv=>whnf
  refine .mk (by omega) ?_
  conv=>whnf
  refine aB.times 1 rfl ?_
  conv=>whnf
  refine Fork.mk (fun q=>absurd (q.symm.trans ((rfl:decide ((0:Int)<0)=false))).symm Bool.false_ne_true) (fun _=>?_)
  conv=>whnf
  refine aB.times 2 rfl ?_
  conv=>whnf
  refine Fork.mk (fun _=>?_) (fun q=>absurd (q.symm.trans (rfl)) Bool.false_ne_true)
  conv=>whnf
  refine aB.times 1 rfl ?_
  conv=>whnf
  refine Fork.mk (fun q=>absurd (q.symm.trans ((rfl:decide ((0:Int)<0)=false))).symm Bool.false_ne_true) (fun _=>?_)
  conv=>whnf
  refine Fork.mk (fun q=>absurd (q.symm.trans (rfl)).symm Bool.false_ne_true) (fun _=>?_)
  conv=>whnf
  rw[hH]
  refine⟨[(6,some (.row 69 0 .nil []))],⟨fun _=>False,⟨_,rfl,id,rfl,rfl,aP _,rfl,rfl⟩,trivial⟩,?_⟩
  show T.sub _ _ (.sl 0 false []) (.own 6)
  simp only[T.sub]
  exact⟨trivial,trivial,rfl,by decide,69,rfl⟩
 conv=>whnf
 rw[yK (by omega:0<l.length)]
 conv=>whnf
 refine .mk (by omega) ?_
 conv=>whnf
 refine aB.fam 20000 [2,3,5,6,24] (fun a:Nat=>[(25,.int a)]) (fun a=>mY (pU p l on dG w f a)++kG 10000 (fB (g.og a))) (fun a=>a<=l.length) (fun a=>l.length-a) 0 (lK 10000 (fun j=>10000+j) (dW (pU p l on dG w f 0) [0,1,6])) _ rfl (by decide) (fun _=>rfl) (Nat.zero_le _) (sR rfl) (.inl rfl) ?_ ?_
 ·refine gy.Ip 20000 (pU p l on dG w f 0) [0,1,6] ?_ rfl rfl (Nat.zero_le _) (by rw[gX,Dn]; omega) (by decide) jl ?_
  (repeat' (first|refine bH.lo rfl ?_|refine bH.hi rfl ?_|exact bH.nil))
  exact⟨aT rfl rfl,aT rfl rfl,kW rfl (fG (by omega)) rfl ⟨rfl,rfl⟩ iJ,trivial⟩
 conv=>whnf
 refine⟨(sR rfl),rfl,?_⟩
 rintro a ha
 have hrl:(g.og a).length=a:=Dn
 conv=>whnf
 refine⟨fun h1=>?_,fun h1=>?_⟩
 ·have ha':a<l.length:=by simpa using h1
  obtain⟨r0,hr0,hr1⟩:=Dp p.rules.length
  conv=>whnf
  rw[hr0]
  conv=>whnf
  repeat(refine VC.mk (by first|(first|(rw[rP ha]; simpa using ha')|(simp only[Int.toNat_natCast]; rw[rP ha]; exact ha'))|(omega)) ?_; conv=>whnf)
  have hoR:=h.onR a ha'
  have hoL:(wO 10000 (a+1) l.length).length=l.length:=rP ha'
  refine aB.fam 20000 [2,3,5,6,7,24,25,38,39] (fun i:Nat=>[(40,.int i)]) (fun i=>mY (pU p l on dG w f (a+1))++kG 10000 (fB (g.og a++[g.BI a i]))) (fun i=>i<=p.rules.length) (fun i=>p.rules.length-i) 0 (lK 10000 (fun j=>if j=a then 20009 else 10000+j) (dW (pU p l on dG w f (a+1)) [0,1,6])) _ rfl (by decide) (fun _=>rfl) (Nat.zero_le _) (sR rfl) (.inl rfl) ?_ ?_
  ·refine gy.agA 20000 a 20009 (fB (g.og a)) (pU p l on dG w f (a+1)) [0,1,6] ?_ rfl rfl rfl (Nat.zero_le _) (by rw[gX,List.length_append,hrl]; simp only[List.length_singleton]; omega) (by rw[gX,hrl]; omega) (by decide) jl ?_ (acQ hrl) ?_
   (repeat' (first|refine bH.lo rfl ?_|refine bH.hi rfl ?_|exact bH.nil))
   ·intro o ho
    rw[O7 hrl] at ho
    cases ho
    refine⟨_,rfl,?_⟩
    show(OV.row 4 0 r0 []).ay=_
    rw[Yk,gk]
    simp[OV.ay,hr1]
   exact⟨aT rfl rfl,aT rfl rfl,kW rfl (fG (by omega)) rfl ⟨rfl,rfl⟩ (aaF ha'),trivial⟩
  conv=>whnf
  refine⟨(sR rfl),rfl,?_⟩
  rintro i hi
  have hrm:(g.BI a i).length=p.rules.length:=by rw[aaw (by omega),gk]
  have hll:(g.og a++[g.BI a i]).length=a+1:=by rw[List.length_append,hrl]; rfl
  conv=>whnf
  refine⟨fun h2=>?_,fun h2=>?_⟩
  ·have hi':i<p.rules.length:=by simpa using h2
   conv=>whnf
   repeat(refine VC.mk (by first|(omega)|(simp only[Rw.rng] at *; first|omega|(simp_all; done)|(simp_all; omega))) ?_; conv=>whnf)
   refine AtZ.out (j:=a) (Nat.lt_succ_self a) ?_
   conv=>whnf
   repeat(refine VC.mk (by first|(first|(simp only[Rw.rng]; omega)|(simp only[Rw.rng,Int.toNat_natCast]; omega))|exact fun h=>⟨h,h⟩) ?_; conv=>whnf)
   refine ah.dL (fun _=>S.mX (p.rules.getD i default) w f h.wok (h.ZE i hi') h.wl) rfl ?_
   conv=>whnf
   refine VC.mk id ?_
   conv=>whnf
   refine Ur.Rt 20000 ?_ (by rw[gX,hll]; omega) (O7 hrl) ?_
   (repeat' (first|refine bH.lo rfl ?_|refine bH.hi rfl ?_|exact bH.nil))
   conv=>whnf
   refine .mk (by first|(simp only[Rw.rng]; omega)|(simp only[Rw.rng,Int.toNat_natCast]; omega)) ?_
   conv=>whnf
   have hgl:(g.og a++[g.BI a i]).getD a []=g.BI a i:=Nv hrl
   refine O8.fB (j:=a) (x:=i) 20000 5 (g.wL a i 0) rfl rfl (by rw[hll]; omega) (by rw[hll]; exact Nat.lt_succ_self a) (by rw[hgl,hrm]; exact hi') ?_ ?_
   ·rw[hgl]
    show some (Rw.bools ((g.BI a i).set i _))=_
    rw[<- aay (by omega),<- hg]; rfl
   rw[Ro hrl]
   conv=>whnf
   have hge:g.Qq=fun x i=>ZO (p.rules.getD x default) (p.rules.getD i default).fr:=by rw[<- hg]; rfl
   refine aB.fam 20000 [2,3,5,6,7,8,24,25,38,39,40,67] (fun x:Nat=>[(68,.int x),(9,.ptr 7 0 0)]) (fun x=>mY (aaG p l on dG w f (a+1) i)++kG 10000 (fB (g.og a++[g.wL a i x]))) (fun x=>x<=p.rules.length) (fun x=>p.rules.length-x) 0 (lK 10000 (fun j=>10000+j) (dW (aaG p l on dG w f (a+1) i) [0,1,6,20004])) _ rfl (by decide) (fun _=>rfl) (Nat.zero_le _) (sR rfl) (.inl rfl) ?_ ?_
   ·refine gy.Ip 20000 (aaG p l on dG w f (a+1) i) [0,1,6,20004] ?_ rfl rfl (Nat.zero_le _) (by rw[gX,List.length_append,hrl]; simp only[List.length_singleton]; omega) (by decide) jl ?_
    (repeat' (first|refine bH.lo rfl ?_|refine bH.hi rfl ?_|exact bH.nil))
    exact⟨aT rfl rfl,aT rfl rfl,kW rfl (fG (by omega)) rfl ⟨rfl,rfl⟩ iJ,aT rfl rfl,trivial⟩
   conv=>whnf
   refine⟨(sR rfl),rfl,?_⟩
   rintro x hx
   have hxl:(g.wL a i x).length=p.rules.length:=by rw[aax (by omega),gk]
   have aaH:(g.og a++[g.wL a i x]).length=a+1:=by rw[List.length_append,hrl]; rfl
   have agB:(g.og a++[g.wL a i x]).getD a []=g.wL a i x:=Nv hrl
   conv=>whnf
   refine⟨fun h3=>?_,fun h3=>?_⟩
   ·have hx':x<p.rules.length:=by simpa using h3
    conv=>whnf
    refine ah.lend (S.neutral p l on dG w f a x h ha' hx') ⟨aG _,aG _,Jg trivial rfl rfl (by decide),Jg trivial rfl rfl (by decide),trivial⟩ rfl rfl ?_
    rw[hg]
    conv=>whnf
    repeat(refine VC.mk (by first|exact id|exact fun h=>⟨h,h⟩|(intro h; (repeat' apply And.intro)<;>first|exact h|omega|(simp only[Rw.nO]; omega)|(simp only[Rw.rng]; omega))) ?_; conv=>whnf)
    refine ah.dL (fun _=>S.wF (p.rules.getD x default) (p.rules.getD i default).fr w.length (h.ZE x hx') (h.ZE i hi').place.src) rfl ?_
    conv=>whnf
    refine VC.mk id ?_
    conv=>whnf
    refine⟨fun h4=>?_,fun h4=>?_⟩
    ·replace h4:(g.Fv a x&&g.Qq x i)=true:=by rw[hge]; exact h4
     rw[Bool.and_eq_true] at h4
     conv=>whnf
     refine .mk (by omega) ?_
     conv=>whnf
     refine AtZ.out (j:=a) (Nat.lt_succ_self a) ?_
     conv=>whnf
     refine Ur.Rt 20000 ?_ (by rw[gX,aaH]; omega) (O7 hrl) ?_
     (repeat' (first|refine bH.lo rfl ?_|refine bH.hi rfl ?_|exact bH.nil))
     conv=>whnf
     refine .mk (by first|(simp only[Rw.rng]; omega)|(simp only[Rw.rng,Int.toNat_natCast]; omega)) ?_
     conv=>whnf
     refine O8.fB (j:=a) (x:=i) 20000 4 (g.wL a i (x+1)) rfl rfl (by rw[aaH]; omega) (by rw[aaH]; exact Nat.lt_succ_self a) (by rw[agB,hxl]; exact hi') ?_ ?_
     ·rw[agB]
      show some (Rw.bools ((g.wL a i x).set i false))=_
      rw[aaA h4.1 h4.2]
     rw[Ro hrl]
     conv=>whnf
     refine .mk (by simp only[okI] at *; first|omega|(simp_all; done)|(simp_all; omega)) ?_
     conv=>whnf
     refine gV.BL 20000 (x+1) (fB (g.og a++[g.wL a i (x+1)])) (aaG p l on dG w f (a+1) i) [0,1,6,7] rfl (by omega) (by omega) ?_ rfl rfl (Nat.zero_le _) (by rw[gX,List.length_append,hrl]; simp only[List.length_singleton]; omega) (by decide) jl (sR rfl) (sR rfl) ?_
     (repeat' (first|refine bH.lo rfl ?_|refine bH.hi rfl ?_|exact bH.nil))
     exact⟨aT rfl rfl,aT rfl rfl,kW rfl (fG (by omega)) rfl ⟨rfl,rfl⟩ iJ,aT rfl rfl,trivial⟩
    ·replace h4:(g.Fv a x&&g.Qq x i)=false:=by rw[hge]; exact h4
     conv=>whnf
     refine .mk (by simp only[okI] at *; first|omega|(simp_all; done)|(simp_all; omega)) ?_
     conv=>whnf
     refine gV.BL 20000 (x+1) (fB (g.og a++[g.wL a i x])) (aaG p l on dG w f (a+1) i) [0,1,6,7] (by rw[Yl h4]) (by omega) (by omega) ?_ rfl rfl (Nat.zero_le _) (by rw[gX,aaH]; omega) (by decide) jl (sR rfl) (sR rfl) ?_
     (repeat' (first|refine bH.lo rfl ?_|refine bH.hi rfl ?_|exact bH.nil))
     exact⟨aT rfl rfl,aT rfl rfl,kW rfl (fG (by omega)) rfl ⟨rfl,rfl⟩ iJ,aT rfl rfl,trivial⟩
   ·have hx':x=g.k:=by
     have: ¬ x<p.rules.length:=by simpa using h3
     omega
    conv=>whnf
    refine .mk (by simp only[okI] at *; first|omega|(simp_all; done)|(simp_all; omega)) ?_
    conv=>whnf
    refine gV.BL 20000 (i+1) (fB (g.og a++[g.wL a i x])) (pU p l on dG w f (a+1)) [0,1,6] (by rw[hx',aaz (by omega)]) (by omega) (by omega) ?_ rfl rfl (Nat.zero_le _) (by rw[gX,aaH]; omega) (by decide) jl (sR rfl) (sR rfl) ?_
    (repeat' (first|refine bH.lo rfl ?_|refine bH.hi rfl ?_|exact bH.nil))
    exact⟨aT rfl rfl,aT rfl rfl,kW rfl (fG (by omega)) rfl ⟨rfl,rfl⟩ iJ,trivial⟩
  ·have hi':i=g.k:=by
    have: ¬ i<p.rules.length:=by simpa using h2
    omega
   conv=>whnf
   refine .mk (by simp only[okI] at *; first|omega|(simp_all; done)|(simp_all; omega)) ?_
   conv=>whnf
   refine gV.BL 20000 (a+1) (fB (g.og a++[g.BI a i])) (pU p l on dG w f (a+1)) [0,1,6] (by rw[UO,hi',aav]) (by omega) (by omega) ?_ rfl rfl (Nat.zero_le _) (by rw[gX,hll]; omega) (by decide) jl (sR rfl) (sR rfl) ?_
   (repeat' (first|refine bH.lo rfl ?_|refine bH.hi rfl ?_|exact bH.nil))
   exact⟨aT rfl rfl,aT rfl rfl,kW rfl (fG (by omega)) rfl ⟨rfl,rfl⟩ iJ,trivial⟩
 ·have ha':a=g.n:=by
   have: ¬ a<l.length:=by simpa using h1
   omega
  rw[ha']
  have hI:=Ym (g:=g)
  generalize g.og g.n=R0 at hI
  conv=>whnf
  have hR0:R0.length=l.length:=by rw[hI.len,gn]
  have hoL:(wO 10000 g.n l.length).length=l.length:=rP (by omega)
  refine aB.fam 20000 [2,3,5,6] (fun s:List (List Bool)×Bool=>[(11,.bool s.2)]) (fun s=>mY (pU p l on dG w f g.n)++kG 10000 (fB s.1)) (fun s=>g.Inv s.1/\(s.2=false->s.1=g.ny)) (fun s=>2*DV s.1+(bif s.2 then 1 else 0)) (R0,true) (lK 10000 (fun j=>10000+j) (dW (pU p l on dG w f g.n) [0,1,6])) _ rfl (by decide) (fun _=>rfl) ⟨hI,fun e=>by cases e⟩ (sR rfl) (.inl rfl) ?_ ?_
  ·refine gy.Ip 20000 (pU p l on dG w f g.n) [0,1,6] ?_ rfl rfl (Nat.zero_le _) (by rw[gX]; show 10000+R0.length<=20000; omega) (by decide) jl ?_
   (repeat' (first|refine bH.lo rfl ?_|refine bH.hi rfl ?_|exact bH.nil))
   exact⟨aT rfl rfl,aT rfl rfl,kW rfl (fG (by omega)) rfl ⟨rfl,rfl⟩ iJ,trivial⟩
  conv=>whnf
  refine⟨(sR rfl),rfl,?_⟩
  rintro⟨R,ag⟩ ⟨hI,hst⟩
  replace hI:g.Inv R:=hI
  replace hst:ag=false->R=g.ny:=hst
  have hRl:R.length=l.length:=by rw[hI.len,gn]
  conv=>whnf
  refine⟨fun h2=>?_,fun h2=>?_⟩
  ·replace h2:ag=true:=h2
   subst h2
   conv=>whnf
   refine aB.fam 20000 [2,3,5,6,98] (fun s:(List (List Bool)×Bool)×Nat=>[(11,.bool s.1.2),(99,.int s.2)]) (fun s=>mY (pU p l on dG w f g.n)++kG 10000 (fB s.1.1)) (fun s=>g.qY R s.1.1 s.1.2 s.2 0 0 0/\s.2<=l.length) (fun s=>l.length-s.2) ((R,false),0) (lK 10000 (fun j=>10000+j) (dW (pU p l on dG w f g.n) [0,1,6])) _ rfl (by decide) (fun _=>rfl) ⟨.zero hI,Nat.zero_le _⟩ (sR rfl) (.inl rfl) ?_ ?_
   ·refine gy.Ip 20000 (pU p l on dG w f g.n) [0,1,6] ?_ rfl rfl (Nat.zero_le _) (by rw[gX]; show 10000+R.length<=20000; omega) (by decide) jl ?_
    (repeat' (first|refine bH.lo rfl ?_|refine bH.hi rfl ?_|exact bH.nil))
    exact⟨aT rfl rfl,aT rfl rfl,kW rfl (fG (by omega)) rfl ⟨rfl,rfl⟩ iJ,trivial⟩
   conv=>whnf
   refine⟨(sR rfl),rfl,?_⟩
   rintro⟨⟨R1,ag⟩,a⟩ ⟨hA,ha⟩
   replace hA:g.qY R R1 ag a 0 0 0:=hA
   replace ha:a<=l.length:=ha
   have hR1:R1.length=l.length:=by rw[hA.inv.len,gn]
   conv=>whnf
   refine⟨fun h3=>?_,fun h3=>?_⟩
   ·have ha':a<l.length:=by simpa using h3
    have hoR:=h.onR a ha'
    have haR:=h.afR a ha'
    conv=>whnf
    refine aB.fam 20000 [2,3,5,6,12,98,99,105] (fun s:(List (List Bool)×Bool)×Nat=>[(11,.bool s.1.2),(106,.int s.2)]) (fun s=>mY (pU p l on dG w f g.n)++kG 10000 (fB s.1.1)) (fun s=>g.qY R s.1.1 s.1.2 a s.2 0 0/\s.2<=p.rules.length) (fun s=>p.rules.length-s.2) ((R1,ag),0) (lK 10000 (fun j=>10000+j) (dW (pU p l on dG w f g.n) [0,1,6])) _ rfl (by decide) (fun _=>rfl) ⟨hA,Nat.zero_le _⟩ (sR rfl) (.inl rfl) ?_ ?_
    ·refine gy.Ip 20000 (pU p l on dG w f g.n) [0,1,6] ?_ rfl rfl (Nat.zero_le _) (by rw[gX]; show 10000+R1.length<=20000; omega) (by decide) jl ?_
     (repeat' (first|refine bH.lo rfl ?_|refine bH.hi rfl ?_|exact bH.nil))
     exact⟨aT rfl rfl,aT rfl rfl,kW rfl (fG (by omega)) rfl ⟨rfl,rfl⟩ iJ,trivial⟩
    conv=>whnf
    refine⟨(sR rfl),rfl,?_⟩
    clear hA hR1
    rintro⟨⟨R1,ag⟩,x⟩ ⟨hA,hx⟩
    replace hA:g.qY R R1 ag a x 0 0:=hA
    replace hx:x<=p.rules.length:=hx
    have hR1:R1.length=l.length:=by rw[hA.inv.len,gn]
    conv=>whnf
    refine⟨fun h4=>?_,fun h4=>?_⟩
    ·have hx':x<p.rules.length:=by simpa using h4
     conv=>whnf
     refine ah.lend (S.neutral p l on dG w f a x h ha' hx') ⟨aG _,aG _,Jg trivial rfl rfl (by decide),Jg trivial rfl rfl (by decide),trivial⟩ rfl rfl ?_
     rw[hg]
     conv=>whnf
     refine⟨fun h5=>?_,fun h5=>?_⟩
     ·replace h5:g.Fv a x=false:=by simpa using h5
      conv=>whnf
      refine .mk (by simp only[okI] at *; first|omega|(simp_all; done)|(simp_all; omega)) ?_
      conv=>whnf
      refine gV.BL 20000 (((R1,ag),x+1)) (fB R1) (pU p l on dG w f g.n) [0,1,6] rfl ⟨hA.agy h5,hx'⟩ (by simp only; omega) ?_ rfl rfl (Nat.zero_le _) (by rw[gX]; omega) (by decide) jl (sR rfl) (sR rfl) ?_
      (repeat' (first|refine bH.lo rfl ?_|refine bH.hi rfl ?_|exact bH.nil))
      exact⟨aT rfl rfl,aT rfl rfl,kW rfl (fG (by omega)) rfl ⟨rfl,rfl⟩ iJ,trivial⟩
     ·replace h5:g.Fv a x=true:=by simpa using h5
      have hga:g.dG a x=(dG.getD a []).getD x []:=by rw[<- hg]; rfl
      have ahK:=h.afN a x
      conv=>whnf
      repeat(refine VC.mk (by first|(simp only[Rw.rng]; omega)|(simp only[Rw.rng,Int.toNat_natCast]; omega)) ?_; conv=>whnf)
      refine aB.fam 20000 [2,3,5,6,12,13,98,99,105,106,121,122] (fun s:(List (List Bool)×Bool)×Nat=>[(11,.bool s.1.2),(123,.int s.2)]) (fun s=>mY (pU p l on dG w f g.n)++kG 10000 (fB s.1.1)) (fun s=>g.qY R s.1.1 s.1.2 a x s.2 0/\s.2<=((dG.getD a []).getD x []).length) (fun s=>((dG.getD a []).getD x []).length-s.2) ((R1,ag),0) (lK 10000 (fun j=>10000+j) (dW (pU p l on dG w f g.n) [0,1,6])) _ rfl (by decide) (fun _=>rfl) ⟨hA,Nat.zero_le _⟩ (sR rfl) (.inl rfl) ?_ ?_
      ·refine gy.Ip 20000 (pU p l on dG w f g.n) [0,1,6] ?_ rfl rfl (Nat.zero_le _) (by rw[gX]; show 10000+R1.length<=20000; omega) (by decide) jl ?_
       (repeat' (first|refine bH.lo rfl ?_|refine bH.hi rfl ?_|exact bH.nil))
       exact⟨aT rfl rfl,aT rfl rfl,kW rfl (fG (by omega)) rfl ⟨rfl,rfl⟩ iJ,trivial⟩
      conv=>whnf
      refine⟨(sR rfl),rfl,?_⟩
      clear hA hR1
      rintro⟨⟨R1,ag⟩,c⟩ ⟨hA,hc⟩
      replace hA:g.qY R R1 ag a x c 0:=hA
      replace hc:c<=((dG.getD a []).getD x []).length:=hc
      have hR1:R1.length=l.length:=by rw[hA.inv.len,gn]
      conv=>whnf
      refine⟨fun h6=>?_,fun h6=>?_⟩
      ·have hc':c<((dG.getD a []).getD x []).length:=by simpa using h6
       have hrow:=hA.inv.row a (by omega)
       rw[gk] at hrow
       conv=>whnf
       repeat(refine VC.mk (by first|(simp only[Rw.rng]; omega)|(simp only[Rw.rng,Int.toNat_natCast]; omega)) ?_; conv=>whnf)
       refine AtZ.out (j:=a) (by omega) ?_
       conv=>whnf
       refine Ur.Rt 20000 (L:=fB R1) (j:=a) ?_ (by rw[gX]; omega) (BJ (by omega)) ?_
       (repeat' (first|refine bH.lo rfl ?_|refine bH.hi rfl ?_|exact bH.nil))
       conv=>whnf
       have hmem:((dG.getD a []).getD x []).getD c 0∈(dG.getD a []).getD x []:=dF hc'
       obtain⟨hb0,hb1⟩:=h.sU a x _ hmem
       have hbg:(g.dG a x).getD c 0=((dG.getD a []).getD x []).getD c 0:=by rw[hga]
       have hbn:(((dG.getD a []).getD x []).getD c 0).toNat<l.length:=by omega
       rw[hrow]
       refine aB.fam 20000 [2,3,5,6,12,13,15,98,99,105,106,121,122,123,131] (fun s:(List (List Bool)×Bool)×Nat=>[(11,.bool s.1.2),(132,.int s.2)]) (fun s=>mY (pU p l on dG w f g.n)++kG 10000 (fB s.1.1)) (fun s=>g.qY R s.1.1 s.1.2 a x c s.2/\s.2<=p.rules.length) (fun s=>p.rules.length-s.2) ((R1,ag),0) (lK 10000 (fun j=>10000+j) (dW (pU p l on dG w f g.n) [0,1,6])) _ rfl (by decide) (fun _=>rfl) ⟨hA,Nat.zero_le _⟩ (sR rfl) (.inl rfl) ?_ ?_
       ·refine gy.Ip 20000 (pU p l on dG w f g.n) [0,1,6] ?_ rfl rfl (Nat.zero_le _) (by rw[gX]; show 10000+R1.length<=20000; omega) (by decide) jl ?_
        (repeat' (first|refine bH.lo rfl ?_|refine bH.hi rfl ?_|exact bH.nil))
        exact⟨aT rfl rfl,aT rfl rfl,kW rfl (fG (by omega)) rfl ⟨rfl,rfl⟩ iJ,trivial⟩
       conv=>whnf
       refine⟨(sR rfl),rfl,?_⟩
       clear hA hR1 hrow
       rintro⟨⟨R1,ag⟩,i⟩ ⟨hA,hi⟩
       replace hA:g.qY R R1 ag a x c i:=hA
       replace hi:i<=p.rules.length:=hi
       have hR1:R1.length=l.length:=by rw[hA.inv.len,gn]
       have hrow:=hA.inv.row a (by omega)
       have agC:=hA.inv.row (((dG.getD a []).getD x []).getD c 0).toNat (by omega)
       rw[gk] at hrow agC
       conv=>whnf
       refine⟨fun h7=>?_,fun h7=>?_⟩
       ·have hi':i<p.rules.length:=by simpa using h7
        conv=>whnf
        refine .mk (by first|(simp only[]; omega)|(simp only[Rw.rng,Int.toNat_natCast]; omega)) ?_
        conv=>whnf
        refine AtZ.out (j:=a) (by omega) ?_
        conv=>whnf
        refine Ur.Rt 20000 (L:=fB R1) (j:=a) ?_ (by rw[gX]; omega) (BJ (by omega)) ?_
        (repeat' (first|refine bH.lo rfl ?_|refine bH.hi rfl ?_|exact bH.nil))
        conv=>whnf
        refine .mk (by first|(simp only[Rw.rng]; omega)|(simp only[Rw.rng,Int.toNat_natCast]; omega)) ?_
        conv=>whnf
        refine Ur.Rt 20000 (L:=fB R1) (j:=a) ?_ (by rw[gX]; omega) (BJ (by omega)) ?_
        (repeat' (first|refine bH.lo rfl ?_|refine bH.hi rfl ?_|exact bH.nil))
        conv=>whnf
        repeat(refine VC.mk (by first|(intro h; simp_all; done)|(simp only[Rw.rng] at *; first|omega|(simp_all; done)|(simp_all; omega))) ?_; conv=>whnf)
        refine⟨fun h8=>?_,fun h8=>?_⟩
        ·have h8':gB R1 a i=true:=h8
         conv=>whnf
         refine .mk (by omega) ?_
         conv=>whnf
         refine AtZ.out (j:=(((dG.getD a []).getD x []).getD c 0).toNat) (by omega) ?_
         conv=>whnf
         refine Fork.mk (fun _=>?_) (fun q=>absurd (q.symm.trans (h8)) Bool.false_ne_true)
         conv=>whnf
         refine .mk (by omega) ?_
         conv=>whnf
         refine Ur.Rt 20000 (L:=fB R1) (j:=(((dG.getD a []).getD x []).getD c 0).toNat) ?_ (by rw[gX]; omega) (BJ (by omega)) ?_
         (repeat' (first|refine bH.lo rfl ?_|refine bH.hi rfl ?_|exact bH.nil))
         conv=>whnf
         refine .mk (by first|(simp only[Rw.rng]; omega)|(simp only[Rw.rng,Int.toNat_natCast]; omega)) ?_
         conv=>whnf
         refine Fork.mk (fun _=>?_) (fun q=>absurd (q.symm.trans (h8)) Bool.false_ne_true)
         conv=>whnf
         refine Ur.Rt 20000 (L:=fB R1) (j:=(((dG.getD a []).getD x []).getD c 0).toNat) ?_ (by rw[gX]; omega) (BJ (by omega)) ?_
         (repeat' (first|refine bH.lo rfl ?_|refine bH.hi rfl ?_|exact bH.nil))
         conv=>whnf
         repeat(refine VC.mk (by first|exact id|(simp only[Rw.rng] at *; first|omega|(simp_all; done)|(simp_all; omega))) ?_; conv=>whnf)
         refine⟨fun h9=>?_,fun h9=>?_⟩
         ·replace h9:(gB R1 a i&& !(gB R1 (((dG.getD a []).getD x []).getD c 0).toNat i))=true:=h9
          rw[h8',Bool.true_and,Bool.not_eq_true'] at h9
          conv=>whnf
          refine .mk (by omega) ?_
          conv=>whnf
          refine AtZ.out (j:=a) (by omega) ?_
          conv=>whnf
          refine Ur.Rt 20000 (L:=fB R1) (j:=a) ?_ (by rw[gX]; omega) (BJ (by omega)) ?_
          (repeat' (first|refine bH.lo rfl ?_|refine bH.hi rfl ?_|exact bH.nil))
          conv=>whnf
          refine .mk (by first|(simp only[Rw.rng]; omega)|(simp only[Rw.rng,Int.toNat_natCast]; omega)) ?_
          conv=>whnf
          refine O8.fB (j:=a) (x:=i) (R:=R1) 20000 3 ((R1.getD a []).set i false) rfl rfl (by omega) (by omega) (by omega) rfl ?_
          conv=>whnf
          refine .mk (by simp only[okI] at *; first|omega|(simp_all; done)|(simp_all; omega)) ?_
          conv=>whnf
          refine gV.BL 20000 (((setB R1 a i false,true),i+1)) (fB (setB R1 a i false)) (pU p l on dG w f g.n) [0,1,6] rfl ⟨hA.take (by omega) (by omega) (by rw[hga]; exact hc') (by omega) h5 h8' (by rw[hbg]; exact h9),hi'⟩ (by simp only; omega) ?_ rfl rfl (Nat.zero_le _) (by rw[gX,Rn]; omega) (by decide) jl (sR rfl) (sR rfl) ?_
          (repeat' (first|refine bH.lo rfl ?_|refine bH.hi rfl ?_|exact bH.nil))
          exact⟨aT rfl rfl,aT rfl rfl,kW rfl (fG (by omega)) rfl ⟨rfl,rfl⟩ iJ,trivial⟩
         ·replace h9:(gB R1 a i&& !(gB R1 (((dG.getD a []).getD x []).getD c 0).toNat i))=false:=h9
          rw[h8',Bool.true_and,Bool.not_eq_false'] at h9
          conv=>whnf
          refine .mk (by simp only[okI] at *; first|omega|(simp_all; done)|(simp_all; omega)) ?_
          conv=>whnf
          refine gV.BL 20000 (((R1,ag),i+1)) (fB R1) (pU p l on dG w f g.n) [0,1,6] rfl ⟨hA.aeh (fun _=>by rw[hbg]; exact h9),hi'⟩ (by simp only; omega) ?_ rfl rfl (Nat.zero_le _) (by rw[gX]; omega) (by decide) jl (sR rfl) (sR rfl) ?_
          (repeat' (first|refine bH.lo rfl ?_|refine bH.hi rfl ?_|exact bH.nil))
          exact⟨aT rfl rfl,aT rfl rfl,kW rfl (fG (by omega)) rfl ⟨rfl,rfl⟩ iJ,trivial⟩
        ·have h8':gB R1 a i=false:=h8
         conv=>whnf
         refine Fork.mk (fun q=>absurd (q.symm.trans (h8)).symm Bool.false_ne_true) (fun _=>?_)
         conv=>whnf
         refine Fork.mk (fun q=>absurd (q.symm.trans (h8)).symm Bool.false_ne_true) (fun _=>?_)
         conv=>whnf
         refine Fork.mk (fun q=>absurd (q.symm.trans (h8)).symm Bool.false_ne_true) (fun _=>?_)
         conv=>whnf
         refine .mk (by intro h; simp_all; done) ?_
         conv=>whnf
         refine⟨fun h9=>?_,fun h9=>?_⟩
         ·exfalso
          exact absurd h9 (by simp)
         ·conv=>whnf
          refine .mk (by simp only[okI] at *; first|omega|(simp_all; done)|(simp_all; omega)) ?_
          conv=>whnf
          refine gV.BL 20000 (((R1,ag),i+1)) (fB R1) (pU p l on dG w f g.n) [0,1,6] rfl ⟨hA.aeh (fun q=>by rw[h8'] at q; cases q),hi'⟩ (by simp only; omega) ?_ rfl rfl (Nat.zero_le _) (by rw[gX]; omega) (by decide) jl (sR rfl) (sR rfl) ?_
          (repeat' (first|refine bH.lo rfl ?_|refine bH.hi rfl ?_|exact bH.nil))
          exact⟨aT rfl rfl,aT rfl rfl,kW rfl (fG (by omega)) rfl ⟨rfl,rfl⟩ iJ,trivial⟩
       ·have hi':g.k<=i:=by
         have: ¬ i<p.rules.length:=by simpa using h7
         omega
        conv=>whnf
        refine .mk (by simp only[okI] at *; first|omega|(simp_all; done)|(simp_all; omega)) ?_
        conv=>whnf
        refine gV.BL 20000 (((R1,ag),c+1)) (fB R1) (pU p l on dG w f g.n) [0,1,6] rfl ⟨hA.agw hi',hc'⟩ (by simp only; omega) ?_ rfl rfl (Nat.zero_le _) (by rw[gX]; omega) (by decide) jl (sR rfl) (sR rfl) ?_
        (repeat' (first|refine bH.lo rfl ?_|refine bH.hi rfl ?_|exact bH.nil))
        exact⟨aT rfl rfl,aT rfl rfl,kW rfl (fG (by omega)) rfl ⟨rfl,rfl⟩ iJ,trivial⟩
      ·have hc':((dG.getD a []).getD x []).length<=c:=by simpa using h6
       conv=>whnf
       refine .mk (by simp only[okI] at *; first|omega|(simp_all; done)|(simp_all; omega)) ?_
       conv=>whnf
       refine gV.BL 20000 (((R1,ag),x+1)) (fB R1) (pU p l on dG w f g.n) [0,1,6] rfl ⟨hA.agx (by rw[hga]; exact hc'),hx'⟩ (by simp only; omega) ?_ rfl rfl (Nat.zero_le _) (by rw[gX]; omega) (by decide) jl (sR rfl) (sR rfl) ?_
       (repeat' (first|refine bH.lo rfl ?_|refine bH.hi rfl ?_|exact bH.nil))
       exact⟨aT rfl rfl,aT rfl rfl,kW rfl (fG (by omega)) rfl ⟨rfl,rfl⟩ iJ,trivial⟩
    ·have hx':p.rules.length<=x:=by simpa using h4
     conv=>whnf
     refine .mk (by simp only[okI] at *; first|omega|(simp_all; done)|(simp_all; omega)) ?_
     conv=>whnf
     refine gV.BL 20000 (((R1,ag),a+1)) (fB R1) (pU p l on dG w f g.n) [0,1,6] rfl ⟨hA.yN (by omega),ha'⟩ (by simp only; omega) ?_ rfl rfl (Nat.zero_le _) (by rw[gX]; omega) (by decide) jl (sR rfl) (sR rfl) ?_
     (repeat' (first|refine bH.lo rfl ?_|refine bH.hi rfl ?_|exact bH.nil))
     exact⟨aT rfl rfl,aT rfl rfl,kW rfl (fG (by omega)) rfl ⟨rfl,rfl⟩ iJ,trivial⟩
   ·have ha':l.length<=a:=by simpa using h3
    conv=>whnf
    have hinv:g.Inv R1/\(ag=false->R1=g.ny):=⟨hA.inv,fun e=>by subst e; exact hA.all (by omega)⟩
    have hmu:2*DV R1+(bif ag then 1 else 0)<2*DV R+1:=by
     have:=hA.le
     cases ag with
     |false=>simp only[cond_false]; omega
     |true=>have:=hA.lt rfl; simp only[cond_true]; omega
    refine gV.BL 20000 ((R1,ag)) (fB R1) (pU p l on dG w f g.n) [0,1,6] rfl hinv hmu ?_ rfl rfl (Nat.zero_le _) (by rw[gX]; omega) (by decide) jl (sR rfl) (sR rfl) ?_
    (repeat' (first|refine bH.lo rfl ?_|refine bH.hi rfl ?_|exact bH.nil))
    exact⟨aT rfl rfl,aT rfl rfl,kW rfl (fG (by omega)) rfl ⟨rfl,rfl⟩ iJ,trivial⟩
  ·replace h2:ag=false:=h2
   have e:=hst h2
   subst e
   have hhl:g.ny.length=l.length:=hRl
   conv=>whnf
   refine Io.iK (B:=10000) ?_ (by decide) fun j hj=>?_
   ·show some (UQ 10000 g.n l.length)=_
    rw[hhl,gn]
   ·refine bH.get (C:=20000) (L:=fB g.ny) ?_ (by rw[gX]; omega) (BJ hj)
    (repeat' (first|refine bH.lo rfl ?_|refine bH.hi rfl ?_|exact bH.nil))
abbrev gpV(l:List Elem)(on:List (List Bool))(dG:List (List (List Int))):V:=.agg [.row 3 false (.elems l),.row 0 false (.jQ dG),.row 0 false (.iK on)]
theorem acR{p:aC}{l:List Elem}{on:List (List Bool)}{dG:List (List (List Int))}{w:List Int}{a x:Nat}:(Hf p l on dG w).Fv a x= !((!((on.getD a []).getD x false)||zQ (p.rules.getD x default) w)||Fa (p.rules.getD x default) w):=by
 show(((on.getD a []).getD x false&& !(zQ (p.rules.getD x default) w))&& !(Fa (p.rules.getD x default) w))=_
 cases (on.getD a []).getD x false<;>cases zQ (p.rules.getD x default) w<;>rfl
set_option maxHeartbeats 1000000 in
theorem S.BM(p:aC)(l:List Elem)(on:List (List Bool))(dG:List (List (List Int)))(w:List Int)(f:Bool)(G:List Bool)(r i:Nat)(h:Rq p l on dG w)(hG:G.length=l.length)(hr:r<p.rules.length)(hi:i<l.length):aj Tryz.prog 96 [.dat (.gW p),gpV l on dG,.row 0 f (.ints w),.row 0 false (.bools G),.int r,.int i] (.bool ((Hf p l on dG w).kept G r i)):=by
 have hn:=h.n; have hk:=h.k; have e1:=h.zY; have e2:=h.xQ; have hwl:=h.wl
 have hoR:=h.onR i hi
 have haR:=h.afR i hi
 generalize hg:Hf p l on dG w=g
 have gn:g.n=l.length:=by rw[<- hg]; rfl
 have gk:g.k=p.rules.length:=by rw[<- hg]; rfl
 refine aj.of Bd.BM (by simp) rfl rfl ?_
 conv=>whnf
 refine aB.same [2,3,4,5,6,7] (fun x:Nat=>[(13,.int x)]) (fun x=>x<=p.rules.length/\ ∀ x',x'<x->g.Fv i x'=true->g.Qq x' r=false/\ ∀ b∈g.dG i x',G.getD b.toNat false=true) (fun x=>p.rules.length-x) 0 rfl (by decide) rfl (fun _=>rfl) ⟨Nat.zero_le _,fun x hx=>by omega⟩ ⟨⟨_,rfl,rfl⟩,trivial⟩ ?_
 conv=>whnf
 refine⟨rfl,?_⟩
 rintro x ⟨hx,hno⟩
 have hga:g.dG i x=(dG.getD i []).getD x []:=by rw[<- hg]; rfl
 have hgm:g.Qq x r=ZO (p.rules.getD x default) (p.rules.getD r default).fr:=by rw[<- hg]; rfl
 have hgn:g.Fv i x= !((!((on.getD i []).getD x false)||zQ (p.rules.getD x default) w)||Fa (p.rules.getD x default) w):=by rw[<- hg]; exact acR
 have ahK:=h.afN i x
 conv=>whnf
 refine⟨fun h3=>?_,fun h3=>?_⟩
 ·have hx':x<p.rules.length:=by simpa using h3
  conv=>whnf
  repeat(refine VC.mk (by first|(first|(simp only[Rw.rng]; omega)|(simp only[Rw.rng,Int.toNat_natCast]; omega)|(intro _; simp only[Rw.rng]; omega))|exact fun h=>h|exact fun h=>⟨h,h⟩|(intro h; (repeat' apply And.intro)<;>first|exact h|omega|(simp only[Rw.nO]; omega)|(simp only[Rw.rng]; omega))) ?_; conv=>whnf)
  refine ah.dL (fun _=>S.nX (p.rules.getD x default) w f h.wok (h.ZE x hx') h.wl) rfl ?_
  conv=>whnf
  repeat(refine VC.mk (by first|exact id|exact fun h=>⟨h,h⟩|(intro h; rw[h]; rfl)|(intro h; (repeat' apply And.intro)<;>first|exact h|omega|(simp only[Rw.nO]; omega)|(simp only[Rw.rng]; omega))) ?_; conv=>whnf)
  refine ah.dL (fun _=>S.oK (p.rules.getD x default) w f h.wok (h.ZE x hx') h.wl) rfl ?_
  conv=>whnf
  refine .mk (by intro h; rw[h]; rfl) ?_
  conv=>whnf
  refine⟨fun h4=>?_,fun h4=>?_⟩
  ·replace h4:g.Fv i x=false:=by rw[hgn,show((!((on.getD i []).getD x false)||zQ (p.rules.getD x default) w)||Fa (p.rules.getD x default) w)=true from h4]; rfl
   conv=>whnf
   refine .mk (by simp only[okI] at *; first|omega|(simp_all; done)|(simp_all; omega)) ?_
   conv=>whnf
   refine⟨x+1,⟨hx',fun x' h1 h2=>?_⟩,by omega,⟨⟨_,rfl,rfl⟩,trivial⟩,?_,rfl⟩
   ·rcases Nat.lt_or_ge x' x with q|q
    ·exact hno x' q h2
    ·have:x'=x:=by omega
     subst this; rw[h4] at h2; cases h2
   ·repeat' (first|exact trivial|exact⟨_,rfl,rfl⟩|constructor)
  ·replace h4:g.Fv i x=true:=by rw[hgn,show((!((on.getD i []).getD x false)||zQ (p.rules.getD x default) w)||Fa (p.rules.getD x default) w)=false from h4]; rfl
   conv=>whnf
   repeat(refine VC.mk (by first|(simp only[Rw.rng]; omega)|(simp only[Rw.rng,Int.toNat_natCast]; omega)) ?_; conv=>whnf)
   refine ah.pure (S.yH (p.rules.getD x default) (p.rules.getD r default).fr w.length (h.ZE x hx') (h.ZE r hr).place.src) rfl ?_
   conv=>whnf
   refine⟨fun h5=>?_,fun h5=>?_⟩
   ·replace h5:g.Qq x r=true:=by rw[hgm]; exact h5
    conv=>whnf
    refine ak.bool ?_
    refine Bool.eq_false_iff.2 fun q=>?_
    have:=(BH.1 q x (by omega) h4).1
    rw[h5] at this; cases this
   ·replace h5:g.Qq x r=false:=by rw[hgm]; exact h5
    conv=>whnf
    refine aB.same [2,3,4,5,6,7,13] (fun c:Nat=>[(14,.int c)]) (fun c=>c<=((dG.getD i []).getD x []).length/\ ∀ c',c'<c->G.getD (((dG.getD i []).getD x []).getD c' 0).toNat false=true) (fun c=>((dG.getD i []).getD x []).length-c) 0 rfl (by decide) rfl (fun _=>rfl) ⟨Nat.zero_le _,fun x hx=>by omega⟩ ⟨⟨_,rfl,rfl⟩,trivial⟩ ?_
    conv=>whnf
    refine⟨rfl,?_⟩
    rintro c ⟨hc,hcn⟩
    conv=>whnf
    repeat(refine VC.mk (by first|(simp only[Rw.rng]; omega)|(simp only[Rw.rng,Int.toNat_natCast]; omega)) ?_; conv=>whnf)
    refine⟨fun h6=>?_,fun h6=>?_⟩
    ·have hc':c<((dG.getD i []).getD x []).length:=by simpa using h6
     obtain⟨hb0,hb1⟩:=h.sU i x _ (dF (d:=0) hc')
     conv=>whnf
     repeat(refine VC.mk (by first|(simp only[Rw.rng]; omega)|(simp only[Rw.rng,Int.toNat_natCast]; omega)) ?_; conv=>whnf)
     refine⟨fun h7=>?_,fun h7=>?_⟩
     ·replace h7:G.getD (((dG.getD i []).getD x []).getD c 0).toNat false=false:=by simpa using h7
      conv=>whnf
      refine ak.bool ?_
      refine Bool.eq_false_iff.2 fun q=>?_
      have:=(BH.1 q x (by omega) h4).2 (((dG.getD i []).getD x []).getD c 0) (by rw[hga]; exact dF hc')
      rw[h7] at this; cases this
     ·replace h7:G.getD (((dG.getD i []).getD x []).getD c 0).toNat false=true:=by simpa using h7
      conv=>whnf
      refine .mk (by simp only[okI] at *; first|omega|(simp_all; done)|(simp_all; omega)) ?_
      conv=>whnf
      refine⟨c+1,⟨hc',fun c' h1=>?_⟩,by omega,⟨⟨_,rfl,rfl⟩,trivial⟩,?_,rfl⟩
      ·rcases Nat.lt_or_ge c' c with q|q
       ·exact hcn c' q
       ·have:c'=c:=by omega
        subst this; exact h7
      ·repeat' (first|exact trivial|exact⟨_,rfl,rfl⟩|constructor)
    ·have hc':((dG.getD i []).getD x []).length<=c:=by simpa using h6
     conv=>whnf
     refine .mk (by simp only[okI] at *; first|omega|(simp_all; done)|(simp_all; omega)) ?_
     conv=>whnf
     refine⟨x+1,⟨hx',fun x' h1 h2=>?_⟩,by omega,⟨⟨_,rfl,rfl⟩,trivial⟩,?_,rfl⟩
     ·rcases Nat.lt_or_ge x' x with q|q
      ·exact hno x' q h2
      ·have:x'=x:=by omega
       subst this
       refine⟨h5,fun b hb=>?_⟩
       rw[hga] at hb
       obtain⟨c',hc1,rfl⟩:=List.mem_iff_getElem.1 hb
       have:=hcn c' (by omega)
       rw[getD_some hc1] at this; exact this
     ·repeat' (first|exact trivial|exact⟨_,rfl,rfl⟩|constructor)
 ·have hx':p.rules.length<=x:=by simpa using h3
  conv=>whnf
  exact ak.bool (BH.2 fun x' h1 h2=>hno x' (by omega) h2)
theorem ak.ownB{h:Hz}{j:Nat}{l:List Bool}(q:h.get j=some (rowB l)):ak (.row 0 false (.bools l)) (.own j) h:=⟨by
 show T.sub _ h.au (.sl 0 false (l.map T.bool)) (.own j)
 simp only[T.sub]
 refine⟨trivial,trivial,?_,by decide,4,?_⟩
 ·rw[dR]; intro t ht; obtain⟨x,_,rfl⟩:=List.mem_map.1 ht; rfl
 ·rw[aO q]; simp[OV.ay,Rw.aS,V.aS]⟩
theorem aei{h:Hz}{j:Nat}{Z:Nat->Prop}{l:List Bool}(hz:Z j)(q:h.get j=some (rowB l)):T.sub Z h.au (V.row 0 false (.bools l)).aI (V.own j).aI:=by
 show T.sub _ h.au (.sl 0 false (l.map T.bool)) (.own j)
 simp only[T.sub]
 refine⟨trivial,hz,?_,by decide,4,?_⟩
 ·rw[dR]; intro t ht; obtain⟨x,_,rfl⟩:=List.mem_map.1 ht; rfl
 ·rw[aO q]; simp[OV.ay,Rw.aS,V.aS]
abbrev aeY(l:List Elem)(on:List (List Bool))(dG:List (List (List Int))):OV:=.box 72 4 (gpV l on dG)
abbrev aeZ(p:aC)(l:List Elem)(on:List (List Bool))(dG:List (List (List Int)))(G:List Bool):List (Nat×OV):=[(0,OZ p),(1,aeY l on dG),(6,rowB G)]
set_option maxHeartbeats 1000000 in
theorem S.qN(p:aC)(l:List Elem)(on:List (List Bool))(dG:List (List (List Int)))(w:List Int)(f:Bool)(r:Nat)(h:Rq p l on dG w)(hr:r<p.rules.length):aj Tryz.prog 64 [.dat (.gW p),gpV l on dG,.row 0 f (.ints w),.int r] (.row 0 false (.bools ((Hf p l on dG w).Es r))):=by
 have hn:=h.n; have hk:=h.k; have e1:=h.zY; have e2:=h.xQ; have hwl:=h.wl
 generalize hg:Hf p l on dG w=g
 have gn:g.n=l.length:=by rw[<- hg]; rfl
 have gk:g.k=p.rules.length:=by rw[<- hg]; rfl
 obtain⟨r0,hr0,hr1⟩:=Dp l.length
 refine aj.of Bd.qN (by simp) rfl rfl ?_
 conv=>whnf
 rw[hr0]
 conv=>whnf
 refine .mk (by omega) ?_
 conv=>whnf
 refine aB.nH 20 [2,3,4,5] (fun i:Nat=>[(10,.int i),(9,.own 6)]) (fun i=>aeZ p l on dG (g.Et r i)) (fun i=>i<=l.length) (fun i=>l.length-i) 0 [0,1,6] rfl (by decide) (fun _=>rfl) (Nat.zero_le _) ?_ ?_ ?_
 ·exact(sR rfl)
 ·refine⟨aT rfl rfl,aT rfl rfl,okF rfl nofun rfl rfl rfl ⟨rfl,rfl⟩ ?_,trivial⟩
  rw[Yn,gn]
  simp[OV.ay,hr1]
 conv=>whnf
 refine⟨(sR rfl),rfl,?_⟩
 rintro i hi
 have hbl:(g.Et r i).length=l.length:=by rw[aaB (by omega),gn]
 conv=>whnf
 refine⟨fun h1=>?_,fun h1=>?_⟩
 ·have hi':i<l.length:=by
   have:(i:Int)<((g.Et r i).length:Int):=of_decide_eq_true h1
   omega
  have hoR:=h.onR i hi'
  have hbs:=aaC (g:=g) (r:=r) (i:=i) (by omega)
  conv=>whnf
  repeat(refine VC.mk (by first|(first|(simp only[Rw.rng]; omega)|(simp only[Rw.rng,Int.toNat_natCast]; omega)|(intro _; simp only[Rw.rng]; omega))|exact fun h=>h|exact fun h=>⟨h,h⟩|(intro h; (repeat' apply And.intro)<;>first|exact h|omega|(simp only[Rw.nO]; omega)|(simp only[Rw.rng]; omega))) ?_; conv=>whnf)
  refine ah.dL (fun _=>S.oK (p.rules.getD r default) w f h.wok (h.ZE r hr) h.wl) rfl ?_
  conv=>whnf
  repeat(refine VC.mk (by first|(first|(simp only[Rw.rng,Int.toNat_natCast]; omega))|exact fun h=>h|(simp only[okI] at *; first|omega|(simp_all; done)|(simp_all; omega))) ?_; conv=>whnf)
  refine⟨i+1,[0,1,6],hi',by omega,(sR rfl),(sR rfl),?_⟩
  rw[<- hbs,<- hg]
  exact⟨aT rfl rfl,aT rfl rfl,aT rfl rfl,trivial⟩
 ·have hi':l.length<=i:=by
   have: ¬ ((i:Int)<((g.Et r i).length:Int)):=of_decide_eq_false h1
   omega
  have hie:i=g.n:=by omega
  have hI:=aaD (g:=g) (r:=r)
  rw[hie]
  generalize g.Et r g.n=G0 at hI
  conv=>whnf
  refine aB.nH 20 [2,3,4,5] (fun s:List Bool×Bool=>[(11,.bool s.2),(9,.own 6)]) (fun s=>aeZ p l on dG s.1) (fun s=>g.Inv1 r s.1/\(s.2=false->s.1=g.Es r)) (fun s=>2*s.1.countP (fun b=>b)+(bif s.2 then 1 else 0)) (G0,true) [0,1,6] rfl (by decide) (fun _=>rfl) ⟨hI,fun e=>by cases e⟩ ?_ ?_ ?_
  ·exact(sR rfl)
  ·skip
   exact⟨aT rfl rfl,aT rfl rfl,aT rfl rfl,trivial⟩
  conv=>whnf
  refine⟨(sR rfl),rfl,?_⟩
  rintro⟨G,ag⟩ ⟨hI,hst⟩
  replace hI:g.Inv1 r G:=hI
  replace hst:ag=false->G=g.Es r:=hst
  conv=>whnf
  refine⟨fun h2=>?_,fun h2=>?_⟩
  ·replace h2:ag=true:=h2
   subst h2
   conv=>whnf
   refine aB.nH 20 [2,3,4,5] (fun s:(List Bool×Bool)×Nat=>[(11,.bool s.1.2),(12,.int s.2),(9,.own 6)]) (fun s=>aeZ p l on dG s.1.1) (fun s=>g.IY r G s.1.1 s.1.2 s.2/\s.2<=l.length) (fun s=>l.length-s.2) ((G,false),0) [0,1,6] rfl (by decide) (fun _=>rfl) ⟨.zero hI,Nat.zero_le _⟩ ?_ ?_ ?_
   ·exact(sR rfl)
   ·skip
    exact⟨aT rfl rfl,aT rfl rfl,aT rfl rfl,trivial⟩
   conv=>whnf
   refine⟨(sR rfl),rfl,?_⟩
   rintro⟨⟨G1,ag⟩,i⟩ ⟨hA,hi⟩
   replace hA:g.IY r G G1 ag i:=hA
   replace hi:i<=l.length:=hi
   have hG1:G1.length=l.length:=by rw[hA.inv.len,gn]
   conv=>whnf
   refine⟨fun h3=>?_,fun h3=>?_⟩
   ·have hi':i<l.length:=by
     have:(i:Int)<(G1.length:Int):=of_decide_eq_true h3
     omega
    conv=>whnf
    repeat(refine VC.mk (by first|(first|(simp only[Rw.rng]; omega)|(simp only[Int.toNat_natCast]; omega))|(intro h; simp only[h,true_and]; done)) ?_; conv=>whnf)
    refine ah.WC (fun _=>S.BM p l on dG w f G1 r i h hG1 hr hi') (fun _=>⟨aG _,aG _,aG _,aei trivial rfl,aG _,aG _,trivial⟩) rfl rfl ?_
    rw[hg]
    conv=>whnf
    repeat(refine VC.mk id ?_; conv=>whnf)
    refine⟨fun h4=>?_,fun h4=>?_⟩
    ·replace h4:(G1.getD i false&& !(g.kept G1 r i))=true:=h4
     rw[Bool.and_eq_true,Bool.not_eq_true'] at h4
     conv=>whnf
     repeat(refine VC.mk (by first|(first|(simp only[Rw.rng]; omega)|(simp only[]; omega))|(simp only[okI] at *; first|omega|(simp_all; done)|(simp_all; omega))) ?_; conv=>whnf)
     refine⟨((G1.set i false,true),i+1),[0,1,6],⟨hA.take (by omega) h4.1 h4.2,hi'⟩,by simp only; omega,(sR rfl),(sR rfl),?_⟩
     exact⟨aT rfl rfl,aT rfl rfl,aT rfl rfl,trivial⟩
    ·replace h4:(G1.getD i false&& !(g.kept G1 r i))=false:=h4
     conv=>whnf
     refine .mk (by simp only[okI] at *; first|omega|(simp_all; done)|(simp_all; omega)) ?_
     conv=>whnf
     refine⟨((G1,ag),i+1),[0,1,6],⟨hA.next (fun q=>by rw[q,Bool.true_and,Bool.not_eq_false'] at h4; exact h4),hi'⟩,by simp only; omega,(sR rfl),(sR rfl),?_⟩
     exact⟨aT rfl rfl,aT rfl rfl,aT rfl rfl,trivial⟩
   ·have hi':g.n<=i:=by
     have: ¬ ((i:Int)<(G1.length:Int)):=of_decide_eq_false h3
     omega
    conv=>whnf
    refine⟨(G1,ag),[0,1,6],⟨hA.inv,fun e=>by subst e; exact hA.all hi'⟩,?_,(sR rfl),(sR rfl),?_⟩
    ·have:=hA.le
     show 2*G1.countP (fun b=>b)+(bif ag then 1 else 0)<2*G.countP (fun b=>b)+1
     cases ag with
     |false=>simp only[cond_false]; omega
     |true=>have:=hA.lt rfl; simp only[cond_true]; omega
    exact⟨aT rfl rfl,aT rfl rfl,aT rfl rfl,trivial⟩
  ·replace h2:ag=false:=h2
   have e:=hst h2
   subst e
   conv=>whnf
   exact ak.ownB rfl
def fO:List Int->Option OV
 |[]=>none
 |x::r=>some (mg (x::r))
abbrev fI(R:List (List Int)):List (Option OV):=R.map fO
def WE(B:Nat)(R:List (List Int))(j:Nat):V:=match R.getD j [] with
 |[]=>vw .nil
 |_::_=>.inn (B+j)
def outW(B:Nat)(R:List (List Int)):List V:=(List.range R.length).map (WE B R)
abbrev Yo(B:Nat)(R:List (List Int)):OV:=.gen 24 0 (outW B R)
theorem mM{B:Nat}{R:List (List Int)}:(outW B R).length=R.length:=by simp[outW]
theorem y5{B j:Nat}{R:List (List Int)}(h:j<R.length):(outW B R)[j]? =some (WE B R j):=by
 unfold outW; rw[List.getElem?_map,List.getElem?_range h]; rfl
theorem oP{B j:Nat}{R:List (List Int)}:(R.getD j []=[]/\WE B R j=vw .nil)\/(R.getD j []≠[]/\WE B R j= .inn (B+j)):=by
 unfold WE
 cases R.getD j [] with
 |nil=>exact .inl ⟨rfl,rfl⟩
 |cons x r=>exact .inr ⟨(by simp),rfl⟩
theorem vP{B nx:Nat}{R:List (List Int)}(h:B+R.length<=nx):(Yo B R).good nx=true:=by
 refine FC (fun v hv=>?_) fun v hv=>?_
 ·obtain⟨j,hj,rfl⟩:=List.mem_map.1 hv
  rcases oP (B:=B) (j:=j) (R:=R) with ⟨_,e⟩|⟨_,e⟩<;>rw[e]<;>rfl
 ·obtain⟨j,hj,rfl⟩:=List.mem_map.1 hv
  have:=List.mem_range.1 hj
  rcases oP (B:=B) (j:=j) (R:=R) with ⟨_,e⟩|⟨_,e⟩<;>rw[e]
  ·rfl
  ·show Nat.blt (B+j) nx=true
   exact Nat.blt_eq.mpr (by omega)
theorem J9{B:Nat}{R:List (List Int)}{f:Nat->Nat}:bD (T.bU (lK B (fun j=>B+j) f) (Yo B R).ay.l) (Yo B R).ay.l:=by
 refine bD.of_eq ?_
 show T.bU _ (V.aS (outW B R))=V.aS (outW B R)
 rw[pR,bJ,List.map_map]
 refine List.map_congr_left fun v hv=>?_
 obtain⟨j,hj,rfl⟩:=List.mem_map.1 hv
 rcases oP (B:=B) (j:=j) (R:=R) with ⟨_,e⟩|⟨_,e⟩
 ·simp only[Function.comp,e]; rfl
 ·simp only[Function.comp,e]
  show T.own (lK B (fun j=>B+j) f (B+j))=T.own (B+j)
  rw[rQ]
theorem Ru{B i N:Nat}{R:List (List Int)}{c:List Int}{f:Nat->Nat}(hi:i<R.length)(hc:c≠[]):bD (T.bU (lK B (fun j=>if j=i then N else B+j) f) (Yo B (R.set i c)).ay.l) (OV.gen 24 0 ((outW B R).set i (.own N))).ay.l:=by
 refine bD.of_eq ?_
 show T.bU _ (V.aS (outW B (R.set i c)))=V.aS ((outW B R).set i (.own N))
 rw[pR,bJ,bJ,List.map_map]
 have hl:(outW B (R.set i c)).length=R.length:=by rw[mM,List.length_set]
 apply List.ext_getElem
 ·simp[hl,mM]
 ·intro j h1 h2
  have hj:j<R.length:=by simpa [hl] using h1
  have e1:(outW B (R.set i c))[j]'(by rw[hl]; exact hj)=WE B (R.set i c) j:=by
   have:=y5 (B:=B) (R:=R.set i c) (j:=j) (by rw[List.length_set]; exact hj)
   rw[List.getElem?_eq_getElem (by rw[hl]; exact hj),Option.some.injEq] at this
   exact this
  simp only[List.getElem_map,Function.comp,e1]
  by_cases hji:j=i
  ·subst hji
   have e2:((outW B R).set j (V.own N))[j]'(by rw[List.length_set,mM]; exact hj)=V.own N:=List.getElem_set_self ..
   rw[e2]
   have e3:(R.set j c).getD j []=c:=by rw[getD_some (by simpa using hi),List.getElem_set_self]
   rcases oP (B:=B) (j:=j) (R:=R.set j c) with ⟨q,_⟩|⟨_,e⟩
   ·rw[e3] at q; exact absurd q hc
   ·rw[e]
    show T.own (lK B _ f (B+j))=T.own N
    rw[rQ,if_pos rfl]
  ·have e2:((outW B R).set i (V.own N))[j]'(by rw[List.length_set,mM]; exact hj)=WE B R j:=by
    rw[List.getElem_set_ne (Ne.symm hji)]
    have:=y5 (B:=B) (R:=R) (j:=j) hj
    rw[List.getElem?_eq_getElem (by rw[mM]; exact hj),Option.some.injEq] at this
    exact this
   rw[e2]
   have e3:(R.set i c).getD j []=R.getD j []:=by rw[List.getD_eq_getElem?_getD,List.getElem?_set_ne (Ne.symm hji),<- List.getD_eq_getElem?_getD]
   have e4:WE B (R.set i c) j=WE B R j:=by unfold WE; rw[e3]
   rw[e4]
   rcases oP (B:=B) (j:=j) (R:=R) with ⟨_,e⟩|⟨_,e⟩<;>rw[e]
   ·rfl
   ·show T.own (lK B _ f (B+j))=T.own (B+j)
    rw[rQ,if_neg hji]
theorem FH{R:List (List Int)}{nx:Nat}: ∀ o,some o∈fI R->o.good nx=true/\o.Ik=true:=by
 intro o h
 obtain⟨r,_,e⟩:=List.mem_map.1 h
 cases r with
 |nil=>cases e
 |cons x r=>cases e; exact⟨rfl,rfl⟩
theorem yu{R:List (List Int)}:(fI R).length=R.length:=List.length_map _
theorem UR{R:List (List Int)}{j:Nat}(h:R.getD j []≠[]):(fI R)[j]? =some (some (mg (R.getD j []))):=by
 have hj:j<R.length:=by
  rcases Nat.lt_or_ge j R.length with q|q
  ·exact q
  ·exact absurd (getD_none q) h
 rw[List.getElem?_map,List.getElem?_eq_getElem hj]
 rw[getD_some hj] at h ⊢
 cases hr:R[j] with
 |nil=>exact absurd hr h
 |cons x r=>rfl
theorem aaI{R:List (List Int)}{i:Nat}{c:List Int}: ∀ j o,j≠i->(fI (R.set i c))[j]? =some (some o)->(fI R)[j]? =some (some o):=by
 intro j o hj q
 rw[List.getElem?_map,List.getElem?_set_ne (Ne.symm hj)] at q
 rw[List.getElem?_map]; exact q
theorem aej{R:List (List Int)}{i:Nat}{c:List Int}{o:OV}(hi:i<R.length)(hc:c≠[])(q:(fI (R.set i c))[i]? =some (some o)):o=mg c:=by
 have e:(R.set i c).getD i []=c:=by rw[getD_some (by simpa using hi),List.getElem_set_self]
 rw[UR (by rw[e]; exact hc),e] at q
 cases q; rfl
theorem Io.gu{h:Hz}{i B:Nat}{R:List (List Int)}(hi:h.get i=some (Yo B R))(hB:i<B)(hR: ∀ j,R.getD j []≠[]->h.get (B+j)=some (mg (R.getD j []))):Io (.row 0 false (.gu R)) (.own i) h:=by
 have hl:(OV.row 24 0 (.gu R) []).ay.l=R.map Go.Ab.ints:=by simp[OV.ay,Rw.aS,V.aS]
 have hel: ∀ j (hj:j<R.length),(outW B R)[j]'(by rw[mM]; exact hj)=WE B R j:=fun j hj=>by
  have:=y5 (B:=B) (R:=R) (j:=j) hj
  rw[List.getElem?_eq_getElem (by rw[mM]; exact hj),Option.some.injEq] at this
  exact this
 refine⟨[(i,some (.row 24 0 (.gu R) []))],⟨fun c=>B<=c,⟨_,hi,by omega,rfl,rfl,?_,?_,?_⟩,trivial⟩,?_⟩
 ·rw[hl]
  show T.dP _ _ _ (V.aS (outW B R))
  refine Jf (by rw[dQ,mM,List.length_map]) fun j t u h1 h2=>?_
  have hj:j<R.length:=by have:=(List.getElem?_eq_some_iff.1 h1).1; simpa using this
  rw[bJ,List.getElem?_map,y5 hj] at h2
  rw[List.getElem?_map,List.getElem?_eq_getElem hj] at h1
  cases h1; cases h2
  have hRj:R.getD j []=R[j]:=getD_some hj
  rcases oP (B:=B) (j:=j) (R:=R) with ⟨q,e⟩|⟨q,e⟩
  ·rw[e]; rw[hRj] at q; rw[q]
   show T.sub _ _ (.sl 0 false []) (.sl 0 true [])
   simp[T.sub]
  ·rw[e]
   have:=aO (hR j q)
   rw[hRj] at this
   simp only[V.aI,T.sub]
   refine⟨trivial,Nat.le_add_right _ _,?_,by decide,3,?_⟩
   ·rw[dR]; intro t ht; obtain⟨x,_,rfl⟩:=List.mem_map.1 ht; rfl
   ·rw[this]; simp[OV.ay,Rw.aS,V.aS]
 ·rw[hl]
  show _=List.map T.kd (V.aS (outW B R))
  rw[bJ,List.map_map,List.map_map]
  apply List.ext_getElem
  ·simp[mM]
  ·intro j h1 h2
   have hj:j<R.length:=by simpa using h1
   simp only[List.getElem_map,Function.comp,hel j hj]
   rcases oP (B:=B) (j:=j) (R:=R) with ⟨_,e⟩|⟨_,e⟩<;>rw[e]<;>rfl
 ·rw[hl]
  show _=List.map fV (V.aS (outW B R))
  rw[bJ,List.map_map,List.map_map]
  apply List.ext_getElem
  ·simp[mM]
  ·intro j h1 h2
   have hj:j<R.length:=by simpa using h1
   simp only[List.getElem_map,Function.comp,hel j hj]
   rcases oP (B:=B) (j:=j) (R:=R) with ⟨_,e⟩|⟨_,e⟩<;>rw[e]<;>rfl
 ·show T.sub _ _ (.sl 0 false (R.map Go.Ab.ints)) (.own i)
  simp only[T.sub]
  refine⟨trivial,trivial,?_,by decide,24,?_⟩
  ·rw[dR]; intro t ht; obtain⟨x,_,rfl⟩:=List.mem_map.1 ht; rfl
  ·rw[<- hl]
   simp[Hz.au,Hz.get,OV.ay]
theorem Ko.fI{B:Nat}(C k:Nat){j:Nat}{R:List (List Int)}{h:Hz}{K:Rw->Hz->Prop}(e:h.drop k=kG B (fI R))(ho:DX B C (h.take k)=true)(hC:B+R.length<=C)(hj:R.getD j []≠[])
  (hK:K (.ints (R.getD j [])) (h.take k++kG B ((fI R).set j none))):Ko h (B+j) 3 0 K :=
 Ko.fam C (show BK (h.take k) _ h from by rw[BK,<- e,List.take_append_drop]) ho (by rw[yu]; exact hC) (UR hj) hK
noncomputable def Gr.hl(g:Gr)(a r:Nat):List Int:=((List.range r).filter fun i=>g.hlp a i).map fun i:Nat=>(i:Int)
noncomputable def Gr.iQ(g:Gr)(r i:Nat):List (List Int):=(List.range g.n).map fun a=>if a<i then g.hl a (r+1) else g.hl a r
variable {g:Gr}
theorem O9{a r:Nat}:g.hl a (r+1)=if g.hlp a r=true then g.hl a r++[(r:Int)] else g.hl a r:=by
 unfold Gr.hl
 rw[List.range_succ,List.filter_append,List.map_append]
 cases h:g.hlp a r<;>simp[h]
theorem dS{r i:Nat}:(g.iQ r i).length=g.n:=by simp[Gr.iQ]
theorem oQ{r i a:Nat}(ha:a<g.n):(g.iQ r i).getD a []=if a<i then g.hl a (r+1) else g.hl a r:=by
 unfold Gr.iQ; rw[je ha]
theorem Yp{r i:Nat}(hi:i<g.n):g.iQ r (i+1)=(g.iQ r i).set i (g.hl i (r+1)):=by
 refine uG [] (by rw[dS,List.length_set,dS]) fun a ha=>?_
 rw[dS] at ha
 rw[oQ ha]
 by_cases hai:a=i
 ·subst hai
  rw[if_pos (Nat.lt_succ_self a),getD_some (by rw[List.length_set,dS]; exact ha),List.getElem_set_self]
 ·rw[List.getD_eq_getElem?_getD,List.getElem?_set_ne (Ne.symm hai),<- List.getD_eq_getElem?_getD,oQ ha]
  by_cases h1:a<i
  ·rw[if_pos h1,if_pos (by omega)]
  ·rw[if_neg h1,if_neg (by omega)]
theorem UU{r i:Nat}(hi:i<g.n)(h:g.hlp i r=false):g.iQ r (i+1)=g.iQ r i:=by
 refine uG [] (by rw[dS,dS]) fun a ha=>?_
 rw[dS] at ha
 rw[oQ ha,oQ ha]
 by_cases hai:a=i
 ·subst hai
  rw[if_pos (Nat.lt_succ_self a),if_neg (Nat.lt_irrefl a),O9,h]; rfl
 ·by_cases h1:a<i
  ·rw[if_pos h1,if_pos (by omega)]
  ·rw[if_neg h1,if_neg (by omega)]
theorem UW{r i:Nat}(hi:g.n<=i):g.iQ r i=g.iQ (r+1) 0:=by
 refine uG [] (by rw[dS,dS]) fun a ha=>?_
 rw[dS] at ha
 rw[oQ ha,oQ ha,if_pos (by omega),if_neg (by omega)]
theorem Ny:g.iQ g.k 0=g.pz:=by
 refine uG [] (by rw[dS]; simp[Gr.pz]) fun a ha=>?_
 rw[dS] at ha
 rw[oQ ha,if_neg (by omega)]
 unfold Gr.pz Gr.hl
 rw[je ha]
theorem Eu:g.iQ 0 0=List.replicate g.n []:=by
 refine uG [] (by rw[dS]; simp) fun a ha=>?_
 rw[dS] at ha
 rw[oQ ha,if_neg (by omega),getD_some (by simpa using ha)]
 simp[Gr.hl]
theorem ae0{i r:Nat}(h:g.hlp i r=true):g.hl i (r+1)≠[]:=by rw[O9,if_pos h]; simp
abbrev L6(p:aC)(l:List Elem)(on:List (List Bool))(dG:List (List (List Int)))(R:List (List Int)):List (Nat×OV):=[(0,OZ p),(1,aeY l on dG),(6,Yo 10000 R)]
theorem aaJ{B n:Nat}:outW B (List.replicate n [])=List.replicate n (vw .nil):=by
 apply List.ext_getElem
 ·simp[mM]
 ·intro j h1 h2
  have hj:j<n:=by simpa using h2
  have:=y5 (B:=B) (R:=List.replicate n []) (j:=j) (by simpa using hj)
  rw[List.getElem?_eq_getElem h1,Option.some.injEq] at this
  rw[this,List.getElem_replicate]
  unfold WE
  rw[getD_some (by simpa using hj),List.getElem_replicate]
theorem aaK{n j:Nat}{o:OV}:(fI (List.replicate n []))[j]? ≠some (some o):=by
 intro q
 rw[List.getElem?_map,Option.map_eq_some_iff] at q
 obtain⟨c,h1,h2⟩:=q
 have:=List.mem_of_getElem? h1
 rw[List.eq_of_mem_replicate this] at h2
 cases h2
theorem ae1{g:Gr}{a r:Nat}:(g.hl a r).length<=r:=by
 unfold Gr.hl
 rw[List.length_map]
 exact Nat.le_trans (List.length_filter_le ..) (by simp)
set_option maxHeartbeats 2000000 in
theorem S.vS(p:aC)(l:List Elem)(on:List (List Bool))(dG:List (List (List Int)))(w:List Int)(f:Bool)(h:Rq p l on dG w):aj Tryz.prog 36 [.dat (.gW p),gpV l on dG,.row 0 f (.ints w)] (.row 0 false (.gu (Hf p l on dG w).pz)):=by
 have hn:=h.n; have hk:=h.k; have e1:=h.zY; have e2:=h.xQ; have hwl:=h.wl
 generalize hg:Hf p l on dG w=g
 have gn:g.n=l.length:=by rw[<- hg]; rfl
 have gk:g.k=p.rules.length:=by rw[<- hg]; rfl
 refine aj.ofF Bd.vS rfl (by simp) rfl rfl ?_
 by_cases h0:l.length=0
 ·have hl0:l=[]:=List.length_eq_zero_iff.1 h0
  subst hl0
  have hH:g.pz=[]:=by unfold Gr.pz; rw[gn]; rfl
  have hC: ∀ r,g.Es r=[]:=fun r=>by unfold Gr.Es; rw[gn]; rfl
  conv=>whnf
  refine .mk (by omega) ?_
  conv=>whnf
  refine aB.nH 20 [2,3,4,7] (fun r:Nat=>[(8,.int r)]) (fun _=>[(0,OZ p),(1,aeY [] on dG),(6,.row 24 0 .nil [])]) (fun r=>r<=p.rules.length) (fun r=>p.rules.length-r) 0 [0,1,6] rfl (by decide) (fun _=>rfl) (Nat.zero_le _) (sR rfl) ⟨aT rfl rfl,aT rfl rfl,aT rfl rfl,trivial⟩ ?_
  conv=>whnf
  refine⟨(sR rfl),rfl,?_⟩
  rintro r hr
  conv=>whnf
  refine⟨fun h1=>?_,fun h1=>?_⟩
  ·have hr':r<p.rules.length:=by simpa using h1
   conv=>whnf
   refine ah.pure (S.qN p [] on dG w f r h hr') rfl ?_
   rw[hg,hC]
   conv=>whnf
   refine aB.times 1 rfl ?_
   conv=>whnf
   refine Fork.mk (fun q=>absurd (q.symm.trans ((rfl:decide ((0:Int)<0)=false))).symm Bool.false_ne_true) (fun _=>?_)
   conv=>whnf
   refine .mk (by simp only[okI] at *; first|omega|(simp_all; done)|(simp_all; omega)) ?_
   conv=>whnf
   exact⟨r+1,[0,1,6],hr',by omega,(sR rfl),(sR rfl),aT rfl rfl,aT rfl rfl,aT rfl rfl,trivial⟩
  ·conv=>whnf
   rw[hH]
   refine⟨[(6,some (.row 24 0 .nil []))],⟨fun _=>False,⟨_,rfl,id,rfl,rfl,aP _,rfl,rfl⟩,trivial⟩,?_⟩
   show T.sub _ _ (.sl 0 false []) (.own 6)
   simp only[T.sub]
   exact⟨trivial,trivial,rfl,by decide,24,rfl⟩
 conv=>whnf
 rw[yK (by omega:0<l.length)]
 conv=>whnf
 refine .mk (by omega) ?_
 conv=>whnf
 refine aB.fam 20000 [2,3,4,7] (fun r:Nat=>[(8,.int r)]) (fun r=>mY (L6 p l on dG (g.iQ r 0))++kG 10000 (fI (g.iQ r 0))) (fun r=>r<=p.rules.length) (fun r=>p.rules.length-r) 0 (lK 10000 (fun j=>10000+j) (dW (L6 p l on dG (g.iQ 0 0)) [0,1,6])) _ rfl (by decide) (fun _=>rfl) (Nat.zero_le _) (sR rfl) (.inl rfl) ?_ ?_
 ·refine gy.fam (g:=fun j=>10000+j) (L6 p l on dG (g.iQ 0 0)) [0,1,6] ?_ rfl (Nat.zero_le _) (by rw[yu,dS]; omega) (fun j o q=>absurd (by rw[Eu] at q; exact q) aaK) (fun j _ o _ q=>absurd (by rw[Eu] at q; exact q) aaK)
  refine⟨aT rfl rfl,aT rfl rfl,kW rfl (vP (by rw[dS]; omega)) rfl ⟨rfl,rfl⟩ ?_,trivial⟩
  rw[show g.iQ 0 0=List.replicate l.length [] by rw[Eu,gn]]
  refine bD.of_eq ?_
  show T.bU _ (V.aS (outW 10000 (List.replicate l.length [])))=V.aS (List.replicate l.length (vw .nil))
  rw[aaJ,pR,bJ,List.map_map,List.map_replicate,List.map_replicate]; rfl
 conv=>whnf
 refine⟨(sR rfl),rfl,?_⟩
 rintro r hr
 have hRl:(g.iQ r 0).length=l.length:=by rw[dS,gn]
 conv=>whnf
 refine⟨fun h1=>?_,fun h1=>?_⟩
 ·have hr':r<p.rules.length:=by simpa using h1
  conv=>whnf
  refine ah.pure (S.qN p l on dG w f r h hr') rfl ?_
  rw[hg]
  have hcl:(g.Es r).length=l.length:=by unfold Gr.Es; simp[gn]
  conv=>whnf
  refine aB.fam 20000 [2,3,4,7,8,9] (fun i:Nat=>[(10,.int i)]) (fun i=>mY (L6 p l on dG (g.iQ r i))++kG 10000 (fI (g.iQ r i))) (fun i=>i<=l.length) (fun i=>l.length-i) 0 (lK 10000 (fun j=>10000+j) (dW (L6 p l on dG (g.iQ r 0)) [0,1,6])) _ rfl (by decide) (fun _=>rfl) (Nat.zero_le _) (sR rfl) (.inl rfl) ?_ ?_
  ·refine gy.Ip 20000 (L6 p l on dG (g.iQ r 0)) [0,1,6] ?_ rfl rfl (Nat.zero_le _) (by rw[yu,hRl]; omega) (by decide) FH ?_
   (repeat' (first|refine bH.lo rfl ?_|refine bH.hi rfl ?_|exact bH.nil))
   exact⟨aT rfl rfl,aT rfl rfl,kW rfl (vP (by omega)) rfl ⟨rfl,rfl⟩ J9,trivial⟩
  conv=>whnf
  refine⟨(sR rfl),rfl,?_⟩
  clear hRl
  rintro i hi
  have hRl:(g.iQ r i).length=l.length:=by rw[dS,gn]
  conv=>whnf
  refine⟨fun h2=>?_,fun h2=>?_⟩
  ·have hi':i<l.length:=by
    have:(i:Int)<((g.Es r).length:Int):=of_decide_eq_true h2
    omega
   have hgc:(g.Es r).getD i false=g.hlp i r:=by unfold Gr.Es; rw[je (by omega)]
   have hwo:(outW 10000 (g.iQ r i)).length=l.length:=by rw[mM,hRl]
   conv=>whnf
   refine .mk (by first|(simp only[Rw.rng]; omega)|(simp only[Rw.rng,Int.toNat_natCast]; omega)) ?_
   conv=>whnf
   refine⟨fun h3=>?_,fun h3=>?_⟩
   ·replace h3:g.hlp i r=true:=by rw[<- hgc]; exact h3
    have hst:=Yp (g:=g) (r:=r) (i:=i) (by omega)
    have hps:=ae0 h3
    have hln:=O9 (g:=g) (a:=i) (r:=r)
    rw[if_pos h3] at hln
    have hgi:(g.iQ r i).getD i []=g.hl i r:=by rw[oQ (by omega),if_neg (Nat.lt_irrefl i)]
    conv=>whnf
    refine .mk (by omega) ?_
    conv=>whnf
    refine⟨_,y5 (by omega),?_⟩
    rcases oP (B:=10000) (j:=i) (R:=g.iQ r i) with ⟨q,e⟩|⟨q,e⟩
    ·rw[show WE 10000 (g.iQ r i) (i:Int).toNat=vw .nil from e]
     conv=>whnf
     repeat(refine VC.mk (by first|(show(0+(0+1))*8<=140737488355328/\0+(0+1)<=1152921504606846976; omega)|(omega)|(simp only[okI] at *; first|omega|(simp_all; done)|(simp_all; omega))) ?_; conv=>whnf)
     refine gV.aaL 20000 (i+1) i 20016 (fI (g.iQ r i)) (fI (g.iQ r (i+1))) (L6 p l on dG (g.iQ r (i+1))) [0,1,6] rfl hi' (by omega) ?_ rfl rfl rfl (Nat.zero_le _) (by rw[yu,dS]; omega) (by rw[yu,dS]; omega) (by decide) FH ?_ (by rw[hst]; exact aaI) (sR rfl) (sR rfl) ?_
     (repeat' (first|refine bH.lo rfl ?_|refine bH.hi rfl ?_|exact bH.nil))
     ·intro o ho
      rw[hst] at ho
      rw[aej (by omega) hps ho]
      refine⟨_,rfl,?_⟩
      rw[hln,show g.hl i r=[] by rw[<- hgi]; exact q]; rfl
     exact⟨aT rfl rfl,aT rfl rfl,kW rfl (vP (by rw[dS]; omega)) rfl ⟨rfl,rfl⟩ (by rw[hst]; exact Ru (by omega) hps),trivial⟩
    ·rw[show WE 10000 (g.iQ r i) (i:Int).toNat= .inn (10000+i) from e]
     have hlb:=ae1 (g:=g) (a:=i) (r:=r)
     conv=>whnf
     refine Ko.fI 20000 3 rfl rfl (by omega) q ?_
     rw[hgi]
     conv=>whnf
     repeat(refine VC.mk (by first|(show((g.hl i r).length+(0+1))*8<=140737488355328/\(g.hl i r).length+(0+1)<=1152921504606846976; omega)|(omega)|(simp only[okI] at *; first|omega|(simp_all; done)|(simp_all; omega))) ?_; conv=>whnf)
     refine gV.aaL 20000 (i+1) i 20016 ((fI (g.iQ r i)).set i none) (fI (g.iQ r (i+1))) (L6 p l on dG (g.iQ r (i+1))) [0,1,6] rfl hi' (by omega) ?_ rfl rfl rfl (Nat.zero_le _) (by rw[yu,dS]; omega) (by rw[List.length_set,yu,dS]; omega) (by decide) FH ?_ (fun j o hj q=>by rw[hst] at q; rw[List.getElem?_set_ne (Ne.symm hj)]; exact aaI j o hj q) (sR rfl) (sR rfl) ?_
     (repeat' (first|refine bH.lo rfl ?_|refine bH.hi rfl ?_|exact bH.nil))
     ·intro o ho
      rw[hst] at ho
      rw[aej (by omega) hps ho]
      refine⟨_,rfl,?_⟩
      rw[hln]
     exact⟨aT rfl rfl,aT rfl rfl,kW rfl (vP (by rw[dS]; omega)) rfl ⟨rfl,rfl⟩ (by rw[hst]; exact Ru (by omega) hps),trivial⟩
   ·replace h3:g.hlp i r=false:=by rw[<- hgc]; exact h3
    conv=>whnf
    refine .mk (by simp only[okI] at *; first|omega|(simp_all; done)|(simp_all; omega)) ?_
    conv=>whnf
    refine gV.BL 20000 (i+1) (fI (g.iQ r i)) (L6 p l on dG (g.iQ r i)) [0,1,6] (by rw[UU (by omega) h3]) hi' (by omega) ?_ rfl rfl (Nat.zero_le _) (by rw[yu,hRl]; omega) (by decide) FH (sR rfl) (sR rfl) ?_
    (repeat' (first|refine bH.lo rfl ?_|refine bH.hi rfl ?_|exact bH.nil))
    exact⟨aT rfl rfl,aT rfl rfl,kW rfl (vP (by omega)) rfl ⟨rfl,rfl⟩ J9,trivial⟩
  ·have hi':g.n<=i:=by
    have: ¬ ((i:Int)<((g.Es r).length:Int)):=of_decide_eq_false h2
    omega
   conv=>whnf
   refine .mk (by simp only[okI] at *; first|omega|(simp_all; done)|(simp_all; omega)) ?_
   conv=>whnf
   refine gV.BL 20000 (r+1) (fI (g.iQ r i)) (L6 p l on dG (g.iQ r i)) [0,1,6] (by rw[<- UW hi']) hr' (by omega) ?_ rfl rfl (Nat.zero_le _) (by rw[yu,hRl]; omega) (by decide) FH (sR rfl) (sR rfl) ?_
   (repeat' (first|refine bH.lo rfl ?_|refine bH.hi rfl ?_|exact bH.nil))
   exact⟨aT rfl rfl,aT rfl rfl,kW rfl (vP (by omega)) rfl ⟨rfl,rfl⟩ J9,trivial⟩
 ·have hr':r=g.k:=by
   have: ¬ r<p.rules.length:=by simpa using h1
   omega
  rw[hr',Ny] at hRl
  rw[hr',Ny]
  conv=>whnf
  refine Io.gu (B:=10000) rfl (by decide) fun j hj=>?_
  refine bH.get (C:=20000) (L:=fI g.pz) ?_ (by rw[yu,hRl]; omega) (UR hj)
  (repeat' (first|refine bH.lo rfl ?_|refine bH.hi rfl ?_|exact bH.nil))
end Go.Proofs.YtajmbgljnaljiaaGreatDoor
