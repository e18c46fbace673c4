/-
 slices.BinarySearchFunc over elements; the reference's find. No condition.
-/
import Derived.Test.YtajmbgljnaljiaaGreatDoorAd
import Derived.Test.YtajmbgljnaljiaaGreatDoorLg
namespace Go.Proofs.YtajmbgljnaljiaaGreatDoor
open Go.Ab Go.Proofs
set_option maxRecDepth 100000
def Dp(l:List Elem)(b:Elem)(P:Nat):Bool:=decide (P<l.length)&&(gW (l.getD P default) b==0)
set_option maxHeartbeats 1000000 in
theorem S.BinarySearch(l:List Elem)(b:Elem)(P:Nat)(f:Bool)(hl:l.length<2^30)(hs:eU l)(hb:b.counts.length<2^40)(hP:P<=l.length)(h: ∀ i,i<l.length->(gW (l.getD i default) b<0↔i<P)):au Tryz.prog 59 [.row 3 f (.elems l),.dat (.elem b),.fn 45 []] (.fU [.int P,.bool (Dp l b P)]):=by
 refine au.of Bd.bg (by simp) rfl rfl ?_
 conv=>whnf
 refine aP.same [0,2,4,8] (fun s:Nat×Nat=>[(9,.int s.1),(10,.int s.2)]) (fun s=>s.1<=P/\P<=s.2/\s.2<=l.length) (fun s=>s.2-s.1) (0,l.length) rfl (by decide) rfl (fun _=>rfl) ⟨Nat.zero_le _,hP,Nat.le_refl _⟩ ⟨⟨_,rfl,rfl⟩,⟨_,rfl,rfl⟩,trivial⟩ ?_
 conv=>whnf
 refine⟨rfl,?_⟩
 rintro⟨i,j⟩ ⟨h1,h2,h3⟩
 simp only at h1 h2 h3 ⊢
 conv=>whnf
 refine⟨fun g1=>?_,fun g1=>?_⟩
 ·have hij:i<j:=by simpa using g1
  have hm:abr ((i:Int)+j) 1=(((i+j) / 2:Nat):Int):=by rw[V5]; omega
  conv=>whnf
  repeat(refine VC.mk (by first|(rw[hm]; simp only[okI]; omega)|(omega)|(simp only[okI,Rw.rng] at *; first|omega|(simp_all; done)|(simp_all; omega))) ?_; conv=>whnf)
  rw[hm]
  conv=>whnf
  refine ah.pure (S.fQ (l.getD ((((i+j) / 2:Nat):Int)).toNat default) b (hs.get _) hb) rfl ?_
  conv=>whnf
  have hlt:(i+j) / 2<l.length:=by omega
  have hq:=h ((i+j) / 2) hlt
  refine⟨fun g2=>?_,fun g2=>?_⟩
  ·have g3:gW (l.getD ((i+j) / 2) default) b<0:=of_decide_eq_true g2
   conv=>whnf
   refine .mk (by simp only[okI] at *; first|omega|(simp_all; done)|(simp_all; omega)) ?_
   conv=>whnf
   refine⟨((i+j) / 2+1,j),⟨by have:=hq.1 g3; omega,h2,h3⟩,by simp only; omega,⟨⟨_,rfl,rfl⟩,⟨_,rfl,rfl⟩,trivial⟩,?_,rfl⟩
   repeat' (first|exact trivial|exact⟨_,rfl,rfl⟩|constructor)
  ·have g3: ¬ gW (l.getD ((i+j) / 2) default) b<0:=of_decide_eq_false g2
   conv=>whnf
   refine⟨(i,(i+j) / 2),⟨h1,by rcases Nat.lt_or_ge ((i+j) / 2) P with q|q; exact absurd (hq.2 q) g3; exact q,by omega⟩,by simp only; omega,⟨⟨_,rfl,rfl⟩,⟨_,rfl,rfl⟩,trivial⟩,?_,rfl⟩
   repeat' (first|exact trivial|exact⟨_,rfl,rfl⟩|constructor)
 ·have hij: ¬ i<j:=by simpa using g1
  have e:i=P:=by omega
  subst e
  conv=>whnf
  repeat(refine VC.mk (by first|exact id|(intro h; simp only[h,true_and]; done)|(simp only[Rw.rng] at *; first|omega|(simp_all; done)|(simp_all; omega))) ?_; conv=>whnf)
  refine ah.jC (fun _=>S.fQ (l.getD (i:Int).toNat default) b (hs.get _) hb) rfl ?_
  conv=>whnf
  repeat(refine VC.mk id ?_; conv=>whnf)
  refine aG.eqv ?_
  unfold Dp
  simp
  rfl
structure Gr where
 n:Nat
 k:Nat
 TB:Nat->Nat->Bool
 Ht:Nat->Nat->Bool
 Vq:Nat->Nat->Bool
 fM:Nat->Nat->List Int
variable (g:Gr)
def Gr.Cl(i:Nat)(G:Nat->Prop):Prop:= ∀ a,G a->a<g.n/\g.TB a i=true/\ ∀ x,x<g.k->g.Ht a x=true->g.Vq x i=false/\ ∀ b∈g.fM a x,G b.toNat
def Gr.LY(a i:Nat):Prop:= ∃ G,g.Cl i G/\G a
noncomputable def Gr.hlp(a i:Nat):Bool:=@decide (g.LY a i) (Classical.propDecidable _)
variable {g}
theorem Bc{a i:Nat}:g.hlp a i=true↔g.LY a i:=by
 unfold Gr.hlp
 exact⟨fun h=>@of_decide_eq_true _ (Classical.propDecidable _) h,fun h=>@decide_eq_true _ (Classical.propDecidable _) h⟩
theorem LY.cl{i:Nat}:g.Cl i fun a=>g.LY a i:=by
 rintro a ⟨G,hG,ha⟩
 obtain⟨h1,h2,h3⟩:=hG a ha
 exact⟨h1,h2,fun x hx hn=>⟨(h3 x hx hn).1,fun b hb=>⟨G,hG,(h3 x hx hn).2 b hb⟩⟩⟩
theorem LY.max{i a:Nat}{G:Nat->Prop}(h:g.Cl i G)(ha:G a):g.LY a i:=⟨G,h,ha⟩
variable (g)
def gB(R:List (List Bool))(a i:Nat):Bool:=(R.getD a []).getD i false
def Gr.blk(a i:Nat):Bool:=(List.range g.k).any fun x=>g.Ht a x&&g.Vq x i
noncomputable def Gr.rE:List (List Bool):=(List.range g.n).map fun a=>(List.range g.k).map fun i=>g.hlp a i
structure Gr.Inv(R:List (List Bool)):Prop where
 len:R.length=g.n
 row: ∀ a,a<g.n->(R.getD a []).length=g.k
 dn: ∀ a i,gB R a i=true->g.TB a i=true/\g.blk a i=false
 up: ∀ a i,i<g.k->g.LY a i->gB R a i=true
variable {g}
theorem getD_none{α:Type}{l:List α}{i:Nat}{d:α}(h:l.length<=i):l.getD i d=d:=by
 simp[List.getD_eq_getElem?_getD,List.getElem?_eq_none h]
theorem getD_some{α:Type}{l:List α}{i:Nat}{d:α}(h:i<l.length):l.getD i d=l[i]:=by simp[h]
theorem vC{α:Type}{f:Nat->α}{n i:Nat}{d:α}(h:i<n):((List.range n).map f).getD i d=f i:=by
 simp[h]
theorem YW{a i:Nat}(ha:a<g.n)(hi:i<g.k):gB g.rE a i=g.hlp a i:=by
 unfold gB Gr.rE
 rw[vC ha,vC hi]
theorem Nl{α:Type}{l l':List α}(d:α)(h:l.length=l'.length)(H: ∀ i,i<l.length->l.getD i d=l'.getD i d):l=l':=by
 apply List.ext_getElem h
 intro i h1 h2
 have:=H i h1
 rw[getD_some h1,getD_some h2] at this
 exact this
theorem Np:g.rE.length=g.n:=by simp[Gr.rE]
theorem Nq{a:Nat}(ha:a<g.n):(g.rE.getD a []).length=g.k:=by unfold Gr.rE; rw[vC ha]; simp
theorem Gr.Inv.done{R:List (List Bool)}(h:g.Inv R)(hs: ∀ a x i,a<g.n->x<g.k->i<g.k->g.Ht a x=true->gB R a i=true-> ∀ b∈g.fM a x,gB R b.toNat i=true):R=g.rE:=by
 refine Nl [] (by rw[h.len,Np]) fun a ha=>?_
 rw[h.len] at ha
 refine Nl false (by rw[h.row a ha,Nq ha]) fun i hi=>?_
 rw[h.row a ha] at hi
 show gB R a i=gB g.rE a i
 rw[YW ha hi,Bool.eq_iff_iff,Bc]
 refine⟨fun q=>?_,h.up a i hi⟩
 refine LY.max (G:=fun a=>a<g.n/\gB R a i=true) ?_ ⟨ha,q⟩
 rintro c ⟨hc,qc⟩
 obtain⟨d1,d2⟩:=h.dn c i qc
 refine⟨hc,d1,fun x hx hn=>⟨?_,fun b hb=>?_⟩⟩
 ·unfold Gr.blk at d2
  rw[List.any_eq_false] at d2
  have:=d2 x (List.mem_range.2 hx)
  rw[hn,Bool.true_and] at this
  exact Bool.eq_false_iff.2 this
 ·have q2:=hs c x i hc hx hi hn qc b hb
  refine⟨?_,q2⟩
  rcases Nat.lt_or_ge b.toNat g.n with hl|hl
  ·exact hl
  ·unfold gB at q2
   rw[show R.getD b.toNat []=[] from getD_none (by rw[h.len]; exact hl)] at q2
   exact absurd q2 (by simp)
def setB(R:List (List Bool))(a i:Nat)(v:Bool):List (List Bool):=R.set a ((R.getD a []).set i v)
theorem Nr{R:List (List Bool)}{a i:Nat}{v:Bool}:(setB R a i v).length=R.length:=by simp[setB]
theorem V6{R:List (List Bool)}{a i c:Nat}{v:Bool}:((setB R a i v).getD c []).length=(R.getD c []).length:=by
 unfold setB
 by_cases hc:c=a
 ·subst hc
  rcases Nat.lt_or_ge c R.length with h|h
  ·rw[getD_some (by simpa using h),List.getElem_set_self,List.length_set]
  ·rw[List.set_eq_of_length_le h]
 ·rw[List.getD_eq_getElem?_getD,List.getElem?_set_ne (Ne.symm hc),<- List.getD_eq_getElem?_getD]
theorem V7{R:List (List Bool)}{a i c j:Nat}{v:Bool}(ha:a<R.length)(hi:i<(R.getD a []).length):gB (setB R a i v) c j=if c=a/\j=i then v else gB R c j:=by
 unfold gB setB
 by_cases hc:c=a
 ·subst hc
  have e:(R.set c ((R.getD c []).set i v)).getD c []=(R.getD c []).set i v:=by
   rw[getD_some (by simpa using ha),List.getElem_set_self]
  rw[e]
  by_cases hj:j=i
  ·subst hj
   rw[if_pos ⟨rfl,rfl⟩,getD_some (by simpa using hi),List.getElem_set_self]
  ·rw[if_neg (fun h=>hj h.2),List.getD_eq_getElem?_getD,List.getElem?_set_ne (Ne.symm hj),<- List.getD_eq_getElem?_getD]
 ·rw[if_neg (fun h=>hc h.1)]
  have e:(R.set a ((R.getD a []).set i v)).getD c []=R.getD c []:=by
   rw[List.getD_eq_getElem?_getD,List.getElem?_set_ne (Ne.symm hc),<- List.getD_eq_getElem?_getD]
  rw[e]
theorem Gr.Inv.take{R:List (List Bool)}(h:g.Inv R){a x i:Nat}{b:Int}(ha:a<g.n)(hx:x<g.k)(hi:i<g.k)(hn:g.Ht a x=true)(hb:b∈g.fM a x)(hg:gB R b.toNat i=false):g.Inv (setB R a i false):=by
 have ha':a<R.length:=by rw[h.len]; exact ha
 have hi':i<(R.getD a []).length:=by rw[h.row a ha]; exact hi
 refine⟨by rw[Nr,h.len],fun c hc=>by rw[V6,h.row c hc],fun c j q=>?_,fun c j hj q=>?_⟩
 ·rw[V7 ha' hi'] at q
  split at q
  ·cases q
  ·exact h.dn c j q
 ·rw[V7 ha' hi']
  split
  ·rename_i e
   obtain⟨rfl,rfl⟩:=e
   exfalso
   have:=((LY.cl c q).2.2 x hx hn).2 b hb
   have:=h.up _ _ hi this
   rw[hg] at this; cases this
  ·exact h.up c j hj q
def zu:List (List Bool)->Nat
 |[]=>0
 |r::t=>r.countP (fun b=>b)+zu t
theorem V8: ∀ {R:List (List Bool)} {a i:Nat},gB R a i=true->zu (setB R a i false)+1=zu R:=by
 intro R
 induction R with
 |nil=>intro a i h; simp[gB] at h
 |cons r t ih =>
  intro a i h
  cases a with
  |zero =>
   have hi:i<r.length:=by
    rcases Nat.lt_or_ge i r.length with h1|h1
    ·exact h1
    ·unfold gB at h; rw[List.getD_cons_zero,getD_none h1] at h; cases h
   have hv:r[i]=true:=by unfold gB at h; rw[List.getD_cons_zero,getD_some hi] at h; exact h
   show zu (r.set i false::t)+1=zu (r::t)
   simp only[zu]
   have:(r.set i false).countP (fun b=>b)+1=r.countP fun b=>b:=by
    have key: ∀ {r:List Bool} {i:Nat} (hi:i<r.length),r[i]=true->(r.set i false).countP (fun b=>b)+1=r.countP fun b=>b:=by
     intro r
     induction r with
     |nil=>intro i hi; exact absurd hi (Nat.not_lt_zero _)
     |cons y s ihs =>
      intro i hi hv
      cases i with
      |zero =>
       simp only[List.getElem_cons_zero] at hv
       subst hv
       simp
      |succ i =>
       simp only[List.length_cons] at hi
       simp only[List.getElem_cons_succ] at hv
       have:=ihs (by omega) hv
       simp only[List.set_cons_succ,List.countP_cons]
       omega
    exact key hi hv
   omega
  |succ a =>
   have h':gB t a i=true:=by unfold gB at h ⊢; rw[List.getD_cons_succ] at h; exact h
   have:=ih h'
   show zu (r::setB t a i false)+1=zu (r::t)
   simp only[zu]
   omega
structure Gr.Inv1(g:Gr)(i:Nat)(G:List Bool):Prop where
 len:G.length=g.n
 dn: ∀ a,G.getD a false=true->g.TB a i=true
 up: ∀ a,g.LY a i->G.getD a false=true
def Gr.okP(g:Gr)(R:List (List Bool))(a x c i:Nat):Prop:=x<g.k->c<(g.fM a x).length->i<g.k->g.Ht a x=true->gB R a i=true->gB R ((g.fM a x).getD c 0).toNat i=true
structure Gr.nY(g:Gr)(R0 R:List (List Bool))(ag:Bool)(a x c i:Nat):Prop where
 inv:g.Inv R
 le:zu R<=zu R0
 lt:ag=true->zu R<zu R0
 st:ag=false-> ∀ a' x' c' i',(a'<a\/a'=a/\(x'<x\/x'=x/\(c'<c\/c'=c/\i'<i)))->g.okP R a' x' c' i'
theorem Gr.nY.zero{R:List (List Bool)}(h:g.Inv R):g.nY R R false 0 0 0 0:=⟨h,Nat.le_refl _,fun h=>(by cases h),fun _ a' x' c' i' h=>by omega⟩
theorem Gr.nY.aaN{R0 R:List (List Bool)}{ag:Bool}{a x c i:Nat}(h:g.nY R0 R ag a x c i)(hk:gB R a i=true->gB R ((g.fM a x).getD c 0).toNat i=true):g.nY R0 R ag a x c (i+1):=by
 refine⟨h.inv,h.le,h.lt,fun e a' x' c' i' q=>?_⟩
 by_cases h1:a'<a\/a'=a/\(x'<x\/x'=x/\(c'<c\/c'=c/\i'<i))
 ·exact h.st e a' x' c' i' h1
 ·have e1:a'=a:=by omega
  have e2:x'=x:=by omega
  have e3:c'=c:=by omega
  have e4:i'=i:=by omega
  subst e1; subst e2; subst e3; subst e4
  exact fun _ _ _ _=>hk
theorem Gr.nY.take{R0 R:List (List Bool)}{ag:Bool}{a x c i:Nat}(h:g.nY R0 R ag a x c i)(ha:a<g.n)(hx:x<g.k)(hc:c<(g.fM a x).length)(hi:i<g.k)(hn:g.Ht a x=true)(h1:gB R a i=true)(h2:gB R ((g.fM a x).getD c 0).toNat i=false):g.nY R0 (setB R a i false) true a x c (i+1):=by
 have hm:(g.fM a x).getD c 0∈g.fM a x:=by rw[getD_some hc]; exact List.getElem_mem hc
 have:=V8 h1
 have:=h.le
 exact⟨h.inv.take ha hx hi hn hm h2,by omega,fun _=>by omega,fun e=>by cases e⟩
theorem Gr.nY.acX{R0 R:List (List Bool)}{ag:Bool}{a x c i:Nat}(h:g.nY R0 R ag a x c i)(hi:g.k<=i):g.nY R0 R ag a x (c+1) 0:=by
 refine⟨h.inv,h.le,h.lt,fun e a' x' c' i' q=>?_⟩
 by_cases h1:a'<a\/a'=a/\(x'<x\/x'=x/\(c'<c\/c'=c/\i'<i))
 ·exact h.st e a' x' c' i' h1
 ·exact fun _ _ h3=>by omega
theorem Gr.nY.acY{R0 R:List (List Bool)}{ag:Bool}{a x c:Nat}(h:g.nY R0 R ag a x c 0)(hc:(g.fM a x).length<=c):g.nY R0 R ag a (x+1) 0 0:=by
 refine⟨h.inv,h.le,h.lt,fun e a' x' c' i' q=>?_⟩
 by_cases h1:a'<a\/a'=a/\(x'<x\/x'=x/\(c'<c\/c'=c/\i'<0))
 ·exact h.st e a' x' c' i' h1
 ·have e1:a'=a:=by omega
  have e2:x'=x:=by omega
  subst e1; subst e2
  exact fun _ h3=>by omega
theorem Gr.nY.acZ{R0 R:List (List Bool)}{ag:Bool}{a x:Nat}(h:g.nY R0 R ag a x 0 0)(hn:g.Ht a x=false):g.nY R0 R ag a (x+1) 0 0:=by
 refine⟨h.inv,h.le,h.lt,fun e a' x' c' i' q=>?_⟩
 by_cases h1:a'<a\/a'=a/\(x'<x\/x'=x/\(c'<0\/c'=0/\i'<0))
 ·exact h.st e a' x' c' i' h1
 ·have e1:a'=a:=by omega
  have e2:x'=x:=by omega
  subst e1; subst e2
  intro _ _ _ h4
  rw[hn] at h4; cases h4
theorem Gr.nY.D9{R0 R:List (List Bool)}{ag:Bool}{a x:Nat}(h:g.nY R0 R ag a x 0 0)(hx:g.k<=x):g.nY R0 R ag (a+1) 0 0 0:=by
 refine⟨h.inv,h.le,h.lt,fun e a' x' c' i' q=>?_⟩
 by_cases h1:a'<a\/a'=a/\(x'<x\/x'=x/\(c'<0\/c'=0/\i'<0))
 ·exact h.st e a' x' c' i' h1
 ·exact fun h3=>by omega
theorem Gr.nY.all{R0 R:List (List Bool)}{a:Nat}(h:g.nY R0 R false a 0 0 0)(ha:g.n<=a):R=g.rE:=by
 refine h.inv.done fun a' x i h1 h2 h3 h4 h5 b hb=>?_
 obtain⟨c,hc,rfl⟩:=List.mem_iff_getElem.1 hb
 have:=h.st rfl a' x c i (by omega) h2 hc h3 h4 h5
 rw[getD_some hc] at this; exact this
def Gr.b1(g:Gr)(a i:Nat):Bool:=g.TB a i&& !(g.blk a i)
def Gr.bX(g:Gr)(a i x:Nat):Bool:=g.TB a i&& !((List.range x).any fun x'=>g.Ht a x'&&g.Vq x' i)
def Gr.J7(g:Gr)(a:Nat):List Bool:=(List.range g.k).map (g.b1 a)
def Gr.xZ(g:Gr)(a i:Nat):List Bool:=(List.range i).map (g.b1 a)++List.replicate (g.k-i) false
def Gr.sK(g:Gr)(a i x:Nat):List Bool:=(List.range i).map (g.b1 a)++g.bX a i x::List.replicate (g.k-(i+1)) false
def Gr.lG(g:Gr)(a:Nat):List (List Bool):=(List.range a).map g.J7
theorem TD{a:Nat}:g.xZ a 0=List.replicate g.k false:=by simp[Gr.xZ]
theorem V9{a:Nat}:g.xZ a g.k=g.J7 a:=by simp[Gr.xZ,Gr.J7]
theorem Wh{a i:Nat}(h:i<=g.k):(g.xZ a i).length=g.k:=by simp[Gr.xZ]; omega
theorem Wi{a i x:Nat}(h:i<g.k):(g.sK a i x).length=g.k:=by simp[Gr.sK]; omega
theorem yU{a:Nat}:(g.lG a).length=a:=by simp[Gr.lG]
theorem PE{a:Nat}:g.lG (a+1)=g.lG a++[g.J7 a]:=by simp[Gr.lG,List.range_succ]
theorem Wj{a i:Nat}(h:i<g.k):(g.xZ a i).set i (g.TB a i)=g.sK a i 0:=by
 unfold Gr.xZ Gr.sK
 rw[List.set_append_right _ _ (by simp)]
 simp only[List.length_map,List.length_range,Nat.sub_self]
 rw[show g.k-i=(g.k-(i+1))+1 by omega,List.replicate_succ,List.set_cons_zero]
 simp[Gr.bX]
theorem Wn{a i:Nat}(_h:i<g.k):g.sK a i g.k=g.xZ a (i+1):=by
 unfold Gr.xZ Gr.sK
 rw[List.range_succ,List.map_append,List.append_assoc]; rfl
theorem Wp{a i x:Nat}(h1:g.Ht a x=true)(h2:g.Vq x i=true):(g.sK a i x).set i false=g.sK a i (x+1):=by
 have e:g.bX a i (x+1)=false:=by
  unfold Gr.bX
  rw[List.range_succ,List.any_append]
  simp[h1,h2]
 unfold Gr.sK
 rw[List.set_append_right _ _ (by simp),e]
 simp
theorem TF{a i x:Nat}(h:(g.Ht a x&&g.Vq x i)=false):g.sK a i (x+1)=g.sK a i x:=by
 have e:g.bX a i (x+1)=g.bX a i x:=by
  unfold Gr.bX
  rw[List.range_succ,List.any_append]
  simp only[List.any_cons,List.any_nil,h,Bool.or_false]
 unfold Gr.sK
 rw[e]
theorem TG:g.Inv (g.lG g.n):=by
 have hr: ∀ a,a<g.n->(g.lG g.n).getD a []=g.J7 a:=fun a ha=>by unfold Gr.lG; rw[vC ha]
 refine⟨yU,fun a ha=>by rw[hr a ha]; simp[Gr.J7],fun a i q=>?_,fun a i hi q=>?_⟩
 ·unfold gB at q
  rcases Nat.lt_or_ge a g.n with ha|ha
  ·rw[hr a ha] at q
   rcases Nat.lt_or_ge i g.k with hi|hi
   ·unfold Gr.J7 at q
    rw[vC hi,Gr.b1,Bool.and_eq_true,Bool.not_eq_true'] at q
    exact q
   ·rw[getD_none (by simp[Gr.J7]; omega)] at q; cases q
  ·rw[show(g.lG g.n).getD a []=[] from getD_none (by rw[yU]; exact ha)] at q
   exact absurd q (by simp)
 ·obtain⟨ha,hb,hc⟩:=LY.cl a q
  unfold gB
  rw[hr a ha]
  unfold Gr.J7
  rw[vC hi,Gr.b1,hb,Bool.true_and,Bool.not_eq_true']
  unfold Gr.blk
  rw[List.any_eq_false]
  intro x hx
  cases hn:g.Ht a x with
  |false=>simp
  |true=>rw[(hc x (List.mem_range.1 hx) hn).1]; simp
theorem IY{α:Type}{l:List α}{u d:α}{a:Nat}(h:l.length=a):(l++[u]).getD a d=u:=by
 subst h
 rw[List.getD_eq_getElem?_getD,List.getElem?_append_right (Nat.le_refl _),Nat.sub_self]; rfl
theorem Ns{α:Type}{l:List α}{u v:α}{a:Nat}(h:l.length=a):(l++[u]).set a v=l++[v]:=by
 subst h
 rw[List.set_append_right _ _ (Nat.le_refl _),Nat.sub_self]; rfl
def kD(l:List Elem)(b:Elem):Nat:=l.countP fun x=>decide (gW x b<0)
theorem Rh(l:List Elem)(b:Elem):kD l b<=l.length:=List.countP_le_length
theorem J8{b:Elem}: ∀ {l:List Elem},SS l-> ∀ i,i<l.length->(gW (l.getD i default) b<0↔i<kD l b):=by
 intro l
 induction l with
 |nil=>intro _ i hi; exact absurd hi (Nat.not_lt_zero _)
 |cons a t ih =>
  intro hs i hi
  obtain⟨h1,h2⟩:=List.pairwise_cons.1 hs
  by_cases ha:gW a b<0
  ·have e:kD (a::t) b=kD t b+1:=by unfold kD; rw[List.countP_cons_of_pos (by simpa using ha)]
   rw[e]
   cases i with
   |zero=>rw[List.getD_cons_zero]; exact⟨fun _=>by omega,fun _=>ha⟩
   |succ i =>
    rw[List.getD_cons_succ,ih h2 i (by simpa using hi)]
    omega
  ·have hall: ∀ x∈t,¬ gW x b<0:=fun x hx q=>ha (wP (h1 x hx) q)
   have e0:kD t b=0:=by
    unfold kD
    rw[List.countP_eq_zero]
    intro x hx
    simpa using hall x hx
   have e:kD (a::t) b=0:=by unfold kD at e0 ⊢; rw[List.countP_cons_of_neg (by simpa using ha),e0]
   rw[e]
   refine⟨fun q=>?_,fun q=>absurd q (Nat.not_lt_zero _)⟩
   cases i with
   |zero=>rw[List.getD_cons_zero] at q; exact absurd q ha
   |succ i =>
    rw[List.getD_cons_succ] at q
    have hi':i<t.length:=by simpa using hi
    exact absurd q (hall _ (eY hi'))
theorem J9{l:List Elem}{b:Elem}(hs:SS l):Dp l b (kD l b)=true↔b∈l:=by
 unfold Dp
 rw[Bool.and_eq_true,decide_eq_true_eq,beq_iff_eq,iP]
 constructor
 ·rintro⟨h1,h2⟩; rw[<- h2]; exact eY h1
 ·intro hb
  obtain⟨i,hi,e⟩:=List.mem_iff_getElem.1 hb
  have eg:l.getD i default=b:=by rw[getD_some hi]; exact e
  have hlt:=J8 (b:=b) hs
  have h1:kD l b<=i:=by
   rcases Nat.lt_or_ge i (kD l b) with q|q
   ·have:=(hlt i hi).2 q
    rw[eg,iP.2 rfl] at this; exact absurd this (by decide)
   ·exact q
  rcases Nat.lt_or_ge (kD l b) i with q|q
  ·have h2:kD l b<l.length:=by omega
   have h3:gW (l.getD (kD l b) default) b<0:=by
    have:=List.pairwise_iff_getElem.1 hs (kD l b) i h2 hi q
    rw[e] at this
    rw[getD_some h2]; exact this
   exact absurd ((hlt _ h2).1 h3) (Nat.lt_irrefl _)
  ·have:kD l b=i:=by omega
   rw[this]; exact⟨hi,eg⟩
def xM(l:List Elem)(L:List Elem):List Int:=L.filterMap fun b=>if Dp l b (kD l b)=true then some (kD l b:Int) else none
theorem TI{l L:List Elem}{i:Nat}(hi:i<L.length):xM l (L.take (i+1))=if Dp l (L.getD i default) (kD l (L.getD i default))=true then xM l (L.take i)++[(kD l (L.getD i default):Int)] else xM l (L.take i):=by
 unfold xM
 rw[List.take_add_one,List.filterMap_append]
 rw[List.getElem?_eq_getElem hi,getD_some hi]
 split<;>rename_i h<;>simp[h]
theorem Nu(l L:List Elem):(xM l L).length<=L.length:=List.length_filterMap_le ..
theorem Wq{l L:List Elem}{b:Int}(h:b∈xM l L):0<=b/\b<l.length:=by
 unfold xM at h
 obtain⟨x,hx,e⟩:=List.mem_filterMap.1 h
 split at e
 ·rename_i q
  cases e
  unfold Dp at q
  rw[Bool.and_eq_true,decide_eq_true_eq] at q
  omega
 ·cases e
def Dq(l:List Elem)(r:Rule)(a:Elem):List Int:=xM l (jL r a)
def zY(p:aH)(a:Elem):List Bool:=p.rules.map fun r=>(iC r a).isSome
def zD(l:List Elem)(p:aH)(a:Elem):List (List Int):=p.rules.map fun r=>Dq l r a
abbrev rowB(l:List Bool):OV:=.row 4 0 (.bools l) []
abbrev fB(R:List (List Bool)):List (Option OV):=R.map fun r=>some (rowB r)
theorem IZ(n:Nat): ∃ r:Rw,(bif isZero (.int n) then some Rw.nil else MN (n:Int).toNat (T.bool false))=some r/\r.aS=(Rw.bools (List.replicate n false)).aS:=by
 cases n with
 |zero=>exact⟨.nil,rfl,rfl⟩
 |succ k=>exact⟨.bools (List.replicate (k+1) false),rfl,rfl⟩
def sN(B a n:Nat):List V:=(List.range a).map (fun j=>V.inn (B+j))++List.replicate (n-a) (uJ .nil)
abbrev PG(B a n:Nat):OV:=.gen 69 0 (sN B a n)
theorem oH{B a n:Nat}(h:a<=n):(sN B a n).length=n:=by simp[sN]; omega
theorem Bf{B a n j:Nat}(h:j<a):(sN B a n)[j]? =some (.inn (B+j)):=by
 unfold sN
 rw[List.getElem?_append_left (by simpa using h),List.getElem?_map,List.getElem?_range h]; rfl
theorem AtZ.out{B a n j:Nat}{K:V->Prop}(h:j<a)(hK:K (.inn (B+j))):AtZ (sN B a n) j K:=⟨_,Bf h,hK⟩
theorem YX{k:Nat}: ∀ {l:List V},(∀ v∈l,v.kd=some k)->CY k l=true:=by
 intro l
 induction l with
 |nil=>intro _; rfl
 |cons v r ih =>
  intro h
  have h1:=h v (by simp)
  have h2:=ih fun u hu=>h u (List.mem_cons_of_mem _ hu)
  simp only[CY,h1,h2]
  simp
theorem YZ{n:Nat}{l:List T}(h: ∀ t∈l,T.lt n t=true):T.LZ n l=true:=by
 induction l with
 |nil=>rfl
 |cons t r ih=>simp only[T.LZ,h t (by simp),ih fun u hu=>h u (List.mem_cons_of_mem _ hu),Bool.and_self]
theorem FV{B a n:Nat}{v:V}(h:v∈sN B a n):(∃ j,j<a/\v= .inn (B+j))\/v=uJ .nil:=by
 unfold sN at h
 rcases List.mem_append.1 h with h|h
 ·obtain⟨j,hj,rfl⟩:=List.mem_map.1 h
  exact .inl ⟨j,List.mem_range.1 hj,rfl⟩
 ·exact .inr (List.eq_of_mem_replicate h)
theorem FW{ty nx:Nat}{l:List V}(h1: ∀ v∈l,v.kd=some 0)(h2: ∀ v∈l,T.lt nx v.aF=true):(OV.gen ty 0 l).good nx=true:=by
 simp only[OV.good,YX h1,Bool.and_eq_true,Bool.true_and]
 refine⟨YZ fun t ht=>?_,rfl⟩
 rw[bY,List.mem_map] at ht
 obtain⟨v,hv,rfl⟩:=ht
 exact h2 v hv
theorem dX{B a n nx:Nat}(h:B+a<=nx):(PG B a n).good nx=true:=by
 refine FW (fun v hv=>?_) fun v hv=>?_
 ·rcases FV hv with ⟨j,_,rfl⟩|rfl<;>rfl
 ·rcases FV hv with ⟨j,hj,rfl⟩|rfl
  ·show Nat.blt (B+j) nx=true
   exact Nat.blt_eq.mpr (by omega)
  ·rfl
theorem vF(ρ:Nat->Nat): ∀ l:List T,T.bQ ρ l=l.map (T.ren ρ):=by
 intro l
 induction l with
 |nil=>rfl
 |cons a l ih=>simp only[T.bQ,List.map_cons,ih]
theorem fV{B a n:Nat}{f:Nat->Nat}:dL (T.bQ (nZ B (fun j=>B+j) f) (PG B a n).ay.l) (PG B a n).ay.l:=by
 refine dL.of_eq ?_
 show T.bQ _ (V.aS (sN B a n))=V.aS (sN B a n)
 rw[vF,bY,List.map_map]
 refine List.map_congr_left fun v hv=>?_
 rcases FV hv with ⟨j,hj,rfl⟩|rfl
 ·show T.own (nZ B (fun j=>B+j) f (B+j))=T.own (B+j)
  rw[um]
 ·rfl
theorem Ws{B a n N:Nat}{f:Nat->Nat}(h:a<n):dL (T.bQ (nZ B (fun j=>if j=a then N else B+j) f) (PG B (a+1) n).ay.l) (OV.gen 69 0 ((sN B a n).set a (.own N))).ay.l:=by
 refine dL.of_eq ?_
 show T.bQ _ (V.aS (sN B (a+1) n))=V.aS ((sN B a n).set a (.own N))
 have e:(sN B a n).set a (.own N)=(List.range a).map (fun j=>V.inn (B+j))++ .own N::List.replicate (n-(a+1)) (uJ .nil):=by
  unfold sN
  rw[List.set_append_right _ _ (by simp)]
  simp only[List.length_map,List.length_range,Nat.sub_self]
  rw[show n-a=(n-(a+1))+1 by omega,List.replicate_succ,List.set_cons_zero]
 rw[e,vF,bY,bY,List.map_map]
 unfold sN
 simp only[List.range_succ,List.map_append,List.map_cons,List.map_nil,List.append_assoc,List.cons_append,List.nil_append,List.map_replicate,List.map_map]
 congr 1
 ·refine List.map_congr_left fun j hj=>?_
  show T.own (nZ B _ f (B+j))=T.own (B+j)
  rw[um,if_neg (by have:=List.mem_range.1 hj; omega)]
 ·congr 1
  show T.own (nZ B _ f (B+a))=T.own N
  rw[um,if_pos rfl]
theorem iD{R:List (List Bool)}{nx:Nat}: ∀ o,some o∈fB R->o.good nx=true/\o.EL=true:=by
 intro o h
 obtain⟨r,_,e⟩:=List.mem_map.1 h
 cases e
 exact⟨rfl,rfl⟩
theorem x8{R:List (List Bool)}{j:Nat}(h:j<R.length):(fB R)[j]? =some (some (rowB (R.getD j []))):=by
 rw[List.getElem?_map,List.getElem?_eq_getElem h,getD_some h]; rfl
theorem fG{R:List (List Bool)}:(fB R).length=R.length:=List.length_map _
theorem abt{R:List (List Bool)}{j:Nat}{r:List Bool}:(fB R).set j (some (rowB r))=fB (R.set j r):=by
 exact(List.map_set ..).symm
theorem Ko{R:List (List Bool)}{r:List Bool}{a:Nat}(h:R.length=a):(fB (R++[r]))[a]? =some (some (rowB r)):=by
 subst h
 rw[List.getElem?_map,List.getElem?_append_right (Nat.le_refl _),Nat.sub_self]; rfl
theorem Y0{R:List (List Bool)}{r:List Bool}{a:Nat}(h:R.length=a): ∀ j o,j≠a->(fB (R++[r]))[j]? =some (some o)->(fB R)[j]? =some (some o):=by
 intro j o hj q
 rcases Nat.lt_or_ge j R.length with hl|hl
 ·rw[List.getElem?_map,List.getElem?_append_left hl] at q; rw[List.getElem?_map]; exact q
 ·rw[List.getElem?_map,List.getElem?_eq_none (by rw[List.length_append]; simp only[List.length_singleton]; omega)] at q; cases q
theorem Kq.fB{B:Nat}(C k:Nat){j x:Nat}{R:List (List Bool)}{v:V}{h:Hz}{K:Hz->Prop}(r':List Bool)(e:h.drop k=kM B (fB R))(ho:Bg B C (h.take k)=true)(hC:B+R.length<=C)(hj:j<R.length)(hr:x<(R.getD j []).length)(hs:(Rw.bools (R.getD j [])).set x v=some (.bools r'))
  (hK:K (h.take k++kM B (fB (R.set j r')))):Kq h (B+j) x 0 v K :=
 Kq.fam C (show Bh (h.take k) _ h from by rw[Bh,<- e,List.take_append_drop]) ho (by rw[fG]; exact hC) (x8 hj) hs (by show 0<=(x:Int)/\(x:Int)<_; omega) (by rw[abt]; exact hK)
def Wu(p:aH)(l:List Elem)(on:List (List Bool))(fM:List (List (List Int)))(w:List Int):Gr where
 n:=l.length
 k:=p.rules.length
 TB a i:=(on.getD a []).getD i false&&L9 (p.rules.getD i default) w
 Ht a x:=((on.getD a []).getD x false&& !(L8 (p.rules.getD x default) w))&& !(L9 (p.rules.getD x default) w)
 Vq x i:=aa9 (p.rules.getD x default) (p.rules.getD i default).fr
 fM a x:=(fM.getD a []).getD x []
structure Y1(p:aH)(l:List Elem)(on:List (List Bool))(fM:List (List (List Int)))(w:List Int):Prop where
 n:l.length<=2187
 k:p.rules.length<=8
 zY:on.length=l.length
 onR: ∀ a,a<l.length->(on.getD a []).length=p.rules.length
 zD:fM.length=l.length
 afR: ∀ a,a<l.length->(fM.getD a []).length=p.rules.length
 afN: ∀ a x,((fM.getD a []).getD x []).length<=2187
 rF: ∀ a x,∀ b∈(fM.getD a []).getD x [],0<=b/\b<l.length
 rul: ∀ i,i<p.rules.length->Yt w.length (p.rules.getD i default)
 wok:w.all Vp=true
 wl:w.length<2^30
abbrev spV(p:aH)(l:List Elem)(on:List (List Bool))(fM:List (List (List Int))):V:=.agg [.str p.name,.int p.topology,.row 0 false (.strs p.states),.row 0 false (.strs p.messages),.row 0 false (.strs p.values),.int p.fault,.row 5 false (.vG p.dM),.row 0 false (.ints p.initial),.row 0 false (.ints p.leader),.row 19 false (.rules p.rules),.row 3 false (.elems l),.row 0 false (.gu on),.row 0 false (.jw fM)]
theorem S.neutral(p:aH)(l:List Elem)(on:List (List Bool))(fM:List (List (List Int)))(w:List Int)(f:Bool)(a x:Nat)(h:Y1 p l on fM w)(ha:a<l.length)(hx:x<p.rules.length):au Tryz.prog 60 [.int a,.int x,.ref 14 (spV p l on fM),.ref 0 (.row 0 f (.ints w))] (.bool ((Wu p l on fM w).Ht a x)):=by
 have h1:=h.zY
 have h2:=h.onR a ha
 refine au.of Bd.kV (by simp) rfl rfl ?_
 conv=>whnf
 repeat(refine VC.mk (by first|(first|(simp only[Rw.rng]; omega)|(simp only[Rw.rng,Int.toNat_natCast]; omega))|exact fun h=>⟨h,h⟩) ?_; conv=>whnf)
 refine ah.jC (fun _=>S.ku (p.rules.getD x default) w f h.wok (h.rul x hx) h.wl) rfl ?_
 conv=>whnf
 repeat(refine VC.mk (by first|exact id|exact fun h=>⟨h,h⟩) ?_; conv=>whnf)
 refine ah.jC (fun _=>S.kT (p.rules.getD x default) w f h.wok (h.rul x hx) h.wl) rfl ?_
 conv=>whnf
 repeat(refine VC.mk id ?_; conv=>whnf)
 refine aG.eqv ?_
 rfl
abbrev boxS(p:aH)(l:List Elem)(on:List (List Bool))(fM:List (List (List Int))):OV:=.box 66 14 (spV p l on fM)
abbrev aee(w:List Int)(f:Bool):OV:=.box 24 0 (.row 0 f (.ints w))
abbrev mQ(p:aH)(l:List Elem)(on:List (List Bool))(fM:List (List (List Int)))(w:List Int)(f:Bool)(a:Nat):List (Nat×OV):=[(0,boxS p l on fM),(1,aee w f),(6,PG 10000 a l.length)]
theorem Nv.gu{h:Hz}{i B:Nat}{R:List (List Bool)}(hi:h.get i=some (PG B R.length R.length))(hB:i<B)(hR: ∀ j,j<R.length->h.get (B+j)=some (rowB (R.getD j []))):Nv (.row 0 false (.gu R)) (.own i) h:=by
 have hl:(OV.row 69 0 (.gu R) []).ay.l=R.map wQ:=by simp[OV.ay,Rw.aS,V.aS]
 refine⟨[(i,some (.row 69 0 (.gu R) []))],⟨fun c=>B<=c,⟨_,hi,by omega,rfl,rfl,?_,?_,?_⟩,trivial⟩,?_⟩
 ·rw[hl]
  show T.dG _ _ _ (V.aS (sN B R.length R.length))
  refine Kr (by rw[dH,oH (Nat.le_refl _),List.length_map]) fun j t u h1 h2=>?_
  have hj:j<R.length:=by have:=(List.getElem?_eq_some_iff.1 h1).1; simpa using this
  rw[bY,List.getElem?_map,Bf hj] at h2
  rw[List.getElem?_map,List.getElem?_eq_getElem hj] at h1
  cases h1; cases h2
  have:=aO (hR j hj)
  rw[getD_some hj] at this
  simp only[V.aF,T.sub]
  refine⟨trivial,Nat.le_add_right _ _,?_,by decide,4,?_⟩
  ·rw[eG]; intro t ht; obtain⟨x,_,rfl⟩:=List.mem_map.1 ht; rfl
  ·rw[this]; simp[OV.ay,Rw.aS,V.aS]
 ·rw[hl]
  show _=List.map T.kd (V.aS (sN B R.length R.length))
  rw[bY,List.map_map,List.map_map]
  apply List.ext_getElem
  ·simp[oH]
  ·intro j h1 h2
   have hj:j<R.length:=by simpa using h1
   have:=Bf (B:=B) (n:=R.length) hj
   have h3:j<(sN B R.length R.length).length:=by rw[oH (Nat.le_refl _)]; exact hj
   rw[List.getElem?_eq_getElem h3,Option.some.injEq] at this
   simp only[List.getElem_map,Function.comp,this]; rfl
 ·rw[hl]
  show _=List.map fJ (V.aS (sN B R.length R.length))
  rw[bY,List.map_map,List.map_map]
  apply List.ext_getElem
  ·simp[oH]
  ·intro j h1 h2
   have hj:j<R.length:=by simpa using h1
   have:=Bf (B:=B) (n:=R.length) hj
   have h3:j<(sN B R.length R.length).length:=by rw[oH (Nat.le_refl _)]; exact hj
   rw[List.getElem?_eq_getElem h3,Option.some.injEq] at this
   simp only[List.getElem_map,Function.comp,this]; rfl
 ·show T.sub _ _ (.sl 0 false (R.map wQ)) (.own i)
  simp only[T.sub]
  refine⟨trivial,trivial,?_,by decide,69,?_⟩
  ·rw[eG]; intro t ht; obtain⟨x,_,rfl⟩:=List.mem_map.1 ht; rfl
  ·rw[<- hl]
   simp[Hz.aj,Hz.get,OV.ay]
abbrev Wv(p:aH)(l:List Elem)(on:List (List Bool))(fM:List (List (List Int)))(w:List Int)(f:Bool)(a i:Nat):List (Nat×OV):=mQ p l on fM w f a++[(7,.box 85 19 (.dat (.rule (p.rules.getD i default))))]
set_option maxHeartbeats 4000000 in
theorem S.Kt(p:aH)(l:List Elem)(on:List (List Bool))(fM:List (List (List Int)))(w:List Int)(f:Bool)(h:Y1 p l on fM w):au Tryz.prog 35 [spV p l on fM,.row 0 f (.ints w)] (.row 0 false (.gu (Wu p l on fM w).rE)):=by
 have hn:=h.n; have hk:=h.k; have e1:=h.zY; have e2:=h.zD; have hwl:=h.wl
 generalize hg:Wu p l on fM w=g
 have gn:g.n=l.length:=by rw[<- hg]; rfl
 have gk:g.k=p.rules.length:=by rw[<- hg]; rfl
 refine au.ofF Bd.ny rfl (by simp) rfl rfl ?_
 by_cases h0:l.length=0
 ·have hl0:l=[]:=List.length_eq_zero_iff.1 h0
  subst hl0
  have hH:g.rE=[]:=by unfold Gr.rE; rw[gn]; rfl
  conv=>whnf
  refine .mk (by omega) ?_
  conv=>whnf
  refine aP.times 1 rfl ?_
  conv=>whnf
  refine Fork.mk (fun q=>absurd (q.symm.trans ((rfl:decide ((0:Int)<0)=false))).symm Bool.false_ne_true) (fun _=>?_)
  conv=>whnf
  refine aP.times 2 rfl ?_
  conv=>whnf
  refine Fork.mk (fun _=>?_) (fun q=>absurd (q.symm.trans (rfl)) Bool.false_ne_true)
  conv=>whnf
  refine aP.times 1 rfl ?_
  conv=>whnf
  refine Fork.mk (fun q=>absurd (q.symm.trans ((rfl:decide ((0:Int)<0)=false))).symm Bool.false_ne_true) (fun _=>?_)
  conv=>whnf
  refine Fork.mk (fun q=>absurd (q.symm.trans (rfl)).symm Bool.false_ne_true) (fun _=>?_)
  conv=>whnf
  rw[hH]
  refine⟨[(6,some (.row 69 0 .nil []))],⟨fun _=>False,⟨_,rfl,id,rfl,rfl,aW _,rfl,rfl⟩,trivial⟩,?_⟩
  show T.sub _ _ (.sl 0 false []) (.own 6)
  simp only[T.sub]
  exact⟨trivial,trivial,rfl,by decide,69,rfl⟩
 conv=>whnf
 rw[AV (by omega:0<l.length)]
 conv=>whnf
 refine .mk (by omega) ?_
 conv=>whnf
 refine aP.fam 20000 [2,3,5,6,24] (fun a:Nat=>[(25,.int a)]) (fun a=>ng (mQ p l on fM w f a)++kM 10000 (fB (g.lG a))) (fun a=>a<=l.length) (fun a=>l.length-a) 0 (nZ 10000 (fun j=>10000+j) (dR (mQ p l on fM w f 0) [0,1,6])) _ rfl (by decide) (fun _=>rfl) (Nat.zero_le _) (sR rfl) (.inl rfl) ?_ ?_
 ·refine gJ.FX 20000 (mQ p l on fM w f 0) [0,1,6] ?_ rfl rfl (Nat.zero_le _) (by rw[fG,yU]; omega) (by decide) iD ?_
  (repeat' (first|refine bT.lo rfl ?_|refine bT.hi rfl ?_|exact bT.nil))
  exact⟨cu rfl rfl,cu rfl rfl,nV rfl (dX (by omega)) rfl ⟨rfl,rfl⟩ fV,trivial⟩
 conv=>whnf
 refine⟨(sR rfl),rfl,?_⟩
 rintro a ha
 have hrl:(g.lG a).length=a:=yU
 conv=>whnf
 refine⟨fun h1=>?_,fun h1=>?_⟩
 ·have ha':a<l.length:=by simpa using h1
  obtain⟨r0,hr0,hr1⟩:=IZ p.rules.length
  conv=>whnf
  rw[hr0]
  conv=>whnf
  repeat(refine VC.mk (by first|(first|(rw[oH ha]; simpa using ha')|(simp only[Int.toNat_natCast]; rw[oH ha]; exact ha'))|(omega)) ?_; conv=>whnf)
  have hoR:=h.onR a ha'
  have hoL:(sN 10000 (a+1) l.length).length=l.length:=oH ha'
  refine aP.fam 20000 [2,3,5,6,7,24,25,38,39] (fun i:Nat=>[(40,.int i)]) (fun i=>ng (mQ p l on fM w f (a+1))++kM 10000 (fB (g.lG a++[g.xZ a i]))) (fun i=>i<=p.rules.length) (fun i=>p.rules.length-i) 0 (nZ 10000 (fun j=>if j=a then 20009 else 10000+j) (dR (mQ p l on fM w f (a+1)) [0,1,6])) _ rfl (by decide) (fun _=>rfl) (Nat.zero_le _) (sR rfl) (.inl rfl) ?_ ?_
  ·refine gJ.ac0 20000 a 20009 (fB (g.lG a)) (mQ p l on fM w f (a+1)) [0,1,6] ?_ rfl rfl rfl (Nat.zero_le _) (by rw[fG,List.length_append,hrl]; simp only[List.length_singleton]; omega) (by rw[fG,hrl]; omega) (by decide) iD ?_ (Y0 hrl) ?_
   (repeat' (first|refine bT.lo rfl ?_|refine bT.hi rfl ?_|exact bT.nil))
   ·intro o ho
    rw[Ko hrl] at ho
    cases ho
    refine⟨_,rfl,?_⟩
    show(OV.row 4 0 r0 []).ay=_
    rw[TD,gk]
    simp[OV.ay,hr1]
   exact⟨cu rfl rfl,cu rfl rfl,nV rfl (dX (by omega)) rfl ⟨rfl,rfl⟩ (Ws ha'),trivial⟩
  conv=>whnf
  refine⟨(sR rfl),rfl,?_⟩
  rintro i hi
  have hrm:(g.xZ a i).length=p.rules.length:=by rw[Wh (by omega),gk]
  have hll:(g.lG a++[g.xZ a i]).length=a+1:=by rw[List.length_append,hrl]; rfl
  conv=>whnf
  refine⟨fun h2=>?_,fun h2=>?_⟩
  ·have hi':i<p.rules.length:=by simpa using h2
   conv=>whnf
   repeat(refine VC.mk (by first|(omega)|(simp only[Rw.rng] at *; first|omega|(simp_all; done)|(simp_all; omega))) ?_; conv=>whnf)
   refine AtZ.out (j:=a) (Nat.lt_succ_self a) ?_
   conv=>whnf
   repeat(refine VC.mk (by first|(first|(simp only[Rw.rng]; omega)|(simp only[Rw.rng,Int.toNat_natCast]; omega))|exact fun h=>⟨h,h⟩) ?_; conv=>whnf)
   refine ah.jC (fun _=>S.kT (p.rules.getD i default) w f h.wok (h.rul i hi') h.wl) rfl ?_
   conv=>whnf
   refine VC.mk id ?_
   conv=>whnf
   refine O4.Nw 20000 ?_ (by rw[fG,hll]; omega) (Ko hrl) ?_
   (repeat' (first|refine bT.lo rfl ?_|refine bT.hi rfl ?_|exact bT.nil))
   conv=>whnf
   refine .mk (by first|(simp only[Rw.rng]; omega)|(simp only[Rw.rng,Int.toNat_natCast]; omega)) ?_
   conv=>whnf
   have hgl:(g.lG a++[g.xZ a i]).getD a []=g.xZ a i:=IY hrl
   refine Kq.fB (j:=a) (x:=i) 20000 5 (g.sK a i 0) rfl rfl (by rw[hll]; omega) (by rw[hll]; exact Nat.lt_succ_self a) (by rw[hgl,hrm]; exact hi') ?_ ?_
   ·rw[hgl]
    show some (Rw.bools ((g.xZ a i).set i _))=_
    rw[<- Wj (by omega),<- hg]; rfl
   rw[Ns hrl]
   conv=>whnf
   have hge:g.Vq=fun x i=>aa9 (p.rules.getD x default) (p.rules.getD i default).fr:=by rw[<- hg]; rfl
   refine aP.fam 20000 [2,3,5,6,7,8,24,25,38,39,40,67] (fun x:Nat=>[(68,.int x),(9,.ptr 7 0 0)]) (fun x=>ng (Wv p l on fM w f (a+1) i)++kM 10000 (fB (g.lG a++[g.sK a i x]))) (fun x=>x<=p.rules.length) (fun x=>p.rules.length-x) 0 (nZ 10000 (fun j=>10000+j) (dR (Wv p l on fM w f (a+1) i) [0,1,6,20004])) _ rfl (by decide) (fun _=>rfl) (Nat.zero_le _) (sR rfl) (.inl rfl) ?_ ?_
   ·refine gJ.FX 20000 (Wv p l on fM w f (a+1) i) [0,1,6,20004] ?_ rfl rfl (Nat.zero_le _) (by rw[fG,List.length_append,hrl]; simp only[List.length_singleton]; omega) (by decide) iD ?_
    (repeat' (first|refine bT.lo rfl ?_|refine bT.hi rfl ?_|exact bT.nil))
    exact⟨cu rfl rfl,cu rfl rfl,nV rfl (dX (by omega)) rfl ⟨rfl,rfl⟩ fV,cu rfl rfl,trivial⟩
   conv=>whnf
   refine⟨(sR rfl),rfl,?_⟩
   rintro x hx
   have hxl:(g.sK a i x).length=p.rules.length:=by rw[Wi (by omega),gk]
   have Wx:(g.lG a++[g.sK a i x]).length=a+1:=by rw[List.length_append,hrl]; rfl
   have ac1:(g.lG a++[g.sK a i x]).getD a []=g.sK a i x:=IY hrl
   conv=>whnf
   refine⟨fun h3=>?_,fun h3=>?_⟩
   ·have hx':x<p.rules.length:=by simpa using h3
    conv=>whnf
    refine ah.lend (S.neutral p l on fM w f a x h ha' hx') ⟨aB _,aB _,EN trivial rfl rfl (by decide),EN trivial rfl rfl (by decide),trivial⟩ rfl rfl ?_
    rw[hg]
    conv=>whnf
    repeat(refine VC.mk (by first|exact id|exact fun h=>⟨h,h⟩|(intro h; (repeat' apply And.intro)<;>first|exact h|omega|(simp only[Rw.xW]; omega)|(simp only[Rw.rng]; omega))) ?_; conv=>whnf)
    refine ah.jC (fun _=>S.sD (p.rules.getD x default) (p.rules.getD i default).fr w.length (h.rul x hx') (h.rul i hi').place.src) rfl ?_
    conv=>whnf
    refine VC.mk id ?_
    conv=>whnf
    refine⟨fun h4=>?_,fun h4=>?_⟩
    ·replace h4:(g.Ht a x&&g.Vq x i)=true:=by rw[hge]; exact h4
     rw[Bool.and_eq_true] at h4
     conv=>whnf
     refine .mk (by omega) ?_
     conv=>whnf
     refine AtZ.out (j:=a) (Nat.lt_succ_self a) ?_
     conv=>whnf
     refine O4.Nw 20000 ?_ (by rw[fG,Wx]; omega) (Ko hrl) ?_
     (repeat' (first|refine bT.lo rfl ?_|refine bT.hi rfl ?_|exact bT.nil))
     conv=>whnf
     refine .mk (by first|(simp only[Rw.rng]; omega)|(simp only[Rw.rng,Int.toNat_natCast]; omega)) ?_
     conv=>whnf
     refine Kq.fB (j:=a) (x:=i) 20000 4 (g.sK a i (x+1)) rfl rfl (by rw[Wx]; omega) (by rw[Wx]; exact Nat.lt_succ_self a) (by rw[ac1,hxl]; exact hi') ?_ ?_
     ·rw[ac1]
      show some (Rw.bools ((g.sK a i x).set i false))=_
      rw[Wp h4.1 h4.2]
     rw[Ns hrl]
     conv=>whnf
     refine .mk (by simp only[okI] at *; first|omega|(simp_all; done)|(simp_all; omega)) ?_
     conv=>whnf
     refine jM.zZ 20000 (x+1) (fB (g.lG a++[g.sK a i (x+1)])) (Wv p l on fM w f (a+1) i) [0,1,6,7] rfl (by omega) (by omega) ?_ rfl rfl (Nat.zero_le _) (by rw[fG,List.length_append,hrl]; simp only[List.length_singleton]; omega) (by decide) iD (sR rfl) (sR rfl) ?_
     (repeat' (first|refine bT.lo rfl ?_|refine bT.hi rfl ?_|exact bT.nil))
     exact⟨cu rfl rfl,cu rfl rfl,nV rfl (dX (by omega)) rfl ⟨rfl,rfl⟩ fV,cu rfl rfl,trivial⟩
    ·replace h4:(g.Ht a x&&g.Vq x i)=false:=by rw[hge]; exact h4
     conv=>whnf
     refine .mk (by simp only[okI] at *; first|omega|(simp_all; done)|(simp_all; omega)) ?_
     conv=>whnf
     refine jM.zZ 20000 (x+1) (fB (g.lG a++[g.sK a i x])) (Wv p l on fM w f (a+1) i) [0,1,6,7] (by rw[TF h4]) (by omega) (by omega) ?_ rfl rfl (Nat.zero_le _) (by rw[fG,Wx]; omega) (by decide) iD (sR rfl) (sR rfl) ?_
     (repeat' (first|refine bT.lo rfl ?_|refine bT.hi rfl ?_|exact bT.nil))
     exact⟨cu rfl rfl,cu rfl rfl,nV rfl (dX (by omega)) rfl ⟨rfl,rfl⟩ fV,cu rfl rfl,trivial⟩
   ·have hx':x=g.k:=by
     have: ¬ x<p.rules.length:=by simpa using h3
     omega
    conv=>whnf
    refine .mk (by simp only[okI] at *; first|omega|(simp_all; done)|(simp_all; omega)) ?_
    conv=>whnf
    refine jM.zZ 20000 (i+1) (fB (g.lG a++[g.sK a i x])) (mQ p l on fM w f (a+1)) [0,1,6] (by rw[hx',Wn (by omega)]) (by omega) (by omega) ?_ rfl rfl (Nat.zero_le _) (by rw[fG,Wx]; omega) (by decide) iD (sR rfl) (sR rfl) ?_
    (repeat' (first|refine bT.lo rfl ?_|refine bT.hi rfl ?_|exact bT.nil))
    exact⟨cu rfl rfl,cu rfl rfl,nV rfl (dX (by omega)) rfl ⟨rfl,rfl⟩ fV,trivial⟩
  ·have hi':i=g.k:=by
    have: ¬ i<p.rules.length:=by simpa using h2
    omega
   conv=>whnf
   refine .mk (by simp only[okI] at *; first|omega|(simp_all; done)|(simp_all; omega)) ?_
   conv=>whnf
   refine jM.zZ 20000 (a+1) (fB (g.lG a++[g.xZ a i])) (mQ p l on fM w f (a+1)) [0,1,6] (by rw[PE,hi',V9]) (by omega) (by omega) ?_ rfl rfl (Nat.zero_le _) (by rw[fG,hll]; omega) (by decide) iD (sR rfl) (sR rfl) ?_
   (repeat' (first|refine bT.lo rfl ?_|refine bT.hi rfl ?_|exact bT.nil))
   exact⟨cu rfl rfl,cu rfl rfl,nV rfl (dX (by omega)) rfl ⟨rfl,rfl⟩ fV,trivial⟩
 ·have ha':a=g.n:=by
   have: ¬ a<l.length:=by simpa using h1
   omega
  rw[ha']
  have hI:=TG (g:=g)
  generalize g.lG g.n=R0 at hI
  conv=>whnf
  have hR0:R0.length=l.length:=by rw[hI.len,gn]
  have hoL:(sN 10000 g.n l.length).length=l.length:=oH (by omega)
  refine aP.fam 20000 [2,3,5,6] (fun s:List (List Bool)×Bool=>[(11,.bool s.2)]) (fun s=>ng (mQ p l on fM w f g.n)++kM 10000 (fB s.1)) (fun s=>g.Inv s.1/\(s.2=false->s.1=g.rE)) (fun s=>2*zu s.1+(bif s.2 then 1 else 0)) (R0,true) (nZ 10000 (fun j=>10000+j) (dR (mQ p l on fM w f g.n) [0,1,6])) _ rfl (by decide) (fun _=>rfl) ⟨hI,fun e=>by cases e⟩ (sR rfl) (.inl rfl) ?_ ?_
  ·refine gJ.FX 20000 (mQ p l on fM w f g.n) [0,1,6] ?_ rfl rfl (Nat.zero_le _) (by rw[fG]; show 10000+R0.length<=20000; omega) (by decide) iD ?_
   (repeat' (first|refine bT.lo rfl ?_|refine bT.hi rfl ?_|exact bT.nil))
   exact⟨cu rfl rfl,cu rfl rfl,nV rfl (dX (by omega)) rfl ⟨rfl,rfl⟩ fV,trivial⟩
  conv=>whnf
  refine⟨(sR rfl),rfl,?_⟩
  rintro⟨R,ag⟩ ⟨hI,hst⟩
  replace hI:g.Inv R:=hI
  replace hst:ag=false->R=g.rE:=hst
  have hRl:R.length=l.length:=by rw[hI.len,gn]
  conv=>whnf
  refine⟨fun h2=>?_,fun h2=>?_⟩
  ·replace h2:ag=true:=h2
   subst h2
   conv=>whnf
   refine aP.fam 20000 [2,3,5,6,98] (fun s:(List (List Bool)×Bool)×Nat=>[(11,.bool s.1.2),(99,.int s.2)]) (fun s=>ng (mQ p l on fM w f g.n)++kM 10000 (fB s.1.1)) (fun s=>g.nY R s.1.1 s.1.2 s.2 0 0 0/\s.2<=l.length) (fun s=>l.length-s.2) ((R,false),0) (nZ 10000 (fun j=>10000+j) (dR (mQ p l on fM w f g.n) [0,1,6])) _ rfl (by decide) (fun _=>rfl) ⟨.zero hI,Nat.zero_le _⟩ (sR rfl) (.inl rfl) ?_ ?_
   ·refine gJ.FX 20000 (mQ p l on fM w f g.n) [0,1,6] ?_ rfl rfl (Nat.zero_le _) (by rw[fG]; show 10000+R.length<=20000; omega) (by decide) iD ?_
    (repeat' (first|refine bT.lo rfl ?_|refine bT.hi rfl ?_|exact bT.nil))
    exact⟨cu rfl rfl,cu rfl rfl,nV rfl (dX (by omega)) rfl ⟨rfl,rfl⟩ fV,trivial⟩
   conv=>whnf
   refine⟨(sR rfl),rfl,?_⟩
   rintro⟨⟨R1,ag⟩,a⟩ ⟨hA,ha⟩
   replace hA:g.nY R R1 ag a 0 0 0:=hA
   replace ha:a<=l.length:=ha
   have hR1:R1.length=l.length:=by rw[hA.inv.len,gn]
   conv=>whnf
   refine⟨fun h3=>?_,fun h3=>?_⟩
   ·have ha':a<l.length:=by simpa using h3
    have hoR:=h.onR a ha'
    have haR:=h.afR a ha'
    conv=>whnf
    refine aP.fam 20000 [2,3,5,6,12,98,99,105] (fun s:(List (List Bool)×Bool)×Nat=>[(11,.bool s.1.2),(106,.int s.2)]) (fun s=>ng (mQ p l on fM w f g.n)++kM 10000 (fB s.1.1)) (fun s=>g.nY R s.1.1 s.1.2 a s.2 0 0/\s.2<=p.rules.length) (fun s=>p.rules.length-s.2) ((R1,ag),0) (nZ 10000 (fun j=>10000+j) (dR (mQ p l on fM w f g.n) [0,1,6])) _ rfl (by decide) (fun _=>rfl) ⟨hA,Nat.zero_le _⟩ (sR rfl) (.inl rfl) ?_ ?_
    ·refine gJ.FX 20000 (mQ p l on fM w f g.n) [0,1,6] ?_ rfl rfl (Nat.zero_le _) (by rw[fG]; show 10000+R1.length<=20000; omega) (by decide) iD ?_
     (repeat' (first|refine bT.lo rfl ?_|refine bT.hi rfl ?_|exact bT.nil))
     exact⟨cu rfl rfl,cu rfl rfl,nV rfl (dX (by omega)) rfl ⟨rfl,rfl⟩ fV,trivial⟩
    conv=>whnf
    refine⟨(sR rfl),rfl,?_⟩
    clear hA hR1
    rintro⟨⟨R1,ag⟩,x⟩ ⟨hA,hx⟩
    replace hA:g.nY R R1 ag a x 0 0:=hA
    replace hx:x<=p.rules.length:=hx
    have hR1:R1.length=l.length:=by rw[hA.inv.len,gn]
    conv=>whnf
    refine⟨fun h4=>?_,fun h4=>?_⟩
    ·have hx':x<p.rules.length:=by simpa using h4
     conv=>whnf
     refine ah.lend (S.neutral p l on fM w f a x h ha' hx') ⟨aB _,aB _,EN trivial rfl rfl (by decide),EN trivial rfl rfl (by decide),trivial⟩ rfl rfl ?_
     rw[hg]
     conv=>whnf
     refine⟨fun h5=>?_,fun h5=>?_⟩
     ·replace h5:g.Ht a x=false:=by simpa using h5
      conv=>whnf
      refine .mk (by simp only[okI] at *; first|omega|(simp_all; done)|(simp_all; omega)) ?_
      conv=>whnf
      refine jM.zZ 20000 (((R1,ag),x+1)) (fB R1) (mQ p l on fM w f g.n) [0,1,6] rfl ⟨hA.acZ h5,hx'⟩ (by simp only; omega) ?_ rfl rfl (Nat.zero_le _) (by rw[fG]; omega) (by decide) iD (sR rfl) (sR rfl) ?_
      (repeat' (first|refine bT.lo rfl ?_|refine bT.hi rfl ?_|exact bT.nil))
      exact⟨cu rfl rfl,cu rfl rfl,nV rfl (dX (by omega)) rfl ⟨rfl,rfl⟩ fV,trivial⟩
     ·replace h5:g.Ht a x=true:=by simpa using h5
      have hga:g.fM a x=(fM.getD a []).getD x []:=by rw[<- hg]; rfl
      have ae3:=h.afN a x
      conv=>whnf
      repeat(refine VC.mk (by first|(simp only[Rw.rng]; omega)|(simp only[Rw.rng,Int.toNat_natCast]; omega)) ?_; conv=>whnf)
      refine aP.fam 20000 [2,3,5,6,12,13,98,99,105,106,121,122] (fun s:(List (List Bool)×Bool)×Nat=>[(11,.bool s.1.2),(123,.int s.2)]) (fun s=>ng (mQ p l on fM w f g.n)++kM 10000 (fB s.1.1)) (fun s=>g.nY R s.1.1 s.1.2 a x s.2 0/\s.2<=((fM.getD a []).getD x []).length) (fun s=>((fM.getD a []).getD x []).length-s.2) ((R1,ag),0) (nZ 10000 (fun j=>10000+j) (dR (mQ p l on fM w f g.n) [0,1,6])) _ rfl (by decide) (fun _=>rfl) ⟨hA,Nat.zero_le _⟩ (sR rfl) (.inl rfl) ?_ ?_
      ·refine gJ.FX 20000 (mQ p l on fM w f g.n) [0,1,6] ?_ rfl rfl (Nat.zero_le _) (by rw[fG]; show 10000+R1.length<=20000; omega) (by decide) iD ?_
       (repeat' (first|refine bT.lo rfl ?_|refine bT.hi rfl ?_|exact bT.nil))
       exact⟨cu rfl rfl,cu rfl rfl,nV rfl (dX (by omega)) rfl ⟨rfl,rfl⟩ fV,trivial⟩
      conv=>whnf
      refine⟨(sR rfl),rfl,?_⟩
      clear hA hR1
      rintro⟨⟨R1,ag⟩,c⟩ ⟨hA,hc⟩
      replace hA:g.nY R R1 ag a x c 0:=hA
      replace hc:c<=((fM.getD a []).getD x []).length:=hc
      have hR1:R1.length=l.length:=by rw[hA.inv.len,gn]
      conv=>whnf
      refine⟨fun h6=>?_,fun h6=>?_⟩
      ·have hc':c<((fM.getD a []).getD x []).length:=by simpa using h6
       have hrow:=hA.inv.row a (by omega)
       rw[gk] at hrow
       conv=>whnf
       repeat(refine VC.mk (by first|(simp only[Rw.rng]; omega)|(simp only[Rw.rng,Int.toNat_natCast]; omega)) ?_; conv=>whnf)
       refine AtZ.out (j:=a) (by omega) ?_
       conv=>whnf
       refine O4.Nw 20000 (L:=fB R1) (j:=a) ?_ (by rw[fG]; omega) (x8 (by omega)) ?_
       (repeat' (first|refine bT.lo rfl ?_|refine bT.hi rfl ?_|exact bT.nil))
       conv=>whnf
       have hmem:((fM.getD a []).getD x []).getD c 0∈(fM.getD a []).getD x []:=eY hc'
       obtain⟨hb0,hb1⟩:=h.rF a x _ hmem
       have hbg:(g.fM a x).getD c 0=((fM.getD a []).getD x []).getD c 0:=by rw[hga]
       have hbn:(((fM.getD a []).getD x []).getD c 0).toNat<l.length:=by omega
       rw[hrow]
       refine aP.fam 20000 [2,3,5,6,12,13,15,98,99,105,106,121,122,123,131] (fun s:(List (List Bool)×Bool)×Nat=>[(11,.bool s.1.2),(132,.int s.2)]) (fun s=>ng (mQ p l on fM w f g.n)++kM 10000 (fB s.1.1)) (fun s=>g.nY R s.1.1 s.1.2 a x c s.2/\s.2<=p.rules.length) (fun s=>p.rules.length-s.2) ((R1,ag),0) (nZ 10000 (fun j=>10000+j) (dR (mQ p l on fM w f g.n) [0,1,6])) _ rfl (by decide) (fun _=>rfl) ⟨hA,Nat.zero_le _⟩ (sR rfl) (.inl rfl) ?_ ?_
       ·refine gJ.FX 20000 (mQ p l on fM w f g.n) [0,1,6] ?_ rfl rfl (Nat.zero_le _) (by rw[fG]; show 10000+R1.length<=20000; omega) (by decide) iD ?_
        (repeat' (first|refine bT.lo rfl ?_|refine bT.hi rfl ?_|exact bT.nil))
        exact⟨cu rfl rfl,cu rfl rfl,nV rfl (dX (by omega)) rfl ⟨rfl,rfl⟩ fV,trivial⟩
       conv=>whnf
       refine⟨(sR rfl),rfl,?_⟩
       clear hA hR1 hrow
       rintro⟨⟨R1,ag⟩,i⟩ ⟨hA,hi⟩
       replace hA:g.nY R R1 ag a x c i:=hA
       replace hi:i<=p.rules.length:=hi
       have hR1:R1.length=l.length:=by rw[hA.inv.len,gn]
       have hrow:=hA.inv.row a (by omega)
       have ac2:=hA.inv.row (((fM.getD a []).getD x []).getD c 0).toNat (by omega)
       rw[gk] at hrow ac2
       conv=>whnf
       refine⟨fun h7=>?_,fun h7=>?_⟩
       ·have hi':i<p.rules.length:=by simpa using h7
        conv=>whnf
        refine .mk (by first|(simp only[]; omega)|(simp only[Rw.rng,Int.toNat_natCast]; omega)) ?_
        conv=>whnf
        refine AtZ.out (j:=a) (by omega) ?_
        conv=>whnf
        refine O4.Nw 20000 (L:=fB R1) (j:=a) ?_ (by rw[fG]; omega) (x8 (by omega)) ?_
        (repeat' (first|refine bT.lo rfl ?_|refine bT.hi rfl ?_|exact bT.nil))
        conv=>whnf
        refine .mk (by first|(simp only[Rw.rng]; omega)|(simp only[Rw.rng,Int.toNat_natCast]; omega)) ?_
        conv=>whnf
        refine O4.Nw 20000 (L:=fB R1) (j:=a) ?_ (by rw[fG]; omega) (x8 (by omega)) ?_
        (repeat' (first|refine bT.lo rfl ?_|refine bT.hi rfl ?_|exact bT.nil))
        conv=>whnf
        repeat(refine VC.mk (by first|(intro h; simp_all; done)|(simp only[Rw.rng] at *; first|omega|(simp_all; done)|(simp_all; omega))) ?_; conv=>whnf)
        refine⟨fun h8=>?_,fun h8=>?_⟩
        ·have h8':gB R1 a i=true:=h8
         conv=>whnf
         refine .mk (by omega) ?_
         conv=>whnf
         refine AtZ.out (j:=(((fM.getD a []).getD x []).getD c 0).toNat) (by omega) ?_
         conv=>whnf
         refine Fork.mk (fun _=>?_) (fun q=>absurd (q.symm.trans (h8)) Bool.false_ne_true)
         conv=>whnf
         refine .mk (by omega) ?_
         conv=>whnf
         refine O4.Nw 20000 (L:=fB R1) (j:=(((fM.getD a []).getD x []).getD c 0).toNat) ?_ (by rw[fG]; omega) (x8 (by omega)) ?_
         (repeat' (first|refine bT.lo rfl ?_|refine bT.hi rfl ?_|exact bT.nil))
         conv=>whnf
         refine .mk (by first|(simp only[Rw.rng]; omega)|(simp only[Rw.rng,Int.toNat_natCast]; omega)) ?_
         conv=>whnf
         refine Fork.mk (fun _=>?_) (fun q=>absurd (q.symm.trans (h8)) Bool.false_ne_true)
         conv=>whnf
         refine O4.Nw 20000 (L:=fB R1) (j:=(((fM.getD a []).getD x []).getD c 0).toNat) ?_ (by rw[fG]; omega) (x8 (by omega)) ?_
         (repeat' (first|refine bT.lo rfl ?_|refine bT.hi rfl ?_|exact bT.nil))
         conv=>whnf
         repeat(refine VC.mk (by first|exact id|(simp only[Rw.rng] at *; first|omega|(simp_all; done)|(simp_all; omega))) ?_; conv=>whnf)
         refine⟨fun h9=>?_,fun h9=>?_⟩
         ·replace h9:(gB R1 a i&& !(gB R1 (((fM.getD a []).getD x []).getD c 0).toNat i))=true:=h9
          rw[h8',Bool.true_and,Bool.not_eq_true'] at h9
          conv=>whnf
          refine .mk (by omega) ?_
          conv=>whnf
          refine AtZ.out (j:=a) (by omega) ?_
          conv=>whnf
          refine O4.Nw 20000 (L:=fB R1) (j:=a) ?_ (by rw[fG]; omega) (x8 (by omega)) ?_
          (repeat' (first|refine bT.lo rfl ?_|refine bT.hi rfl ?_|exact bT.nil))
          conv=>whnf
          refine .mk (by first|(simp only[Rw.rng]; omega)|(simp only[Rw.rng,Int.toNat_natCast]; omega)) ?_
          conv=>whnf
          refine Kq.fB (j:=a) (x:=i) (R:=R1) 20000 3 ((R1.getD a []).set i false) rfl rfl (by omega) (by omega) (by omega) rfl ?_
          conv=>whnf
          refine .mk (by simp only[okI] at *; first|omega|(simp_all; done)|(simp_all; omega)) ?_
          conv=>whnf
          refine jM.zZ 20000 (((setB R1 a i false,true),i+1)) (fB (setB R1 a i false)) (mQ p l on fM w f g.n) [0,1,6] rfl ⟨hA.take (by omega) (by omega) (by rw[hga]; exact hc') (by omega) h5 h8' (by rw[hbg]; exact h9),hi'⟩ (by simp only; omega) ?_ rfl rfl (Nat.zero_le _) (by rw[fG,Nr]; omega) (by decide) iD (sR rfl) (sR rfl) ?_
          (repeat' (first|refine bT.lo rfl ?_|refine bT.hi rfl ?_|exact bT.nil))
          exact⟨cu rfl rfl,cu rfl rfl,nV rfl (dX (by omega)) rfl ⟨rfl,rfl⟩ fV,trivial⟩
         ·replace h9:(gB R1 a i&& !(gB R1 (((fM.getD a []).getD x []).getD c 0).toNat i))=false:=h9
          rw[h8',Bool.true_and,Bool.not_eq_false'] at h9
          conv=>whnf
          refine .mk (by simp only[okI] at *; first|omega|(simp_all; done)|(simp_all; omega)) ?_
          conv=>whnf
          refine jM.zZ 20000 (((R1,ag),i+1)) (fB R1) (mQ p l on fM w f g.n) [0,1,6] rfl ⟨hA.aaN (fun _=>by rw[hbg]; exact h9),hi'⟩ (by simp only; omega) ?_ rfl rfl (Nat.zero_le _) (by rw[fG]; omega) (by decide) iD (sR rfl) (sR rfl) ?_
          (repeat' (first|refine bT.lo rfl ?_|refine bT.hi rfl ?_|exact bT.nil))
          exact⟨cu rfl rfl,cu rfl rfl,nV rfl (dX (by omega)) rfl ⟨rfl,rfl⟩ fV,trivial⟩
        ·have h8':gB R1 a i=false:=h8
         conv=>whnf
         refine Fork.mk (fun q=>absurd (q.symm.trans (h8)).symm Bool.false_ne_true) (fun _=>?_)
         conv=>whnf
         refine Fork.mk (fun q=>absurd (q.symm.trans (h8)).symm Bool.false_ne_true) (fun _=>?_)
         conv=>whnf
         refine Fork.mk (fun q=>absurd (q.symm.trans (h8)).symm Bool.false_ne_true) (fun _=>?_)
         conv=>whnf
         refine .mk (by intro h; simp_all; done) ?_
         conv=>whnf
         refine⟨fun h9=>?_,fun h9=>?_⟩
         ·exfalso
          exact absurd h9 (by simp)
         ·conv=>whnf
          refine .mk (by simp only[okI] at *; first|omega|(simp_all; done)|(simp_all; omega)) ?_
          conv=>whnf
          refine jM.zZ 20000 (((R1,ag),i+1)) (fB R1) (mQ p l on fM w f g.n) [0,1,6] rfl ⟨hA.aaN (fun q=>by rw[h8'] at q; cases q),hi'⟩ (by simp only; omega) ?_ rfl rfl (Nat.zero_le _) (by rw[fG]; omega) (by decide) iD (sR rfl) (sR rfl) ?_
          (repeat' (first|refine bT.lo rfl ?_|refine bT.hi rfl ?_|exact bT.nil))
          exact⟨cu rfl rfl,cu rfl rfl,nV rfl (dX (by omega)) rfl ⟨rfl,rfl⟩ fV,trivial⟩
       ·have hi':g.k<=i:=by
         have: ¬ i<p.rules.length:=by simpa using h7
         omega
        conv=>whnf
        refine .mk (by simp only[okI] at *; first|omega|(simp_all; done)|(simp_all; omega)) ?_
        conv=>whnf
        refine jM.zZ 20000 (((R1,ag),c+1)) (fB R1) (mQ p l on fM w f g.n) [0,1,6] rfl ⟨hA.acX hi',hc'⟩ (by simp only; omega) ?_ rfl rfl (Nat.zero_le _) (by rw[fG]; omega) (by decide) iD (sR rfl) (sR rfl) ?_
        (repeat' (first|refine bT.lo rfl ?_|refine bT.hi rfl ?_|exact bT.nil))
        exact⟨cu rfl rfl,cu rfl rfl,nV rfl (dX (by omega)) rfl ⟨rfl,rfl⟩ fV,trivial⟩
      ·have hc':((fM.getD a []).getD x []).length<=c:=by simpa using h6
       conv=>whnf
       refine .mk (by simp only[okI] at *; first|omega|(simp_all; done)|(simp_all; omega)) ?_
       conv=>whnf
       refine jM.zZ 20000 (((R1,ag),x+1)) (fB R1) (mQ p l on fM w f g.n) [0,1,6] rfl ⟨hA.acY (by rw[hga]; exact hc'),hx'⟩ (by simp only; omega) ?_ rfl rfl (Nat.zero_le _) (by rw[fG]; omega) (by decide) iD (sR rfl) (sR rfl) ?_
       (repeat' (first|refine bT.lo rfl ?_|refine bT.hi rfl ?_|exact bT.nil))
       exact⟨cu rfl rfl,cu rfl rfl,nV rfl (dX (by omega)) rfl ⟨rfl,rfl⟩ fV,trivial⟩
    ·have hx':p.rules.length<=x:=by simpa using h4
     conv=>whnf
     refine .mk (by simp only[okI] at *; first|omega|(simp_all; done)|(simp_all; omega)) ?_
     conv=>whnf
     refine jM.zZ 20000 (((R1,ag),a+1)) (fB R1) (mQ p l on fM w f g.n) [0,1,6] rfl ⟨hA.D9 (by omega),ha'⟩ (by simp only; omega) ?_ rfl rfl (Nat.zero_le _) (by rw[fG]; omega) (by decide) iD (sR rfl) (sR rfl) ?_
     (repeat' (first|refine bT.lo rfl ?_|refine bT.hi rfl ?_|exact bT.nil))
     exact⟨cu rfl rfl,cu rfl rfl,nV rfl (dX (by omega)) rfl ⟨rfl,rfl⟩ fV,trivial⟩
   ·have ha':l.length<=a:=by simpa using h3
    conv=>whnf
    have hinv:g.Inv R1/\(ag=false->R1=g.rE):=⟨hA.inv,fun e=>by subst e; exact hA.all (by omega)⟩
    have hmu:2*zu R1+(bif ag then 1 else 0)<2*zu R+1:=by
     have:=hA.le
     cases ag with
     |false=>simp only[cond_false]; omega
     |true=>have:=hA.lt rfl; simp only[cond_true]; omega
    refine jM.zZ 20000 ((R1,ag)) (fB R1) (mQ p l on fM w f g.n) [0,1,6] rfl hinv hmu ?_ rfl rfl (Nat.zero_le _) (by rw[fG]; omega) (by decide) iD (sR rfl) (sR rfl) ?_
    (repeat' (first|refine bT.lo rfl ?_|refine bT.hi rfl ?_|exact bT.nil))
    exact⟨cu rfl rfl,cu rfl rfl,nV rfl (dX (by omega)) rfl ⟨rfl,rfl⟩ fV,trivial⟩
  ·replace h2:ag=false:=h2
   have e:=hst h2
   subst e
   have hhl:g.rE.length=l.length:=hRl
   conv=>whnf
   refine Nv.gu (B:=10000) ?_ (by decide) fun j hj=>?_
   ·show some (PG 10000 g.n l.length)=_
    rw[hhl,gn]
   ·refine bT.get (C:=20000) (L:=fB g.rE) ?_ (by rw[fG]; omega) (x8 hj)
    (repeat' (first|refine bT.lo rfl ?_|refine bT.hi rfl ?_|exact bT.nil))
end Go.Proofs.YtajmbgljnaljiaaGreatDoor
namespace Go.Proofs.YtajmbgljnaljiaaGreatDoor
open Go.Ab Go.Proofs
set_option maxRecDepth 100000
theorem ac3{h:Hz}{j:Nat}{Z:Nat->Prop}{l:List Bool}(hz:Z j)(q:h.get j=some (rowB l)):T.sub Z h.aj (V.row 0 false (.bools l)).aF (V.own j).aF:=by
 show T.sub _ h.aj (.sl 0 false (l.map T.bool)) (.own j)
 simp only[T.sub]
 refine⟨trivial,hz,?_,by decide,4,?_⟩
 ·rw[eG]; intro t ht; obtain⟨x,_,rfl⟩:=List.mem_map.1 ht; rfl
 ·rw[aO q]; simp[OV.ay,Rw.aS,V.aS]
variable {g:Gr}
end Go.Proofs.YtajmbgljnaljiaaGreatDoor
