/-
 Ways to share, cut: the reference. No condition.
-/
import Derived.Test.YtkmldgihhaooaaaGreatDoorQd
namespace Go.Proofs.YtkmldgihhaooaaaGreatDoor
open Go.Ab Go.Proofs
set_option maxRecDepth 100000
theorem Y5{α:Type}{m:Nat}{o a b:List α}(h:m<=(pR m o a).length):pR m o (a++b)=pR m o a:=by
 unfold pR at h ⊢
 rw[List.length_take] at h
 rw[<- List.append_assoc,List.take_append_of_le_length (by omega)]
theorem TD{α:Type}{m:Nat}{o a:List α}:(pR m o a).length<=m:=by
 unfold pR; rw[List.length_take]; omega
theorem abK{α:Type}{m:Nat}{o:List α}(h:o.length<=m):pR m o []=o:=by
 unfold pR; rw[List.append_nil,List.take_of_length_le h]
def GR(c:List Int)(x:Int)(r:List Int)(n i:Nat):List (List Int):=(List.range i).flatMap fun k:Nat=>AO (aT c x k) r (n-k)
theorem OU{c:List Int}{x:Int}{r:List Int}{n i:Nat}:GR c x r n (i+1)=GR c x r n i++AO (aT c x i) r (n-i):=by
 unfold GR
 rw[List.range_succ,List.flatMap_append]; simp
theorem Y6{c:List Int}{x:Int}{r:List Int}{n i j:Nat}(h:i<=j): ∃ b,GR c x r n j=GR c x r n i++b:=by
 obtain⟨k,rfl⟩:=Nat.exists_eq_add_of_le h
 induction k with
 |zero=>exact⟨[],by simp⟩
 |succ k ih =>
  obtain⟨b,hb⟩:=ih (by omega)
  rw[<- Nat.add_assoc,OU,hb,List.append_assoc]
  exact⟨_,rfl⟩
theorem afS{h:Hz}{i:Nat}{c:List Int}{Z:Nat->Prop}(hz:Z i)(q:h.get i=some (jm c)):T.sub Z h.ay (V.row 0 false (.ints c)).aH (V.own i).aH:=AY hz q
theorem Y7{Z:Nat->Prop}{h:Hz}{j:Nat}{L:List (List Int)}{c:List Int}(hz:Z j)(q:h.get j=some (jm c)):T.dH Z h.ay (iG (L++[c])).au.l (OV.row 24 0 (.bG L) [.own j]).au.l:=by
 have e1:(iG (L++[c])).au.l=L.map Go.Ab.ints++[Go.Ab.ints c]:=by simp[OV.au,Rw.aU,V.aU]
 have e2:(OV.row 24 0 (.bG L) [.own j]).au.l=L.map Go.Ab.ints++[T.own j]:=by simp[OV.au,Rw.aU,V.aU,V.aH]
 rw[e1,e2]
 exact xZ (dJ _) ⟨AY hz q,trivial⟩
theorem Y8{c:List Int}{N:Nat}(h: ∀ j,0<=c.getD j 0/\c.getD j 0+(N:Int)*2097152<=2^40)(k:Nat)(x:Int)(i:Nat){n:Nat}(hn:n<=2097152)(hi:i<=n)(hk:N=k+1)(j:Nat):0<=(aT c x i).getD j 0/\(aT c x i).getD j 0+(k:Int)*2097152<=2^40:=by
 have hj:=h j
 have hx:=h x.toNat
 subst hk
 unfold aT
 rw[List.getD_eq_getElem?_getD,List.getElem?_set]
 rw[List.getD_eq_getElem?_getD] at hj
 split
 ·split
  ·simp only[Option.getD_some]; omega
  ·simp only[Option.getD_none]; omega
 ·omega
set_option maxHeartbeats 2000000 in
theorem S.shared: ∀ (ps:List Int) (L:List (List Int)) (c:List Int) (n m:Nat) (f g:Bool),ps≠[]->qy c.length ps->(∀ j,0<=c.getD j 0/\c.getD j 0+ps.length*2097152<=2^40)->ps.length<2^18->n<=2097152->c.length<2^20->L.length<=m->m<=2^20 ->
  aQ Tryz.prog 140 (V.aU [.own 0,.row 0 f (.ints c),.row 0 g (.ints ps),.int n,.int m]) (Hz.ay [(0,some (iG L))]) 1 (fun t hp=>(m<=L.length/\t= .own 0/\hp=Hz.ay [(0,some (iG L))])\/(L.length<m/\t= .own 1/\hp=Hz.ay [(1,some (iG (pR m L (AO c ps n))))])):=by
 intro ps
 induction ps with
 |nil=>intro L c n m f g h; exact absurd rfl h
 |cons x r ih =>
  intro L c n m f g _ hp hc hpl hn hcl hL hm
  by_cases hfull:m<=L.length
  ·refine oI.of (h0:=[(0,some (iG L))]) (nx:=1) Bd.Ai (by simp) ⟨_,_,.inl ⟨hfull,rfl,rfl⟩⟩ rfl rfl ?_
   refine Fork.mk (fun _=>?_) (fun q=>absurd (q.symm.trans (decide_eq_true (by omega))) Bool.false_ne_true)
   exact iO.one (c:=0) (j:=0) (o:=iG L) (t:=.own 0) rfl rfl rfl (fun _=>rfl) (.inl rfl) rfl (.eq rfl) (.inl ⟨hfull,rfl,rfl⟩)
  have hlt:L.length<m:=by omega
  have hx:=hp x (by simp)
  have hcx:=hc x.toNat
  refine oI.of (h0:=[(0,some (iG L))]) (nx:=1) Bd.Ai (by simp) ⟨_,_,.inr ⟨hlt,rfl,rfl⟩⟩ rfl rfl ?_
  rw[List.length_cons] at hcx hpl
  refine Fork.mk (fun q=>absurd (q.symm.trans (decide_eq_false (by omega))).symm Bool.false_ne_true) (fun _=>?_)
  conv=>whnf
  cases r with
  |nil =>
   have hS:pR m L (AO c [x] n)=L++[aT c x n]:=by
    unfold pR
    simp only[AO]
    rw[List.take_of_length_le (by rw[List.length_append]; simp; omega)]
   refine Fork.mk (fun _=>?_) (fun q=>absurd (q.symm.trans (rfl)) Bool.false_ne_true)
   repeat(refine VC.mk (by first|(simp only[kH,kQ,Rw.len]; omega)|(simp only[okI,Rw.rng] at *; first|omega|(simp_all; done)|(simp_all; omega))) ?_)
   refine .mk (by first|(simp only[Rw.rng]; omega)|(simp only[okI]; omega)|(simp only[kH,kQ,Rw.len]; omega)|(show(L.length+(0+1))*24<=140737488355328/\L.length+(0+1)<=1152921504606846976; omega)) ?_
   exact iO.ahM (c:=1) (j:=26) (o:=iG (L++[aT c x n])) (o':=OV.row 24 0 (.bG L) [.own 11]) rfl rfl rfl (Y7 (Z:=fun i=>i≠26) (by decide) rfl) rfl rfl nofun (.inr rfl) (.inr ⟨hlt,rfl,by rw[hS]⟩)
  |cons y r =>
   refine Fork.mk (fun q=>absurd (q.symm.trans (beq_eq_false_iff_ne.2 (by simp only[List.length_cons]; omega))).symm Bool.false_ne_true) (fun _=>?_)
   refine aC.objs 6 [1,2,3,4] (fun i:Nat=>[(12,.int i),(0,.own 5)]) (fun i=>[(5,iG (pR m L (GR c x (y::r) n i)))]) (fun i=>i<=n+1) (fun i=>n+1-i) 0 [0] rfl (by decide) (fun _=>rfl) (Nat.zero_le _) ?_ ?_ ?_
   ·exact(sR rfl)
   ·exact⟨⟨rfl,nofun,rfl,rfl,rfl,_,rfl,rfl,rfl,dR.of_eq (by rw[show GR c x (y::r) n 0=[] from rfl,abK hL])⟩,trivial⟩
   refine⟨(sR rfl),rfl,?_⟩
   rintro i hi
   have hcu:(pR m L (GR c x (y::r) n i)).length<=m:=TD
   repeat(refine VC.mk (by first|exact id|exact fun h=>⟨h,h⟩) ?_)
   refine⟨fun h1=>?_,fun h1=>?_⟩
   ·rw[Bool.and_eq_true,decide_eq_true_eq,decide_eq_true_eq] at h1
    obtain⟨h1,h2⟩:=h1
    repeat(refine VC.mk (by first|(first|(simp only[Rw.rng]; omega)|(simp only[okI]; omega)|(simp only[Rw.qY,List.length_cons]; omega))|(simp only[kH,kQ,Rw.len]; omega)|(simp only[okI,Rw.rng] at *; first|omega|(simp_all; done)|(simp_all; omega))) ?_)
    rw[show((n:Int)-(i:Int))=((n-i:Nat):Int) by omega]
    have hcc:=Y8 hc (y::r).length x i hn (by omega) (by simp)
    refine ah.ahL (args':=[.own 5,.row 0 false (.ints (aT c x i)),.row 0 g (.ints (y::r)),.int (n-i:Nat),.int m]) (h2:=[(5,some (iG (pR m L (GR c x (y::r) n i))))]) (fun j=>j≠5) ⟨iW (Z:=fun j=>j≠5) (i:=5) rfl (fun q=>q rfl),trivial⟩ ⟨aG _,afS (i:=17) (by decide) rfl,aG _,aG _,aG _,trivial⟩ ?_
    refine ah.O5 (i:=5) (ts:=[.own 0,.row 0 false (.ints (aT c x i)),.row 0 g (.ints (y::r)),.int (n-i:Nat),.int m]) (ih (pR m L (GR c x (y::r) n i)) (aT c x i) (n-i) m false g (by simp) (by rw[yQ]; exact fun q hq=>hp q (.tail _ hq)) hcc (by omega) (by omega) (by rw[yQ]; exact hcl) (by omega) hm) rfl rfl rfl rfl rfl rfl ?_
    rintro t hp' (⟨g1,rfl,rfl⟩|⟨g1,rfl,rfl⟩)
    ·omega
    refine .inr ⟨.own 37,_,rfl,rfl,rfl,?_⟩
    rw[Iy,<- OU]
    refine .mk (by first|(simp only[okI]; omega)|omega) ?_
    exact⟨i+1,[37],by omega,by omega,(sR rfl),(sR rfl),fC rfl rfl,trivial⟩
   ·have hS:pR m L (GR c x (y::r) n i)=pR m L (AO c (x::y::r) n):=by
     by_cases h2:i=n+1
     ·subst h2; rfl
     ·have h3:m<=(pR m L (GR c x (y::r) n i)).length:=by
       rcases Nat.lt_or_ge (pR m L (GR c x (y::r) n i)).length m with h4|h4
       ·rw[Bool.and_eq_false_iff,decide_eq_false_iff_not,decide_eq_false_iff_not] at h1
        omega
       ·exact h4
      obtain⟨b,hb⟩:=Y6 (c:=c) (x:=x) (r:=y::r) (n:=n) (i:=i) (j:=n+1) hi
      show _=pR m L (GR c x (y::r) n (n+1))
      rw[hb,<- Iy]
      unfold pR at h3 ⊢
      rw[List.take_append_of_le_length h3,List.take_take,Nat.min_self]
    rw[hS]
    exact iO.one (c:=1) (j:=5) (o:=iG (pR m L (AO c (x::y::r) n))) (t:=.own 1) rfl rfl rfl nofun (.inr rfl) rfl (.eq rfl) (.inr ⟨hlt,rfl,rfl⟩)
def Jt(m:Nat)(O:List (List Int))(fr:List Int)(n i:Nat):List (List Int):=pR m [] ((O.take i).flatMap fun c=>AO c fr n)
theorem Y9{m:Nat}{O:List (List Int)}{fr:List Int}{n i:Nat}(hi:i<O.length):pR m (Jt m O fr n i) (AO (O.getD i []) fr n)=Jt m O fr n (i+1):=by
 unfold Jt
 rw[Iy,List.take_succ_eq_append_getElem hi,List.flatMap_append,getD_some hi]
 simp
theorem Za{m:Nat}{O:List (List Int)}{fr:List Int}{n i:Nat}(h:m<=(Jt m O fr n i).length):Jt m O fr n i=pR m [] (O.flatMap fun c=>AO c fr n):=by
 conv=>rhs; rw[<- List.take_append_drop i O,List.flatMap_append]
 exact(Y5 h).symm
set_option maxHeartbeats 2000000 in
theorem S.xJ(O:List (List Int))(fr:List Int)(n m N:Nat)(f g:Bool)(hf:fr≠[])(hp:qy N fr)(hO: ∀ c∈O,c.length=N/\ ∀ j,0<=c.getD j 0/\c.getD j 0+fr.length*2097152<=2^40)(hfl:fr.length<2^18)(hn:n<=2097152)(hN:N<2^20)(hm:m<=2^20)(hOl:O.length<2^40) :
  aj Tryz.prog 123 [.row 0 f (.bG O),.row 0 g (.ints fr),.int n,.int m] (.row 0 false (.bG (pR m [] (O.flatMap fun c=>AO c fr n)))):=by
 refine aj.of Bd.xJ (by simp) rfl rfl ?_
 refine aC.nil 9 24 0 (by rfl) rfl rfl rfl ?_
 refine aC.objs 6 [0,1,2,3] (fun i:Nat=>[(10,.int i),(9,.own 5)]) (fun i=>[(5,iG (Jt m O fr n i))]) (fun i=>i<=O.length) (fun i=>O.length-i) 0 [3] rfl (by decide) (fun _=>rfl) (Nat.zero_le _) ?_ ?_ ?_
 ·exact(sR rfl)
 ·exact⟨⟨rfl,nofun,rfl,rfl,rfl,_,rfl,rfl,rfl,dR.of_eq (by unfold Jt pR; simp; rfl)⟩,trivial⟩
 refine⟨(sR rfl),rfl,?_⟩
 rintro i hi
 have hcu:(Jt m O fr n i).length<=m:=TD
 repeat(refine VC.mk (by first|exact id|exact fun h=>⟨h,h⟩) ?_)
 refine⟨fun h1=>?_,fun h1=>?_⟩
 ·rw[Bool.and_eq_true,decide_eq_true_eq,decide_eq_true_eq] at h1
  obtain⟨h1,h2⟩:=h1
  have hi':i<O.length:=by omega
  obtain⟨hc1,hc2⟩:=hO (O.getD i []) (by rw[getD_some hi']; exact List.getElem_mem hi')
  refine .mk (by first|(simp only[Rw.rng]; omega)|(simp only[okI]; omega)) ?_
  refine ah.O5 (i:=5) (ts:=[.own 0,.row 0 false (.ints (O.getD i [])),.row 0 g (.ints fr),.int n,.int m]) (S.shared fr (Jt m O fr n i) (O.getD i []) n m false g hf (by rw[hc1]; exact hp) hc2 hfl hn (by omega) (by omega) hm) rfl rfl rfl rfl rfl rfl ?_
  rintro t hp' (⟨g1,rfl,rfl⟩|⟨g1,rfl,rfl⟩)
  ·omega
  refine .inr ⟨.own 24,_,rfl,rfl,rfl,?_⟩
  rw[Y9 hi']
  refine .mk (by first|(simp only[okI]; omega)|omega) ?_
  exact⟨i+1,[24],by omega,by omega,(sR rfl),(sR rfl),fC rfl rfl,trivial⟩
 ·have hS:Jt m O fr n i=pR m [] (O.flatMap fun c=>AO c fr n):=by
   by_cases h2:i=O.length
   ·subst h2; unfold Jt; rw[List.take_length]
   ·refine Za ?_
    rcases Nat.lt_or_ge (Jt m O fr n i).length m with h4|h4
    ·rw[Bool.and_eq_false_iff,decide_eq_false_iff_not,decide_eq_false_iff_not] at h1
     omega
    ·exact h4
  rw[hS]
  exact ak.ael rfl
def GU(f:Nat->Int)(n i:Nat):List Int:=(List.range i).map f++List.replicate (n-i) 0
theorem Zb{f:Nat->Int}{n i:Nat}(h:i<=n):(GU f n i).length=n:=by simp[GU]; omega
theorem Zc{f:Nat->Int}{n i:Nat}(h:i<n):(GU f n i).set i (f i)=GU f n (i+1):=by
 unfold GU
 rw[show n-i=(n-(i+1))+1 by omega,List.replicate_succ,List.set_append_right _ _ (by simp),List.range_succ,List.map_append]
 simp
theorem Zd{f:Nat->Int}{n:Nat}:GU f n n=(List.range n).map f:=by simp[GU]
def Xc(r:Rule)(c:List Int)(x:Nat):Int:=max (Ci r x) (c.getD x 0-Jf r x+Ci r x)
theorem Ze{r:Rule}{c:List Int}:GU (Xc r c) c.length c.length=jT r c:=Zd
theorem aeE{a b:Int}:(if a=b then(1:Int) else 0)=bif a==b then 1 else 0:=by
 by_cases h:a=b
 ·rw[if_pos h,beq_iff_eq.2 h]; rfl
 ·rw[if_neg h,beq_eq_false_iff_ne.2 h]; rfl
theorem abL{a b c d:Int}:(if a=b/\c=d then(1:Int) else 0)=bif a==b&&c==d then 1 else 0:=by
 by_cases h:a=b
 ·by_cases k:c=d
  ·rw[if_pos ⟨h,k⟩,beq_iff_eq.2 h,beq_iff_eq.2 k]; rfl
  ·rw[if_neg fun q=>k q.2,beq_iff_eq.2 h,beq_eq_false_iff_ne.2 k]; rfl
 ·rw[if_neg fun q=>h q.1,beq_eq_false_iff_ne.2 h]; rfl
theorem Zf{r:Rule}{x:Nat}:Ci r x=(bif (x:Int)==r.fr then 1 else 0)+(bif r.kind==2&&(x:Int)==r.iV then 1 else 0):=by
 unfold Ci; rw[aeE,abL]
theorem Zg{r:Rule}{x:Nat}:Jf r x=(bif (x:Int)==r.to then 1 else 0)+(bif r.kind==2&&(x:Int)==r.zI then 1 else 0):=by
 unfold Jf; rw[aeE,abL]
set_option maxHeartbeats 2000000 in
theorem S.zA(r:Rule)(c:List Int)(f:Bool)(hc: ∀ j,0<=c.getD j 0/\c.getD j 0<=2^40)(hl:c.length<2^20)(hl0:0<c.length):aj Tryz.prog 87 [.dat (.rule r),.row 0 f (.ints c)] (.row 0 false (.ints (jT r c))):=by
 refine aj.of Bd.zA (by simp) rfl rfl ?_
 conv=>whnf
 rw[E9 hl0]
 refine .mk (by omega) ?_
 refine aC.objs 2 [1,2] (fun q:Nat=>[(6,.int q),(5,.own 1)]) (fun q=>[(0,vg r),(1,jm (GU (Xc r c) c.length q))]) (fun q=>q<=c.length) (fun q=>c.length-q) 0 [0,4] rfl (by decide) (fun _=>rfl) (Nat.zero_le _) ?_ ?_ ?_
 ·exact(sR rfl)
 ·exact⟨fC rfl rfl,fC rfl rfl,trivial⟩
 refine⟨(sR rfl),rfl,?_⟩
 rintro q hq
 have hfl:=Zb (f:=Xc r c) hq
 refine⟨fun h1=>?_,fun h1=>?_⟩
 ·have hq':q<c.length:=by simpa using h1
  have hcq:=hc q
  have hb: ∀ l g:Int,l=Ci r q->g=Jf r q->max l (c.getD q 0-g+l)=Xc r c q:=by rintro _ _ rfl rfl; rfl
  refine⟨fun a1=>?_,fun a1=>?_⟩
  all_goals
   repeat(refine VC.mk (by first|(simp only[Rw.rng,Int.toNat_natCast]; omega)|(simp only[okI]; omega)|exact fun h=>h|exact fun h=>⟨h,h⟩|(intro h; simp[h]; done)) ?_)
   refine⟨fun a2=>?_,fun a2=>?_⟩
  all_goals
   repeat(refine VC.mk (by first|(simp only[Rw.rng,Int.toNat_natCast]; omega)|(simp only[okI]; omega)|exact fun h=>h|exact fun h=>⟨h,h⟩|(intro h; simp[h]; done)) ?_)
   refine⟨fun a3=>?_,fun a3=>?_⟩
  all_goals
   repeat(refine VC.mk (by first|(simp only[Rw.rng,Int.toNat_natCast]; omega)|(simp only[okI]; omega)|exact fun h=>h|exact fun h=>⟨h,h⟩|(intro h; simp[h]; done)) ?_)
   refine⟨fun a4=>?_,fun a4=>?_⟩
  all_goals
   repeat(refine VC.mk (by first|(simp only[Rw.rng,Int.toNat_natCast]; omega)|(simp only[okI,Int.toNat_natCast]; omega)|exact fun h=>h|exact fun h=>⟨h,h⟩|(intro h; simp[h]; done)) ?_)
   refine⟨q+1,[0,1],hq',by omega,(sR rfl),(sR rfl),fC rfl rfl,⟨rfl,nofun,rfl,rfl,rfl,_,rfl,rfl,rfl,dR.of_eq ?_⟩,trivial⟩
   rw[<- Zc hq',<- hb _ _ (by rw[Zf,a1,a3]) (by rw[Zg,a2,a4])]
   rfl
 ·have hq':q=c.length:=by
   have: ¬ q<c.length:=by simpa using h1
   omega
  rw[hq',Ze]
  exact ak.acr rfl
theorem Xd{h:Hz}{j:Nat}{Z:Nat->Prop}{o:OV}{l:List (List Int)}(hz:Z j)(q:h.get j=some o)(e:o.au=(iG l).au):T.sub Z h.ay (V.row 0 false (.bG l)).aH (V.own j).aH:=by
 show T.sub Z h.ay (.sl 0 false (l.map Go.Ab.ints)) (.own j)
 simp only[T.sub]
 refine⟨trivial,hz,ND l,by decide,24,?_⟩
 have:=aK q; rw[e] at this; simpa [OV.au,Rw.aU,V.aU] using this
theorem ak.afT{h:Hz}{j:Nat}{o:OV}{l:List (List Int)}(q:h.get j=some o)(e:o.au=(iG l).au):ak (.row 0 false (.bG l)) (.own j) h:=⟨Xd trivial q e⟩
theorem Zh{r:Rule}{c:List Int}(ha:r.all=[])(hc: ∀ i,0<=c.getD i 0)(hx:qy c.length r.ex):qA r c=(((r.ex.length:Int)==0)||IV c r.ex):=by
 have h1:AX r.all c c.length=false:=by
  unfold AX
  rw[ha,List.any_eq_false]
  intro j _; simp
 have h2:=found_eq hc hx
 unfold qA
 rw[h1,Bool.not_false,Bool.true_and,<- Bool.not_not (wE r.ex c c.length),h2]
 cases r.ex with
 |nil=>rfl
 |cons x l =>
  have h3:(((x::l).length:Int)==0)=false:=beq_eq_false_iff_ne.2 (by simp only[List.length_cons]; omega)
  have h4:decide (0<((x::l).length:Int))=true:=decide_eq_true (by simp only[List.length_cons]; omega)
  rw[h3,h4]; simp
theorem TF{c:List Int}{i:Int}(h:i.toNat<c.length):Nr (aT c i 1) i=c:=by
 unfold Nr aT
 have e:(c.set i.toNat (c.getD i.toNat 0+1)).getD i.toNat 0=c.getD i.toNat 0+1:=by rw[getD_some (by simpa using h),List.getElem_set_self]
 rw[e,List.set_set,show c.getD i.toNat 0+1-1=c[i.toNat] by rw[getD_some h]; omega,List.set_getElem_self]
set_option maxHeartbeats 2000000 in
theorem S.zB(r:Rule)(c:List Int)(f:Bool)(h0:Nq c)(hp:oC c.length r)(hk:r.kind=1)(ha:r.all=[])(hxl:r.ex.length<=100)(hcl:c.length<2^20):aj Tryz.prog 86 [.dat (.rule r),.row 0 f (.ints c)] (.row 0 false (.bG (cntF r c))):=by
 have hpos: ∀ i,0<=c.getD i 0:=fun i=>(jv h0 i).1
 have hb:=EJ hp hpos (by omega)
 refine aj.of Bd.zB (by simp) rfl rfl ?_
 have hBl:(jT r c).length=c.length:=Cj
 have hB1:Nr (jT r c) r.fr=cZ c r.to:=by rw[hb,TF (by rw[dN]; have:=hp.src; omega)]
 have hBv:=jv h0 r.fr.toNat
 have hsr:=hp.src
 have hal:=Zh (c:=cZ c r.to) ha (Ce hpos) (by rw[dN]; exact hp.exs)
 have hB2: ∀ j,0<=(jT r c).getD j 0/\(jT r c).getD j 0<=1048577:=fun j=>by
  rw[hb]
  have hd: ∀ j,0<=(cZ c r.to).getD j 0/\(cZ c r.to).getD j 0<=1048576:=fun j=>⟨Ce hpos j,by
   have:=jv h0 j
   have:=jv h0 r.to.toNat
   unfold cZ
   rw[List.getD_eq_getElem?_getD,List.getElem?_set]
   rw[List.getD_eq_getElem?_getD] at *
   split
   ·split
    ·simp only[Option.getD_some]; omega
    ·simp only[Option.getD_none]; omega
   ·omega⟩
  exact Gx (M:=1) (B:=1048576) hd (by decide) j
 have hB3:=hB2 r.fr.toNat
 refine ah.pure (S.zA r c f (fun j=>by have:=jv h0 j; omega) hcl (by omega)) rfl ?_
 repeat(refine VC.mk (by first|(first|(simp only[Rw.rng]; omega)|(simp only[okI]; omega))|exact fun h=>h|exact fun h=>⟨h,h⟩|(simp only[kH,kQ,Rw.len]; omega)) ?_)
 refine ah.aen (fun _=>S.AV (Nr (jT r c) r.fr) r.ex false false (by rw[hB1,dN]; omega) (by omega) (by rw[hB1,dN]; exact hp.exs)) (fun _=>And.intro (AY trivial rfl) (And.intro (aG _) trivial)) rfl rfl ?_
 refine .mk (by cases ((r.ex.length:Int)==0)<;>simp) ?_
 refine⟨fun h2=>?_,fun h2=>?_⟩
 ·replace h2:(((r.ex.length:Int)==0)||IV (Nr (jT r c) r.fr) r.ex)=true:=h2
  rw[hB1,<- hal] at h2
  have hres:cntF r c=[jT r c]:=by unfold cntF; rw[hk,h2]; rfl
  rw[hres]
  exact ak.afT rfl rfl
 ·replace h2:(((r.ex.length:Int)==0)||IV (Nr (jT r c) r.fr) r.ex)=false:=h2
  rw[hB1,<- hal] at h2
  have hres:cntF r c=r.ex.map fun x=>aT (jT r c) x 1:=by unfold cntF; rw[hk,h2]; rfl
  rw[hres]
  refine aC.nil 7 24 0 (by rfl) rfl rfl rfl ?_
  refine aC.VO 2 [2,5] (fun i:Nat=>[(8,.int i),(7,.own 1)]) (fun i=>[(0,vg r),(1,iG (CB r (jT r c) i))]) (fun i=>i<=r.ex.length) (fun i=>r.ex.length-i) 0 [0,30] [(0,some (vg r)),(30,some (iG []))] rfl (by decide) (fun _=>rfl) (Nat.zero_le _) ?_ ⟨fun _=>False,iW (Z:=fun _=>False) (i:=0) (o:=vg r) rfl (fun q=>q),⟨_,rfl,(fun q=>q),rfl,rfl,dJ _,rfl,rfl⟩,trivial⟩ ?_ ?_
  ·exact(sR rfl)
  ·exact⟨MO rfl rfl,MO rfl rfl,trivial⟩
  refine⟨(sR rfl),rfl,?_⟩
  rintro i hi
  have hw:=LV (r:=r) (c:=jT r c) hi
  refine⟨fun h3=>?_,fun h3=>?_⟩
  ·have hi':i<r.ex.length:=by simpa using h3
   have hst:=OD (r:=r) (c:=jT r c) hi'
   have hpl:=hp.exs (r.ex.getD i 0) (by rw[getD_some hi']; exact List.getElem_mem hi')
   have hv:=hB2 (r.ex.getD i 0).toNat
   repeat(refine VC.mk (by first|(first|(simp only[Rw.rng,Int.toNat_natCast]; omega)|(simp only[okI,Int.toNat_natCast]; omega)|(show((CB r (jT r c) i).length+(0+1))*24<=140737488355328/\(CB r (jT r c) i).length+(0+1)<=1152921504606846976; omega))|(simp only[kH,kQ,Rw.len]; omega)) ?_)
   refine⟨[(0,some (vg r)),(25,some (iG (CB r (jT r c) i++[aT (jT r c) (r.ex.getD i 0) 1])))],i+1,[0,25],⟨fun i=>i=9,iW (Z:=fun i=>i=9) (i:=0) (o:=vg r) rfl (by decide),NG (Z:=fun i=>i=9) (i:=25) (j:=9) rfl rfl (by decide) rfl rfl,trivial⟩,by omega,by omega,(sR rfl),(sR rfl),MO rfl rfl,okF rfl nofun rfl rfl rfl ⟨rfl,rfl⟩ (by rw[hst]),trivial⟩
  ·have hi':i=r.ex.length:=by have:=of_decide_eq_false h3; omega
   have hall:CB r (jT r c) r.ex.length=r.ex.map fun x=>aT (jT r c) x 1:=by unfold CB; rw[List.take_length]
   rw[hi',hall]
   exact ak.ael rfl
theorem ad2{k:Nat}: ∀ {l:List V},(∀ v∈l,v.kd=some k)->Em k l=true:=by
 intro l
 induction l with
 |nil=>intro _; rfl
 |cons v r ih =>
  intro h
  have h1:=h v (by simp)
  have h2:=ih fun u hu=>h u (List.mem_cons_of_mem _ hu)
  simp only[Em,h1,h2]
  simp
theorem ad3{n:Nat}{l:List T}(h: ∀ t∈l,T.lt n t=true):T.NI n l=true:=by
 induction l with
 |nil=>rfl
 |cons t r ih=>simp only[T.NI,h t (by simp),ih fun u hu=>h u (List.mem_cons_of_mem _ hu),Bool.and_self]
theorem getD_none{α:Type}{l:List α}{i:Nat}{d:α}(h:l.length<=i):l.getD i d=d:=by
 simp[List.getD_eq_getElem?_getD,List.getElem?_eq_none h]
theorem abM{α:Type}{f:Nat->α}{n i:Nat}{d:α}(h:i<n):((List.range n).map f).getD i d=f i:=by
 simp[h]
theorem TG{α:Type}{l l':List α}(d:α)(h:l.length=l'.length)(H: ∀ i,i<l.length->l.getD i d=l'.getD i d):l=l':=by
 apply List.ext_getElem h
 intro i h1 h2
 have:=H i h1
 rw[getD_some h1,getD_some h2] at this
 exact this
theorem abN{ty nx:Nat}{l:List V}(h1: ∀ v∈l,v.kd=some 0)(h2: ∀ v∈l,T.lt nx v.aH=true):(OV.gen ty 0 l).good nx=true:=by
 simp only[OV.good,ad2 h1,Bool.and_eq_true,Bool.true_and]
 refine⟨ad3 fun t ht=>?_,rfl⟩
 rw[fD,List.mem_map] at ht
 obtain⟨v,hv,rfl⟩:=ht
 exact h2 v hv
theorem abO{n:Nat}(h:0<n):(bif isZero (.int n) then some Rw.nil else ZA (n:Int).toNat .nil)=none:=by
 cases n with
 |zero=>omega
 |succ n=>rfl
def fO:List Int->Option OV
 |[]=>none
 |x::r=>some (jm (x::r))
abbrev fI(R:List (List Int)):List (Option OV):=R.map fO
def Xe(B:Nat)(R:List (List Int))(j:Nat):V:=match R.getD j [] with
 |[]=>BN .nil
 |_::_=>.inn (B+j)
def outW(B:Nat)(R:List (List Int)):List V:=(List.range R.length).map (Xe B R)
abbrev ad4(B:Nat)(R:List (List Int)):OV:=.gen 24 0 (outW B R)
theorem nH{B:Nat}{R:List (List Int)}:(outW B R).length=R.length:=by simp[outW]
theorem zC{B j:Nat}{R:List (List Int)}(h:j<R.length):(outW B R)[j]? =some (Xe B R j):=by
 unfold outW; rw[List.getElem?_map,List.getElem?_range h]; rfl
theorem qR{B j:Nat}{R:List (List Int)}:(R.getD j []=[]/\Xe B R j=BN .nil)\/(R.getD j []≠[]/\Xe B R j= .inn (B+j)):=by
 unfold Xe
 cases R.getD j [] with
 |nil=>exact .inl ⟨rfl,rfl⟩
 |cons x r=>exact .inr ⟨(by simp),rfl⟩
theorem IK{B nx:Nat}{R:List (List Int)}(h:B+R.length<=nx):(ad4 B R).good nx=true:=by
 refine abN (fun v hv=>?_) fun v hv=>?_
 ·obtain⟨j,hj,rfl⟩:=List.mem_map.1 hv
  rcases qR (B:=B) (j:=j) (R:=R) with ⟨_,e⟩|⟨_,e⟩<;>rw[e]<;>rfl
 ·obtain⟨j,hj,rfl⟩:=List.mem_map.1 hv
  have:=List.mem_range.1 hj
  rcases qR (B:=B) (j:=j) (R:=R) with ⟨_,e⟩|⟨_,e⟩<;>rw[e]
  ·rfl
  ·show Nat.blt (B+j) nx=true
   exact Nat.blt_eq.mpr (by omega)
theorem TI{B i N:Nat}{R:List (List Int)}{c:List Int}{f:Nat->Nat}(hi:i<R.length)(hc:c≠[]):dR (T.bK (lM B (fun j=>if j=i then N else B+j) f) (ad4 B (R.set i c)).au.l) (OV.gen 24 0 ((outW B R).set i (.own N))).au.l:=by
 refine dR.of_eq ?_
 show T.bK _ (V.aU (outW B (R.set i c)))=V.aU ((outW B R).set i (.own N))
 rw[zo,fD,fD,List.map_map]
 have hl:(outW B (R.set i c)).length=R.length:=by rw[nH,List.length_set]
 apply List.ext_getElem
 ·simp[hl,nH]
 ·intro j h1 h2
  have hj:j<R.length:=by simpa [hl] using h1
  have e1:(outW B (R.set i c))[j]'(by rw[hl]; exact hj)=Xe B (R.set i c) j:=by
   have:=zC (B:=B) (R:=R.set i c) (j:=j) (by rw[List.length_set]; exact hj)
   rw[List.getElem?_eq_getElem (by rw[hl]; exact hj),Option.some.injEq] at this
   exact this
  simp only[List.getElem_map,Function.comp,e1]
  by_cases hji:j=i
  ·subst hji
   have e2:((outW B R).set j (V.own N))[j]'(by rw[List.length_set,nH]; exact hj)=V.own N:=List.getElem_set_self ..
   rw[e2]
   have e3:(R.set j c).getD j []=c:=by rw[getD_some (by simpa using hi),List.getElem_set_self]
   rcases qR (B:=B) (j:=j) (R:=R.set j c) with ⟨q,_⟩|⟨_,e⟩
   ·rw[e3] at q; exact absurd q hc
   ·rw[e]
    show T.own (lM B _ f (B+j))=T.own N
    rw[sF,if_pos rfl]
  ·have e2:((outW B R).set i (V.own N))[j]'(by rw[List.length_set,nH]; exact hj)=Xe B R j:=by
    rw[List.getElem_set_ne (Ne.symm hji)]
    have:=zC (B:=B) (R:=R) (j:=j) hj
    rw[List.getElem?_eq_getElem (by rw[nH]; exact hj),Option.some.injEq] at this
    exact this
   rw[e2]
   have e3:(R.set i c).getD j []=R.getD j []:=by rw[List.getD_eq_getElem?_getD,List.getElem?_set_ne (Ne.symm hji),<- List.getD_eq_getElem?_getD]
   have e4:Xe B (R.set i c) j=Xe B R j:=by unfold Xe; rw[e3]
   rw[e4]
   rcases qR (B:=B) (j:=j) (R:=R) with ⟨_,e⟩|⟨_,e⟩<;>rw[e]
   ·rfl
   ·show T.own (lM B _ f (B+j))=T.own (B+j)
    rw[sF,if_neg hji]
theorem Xf{R:List (List Int)}{nx:Nat}: ∀ o,some o∈fI R->o.good nx=true/\o.CV=true:=by
 intro o h
 obtain⟨r,_,e⟩:=List.mem_map.1 h
 cases r with
 |nil=>cases e
 |cons x r=>cases e; exact⟨rfl,rfl⟩
theorem EP{R:List (List Int)}:(fI R).length=R.length:=List.length_map _
theorem VB{R:List (List Int)}{j:Nat}(h:R.getD j []≠[]):(fI R)[j]? =some (some (jm (R.getD j []))):=by
 have hj:j<R.length:=by
  rcases Nat.lt_or_ge j R.length with q|q
  ·exact q
  ·exact absurd (getD_none q) h
 rw[List.getElem?_map,List.getElem?_eq_getElem hj]
 rw[getD_some hj] at h ⊢
 cases hr:R[j] with
 |nil=>exact absurd hr h
 |cons x r=>rfl
theorem abP{R:List (List Int)}{i:Nat}{c:List Int}: ∀ j o,j≠i->(fI (R.set i c))[j]? =some (some o)->(fI R)[j]? =some (some o):=by
 intro j o hj q
 rw[List.getElem?_map,List.getElem?_set_ne (Ne.symm hj)] at q
 rw[List.getElem?_map]; exact q
theorem aeF{R:List (List Int)}{i:Nat}{c:List Int}{o:OV}(hi:i<R.length)(hc:c≠[])(q:(fI (R.set i c))[i]? =some (some o)):o=jm c:=by
 have e:(R.set i c).getD i []=c:=by rw[getD_some (by simpa using hi),List.getElem_set_self]
 rw[VB (by rw[e]; exact hc),e] at q
 cases q; rfl
theorem Zi{Z:Nat->Prop}{h:Hz}{i B:Nat}{R:List (List Int)}(hi:h.get i=some (ad4 B R))(hB: ¬ Z i)(hR: ∀ j,R.getD j []≠[]->Z (B+j)/\h.get (B+j)=some (jm (R.getD j []))) :
  ∃ o',h.get i=some o'/\ ¬ Z i/\o'.au.ty=(iG R).au.ty/\o'.au.k=(iG R).au.k/\T.dH Z h.ay (iG R).au.l o'.au.l/\(iG R).au.l.map T.kd=o'.au.l.map T.kd/\(iG R).au.l.map fZ=o'.au.l.map fZ:=by
 have hl:(OV.row 24 0 (.bG R) []).au.l=R.map Go.Ab.ints:=by simp[OV.au,Rw.aU,V.aU]
 have hel: ∀ j (hj:j<R.length),(outW B R)[j]'(by rw[nH]; exact hj)=Xe B R j:=fun j hj=>by
  have:=zC (B:=B) (R:=R) (j:=j) hj
  rw[List.getElem?_eq_getElem (by rw[nH]; exact hj),Option.some.injEq] at this
  exact this
 refine⟨_,hi,hB,rfl,rfl,?_,?_,?_⟩
 ·rw[hl]
  show T.dH _ _ _ (V.aU (outW B R))
  refine Gg (by rw[dI,nH,List.length_map]) fun j t u h1 h2=>?_
  have hj:j<R.length:=by have:=(List.getElem?_eq_some_iff.1 h1).1; simpa using this
  rw[fD,List.getElem?_map,zC hj] at h2
  rw[List.getElem?_map,List.getElem?_eq_getElem hj] at h1
  cases h1; cases h2
  have hRj:R.getD j []=R[j]:=getD_some hj
  rcases qR (B:=B) (j:=j) (R:=R) with ⟨q,e⟩|⟨q,e⟩
  ·rw[e]; rw[hRj] at q; rw[q]
   show T.sub _ _ (.sl 0 false []) (.sl 0 true [])
   simp[T.sub]
  ·rw[e]
   have:=aK (hR j q).2
   rw[hRj] at this
   simp only[V.aH,T.sub]
   refine⟨trivial,(hR j q).1,?_,by decide,3,?_⟩
   ·rw[fU]; intro t ht; obtain⟨x,_,rfl⟩:=List.mem_map.1 ht; rfl
   ·rw[this]; simp[OV.au,Rw.aU,V.aU]
 ·rw[hl]
  show _=List.map T.kd (V.aU (outW B R))
  rw[fD,List.map_map,List.map_map]
  apply List.ext_getElem
  ·simp[nH]
  ·intro j h1 h2
   have hj:j<R.length:=by simpa using h1
   simp only[List.getElem_map,Function.comp,hel j hj]
   rcases qR (B:=B) (j:=j) (R:=R) with ⟨_,e⟩|⟨_,e⟩<;>rw[e]<;>rfl
 ·rw[hl]
  show _=List.map fZ (V.aU (outW B R))
  rw[fD,List.map_map,List.map_map]
  apply List.ext_getElem
  ·simp[nH]
  ·intro j h1 h2
   have hj:j<R.length:=by simpa using h1
   simp only[List.getElem_map,Function.comp,hel j hj]
   rcases qR (B:=B) (j:=j) (R:=R) with ⟨_,e⟩|⟨_,e⟩<;>rw[e]<;>rfl
theorem Lu.fI{B:Nat}(C k:Nat){j:Nat}{R:List (List Int)}{h:Hz}{K:Rw->Hz->Prop}(e:h.drop k=iD B (fI R))(ho:BX B C (h.take k)=true)(hC:B+R.length<=C)(hj:R.getD j []≠[])
  (hK:K (.ints (R.getD j [])) (h.take k++iD B ((fI R).set j none))):Lu h (B+j) 3 0 K :=
 Lu.fam C (show Aa (h.take k) _ h from by rw[Aa,<- e,List.take_append_drop]) ho (by rw[EP]; exact hC) (VB hj) hK
theorem abQ{B n:Nat}:outW B (List.replicate n [])=List.replicate n (BN .nil):=by
 apply List.ext_getElem
 ·simp[nH]
 ·intro j h1 h2
  have hj:j<n:=by simpa using h2
  have:=zC (B:=B) (R:=List.replicate n []) (j:=j) (by simpa using hj)
  rw[List.getElem?_eq_getElem h1,Option.some.injEq] at this
  rw[this,List.getElem_replicate]
  unfold Xe
  rw[getD_some (by simpa using hj),List.getElem_replicate]
theorem abR{n j:Nat}{o:OV}:(fI (List.replicate n []))[j]? ≠some (some o):=by
 intro q
 rw[List.getElem?_map,Option.map_eq_some_iff] at q
 obtain⟨c,h1,h2⟩:=q
 have:=List.mem_of_getElem? h1
 rw[List.eq_of_mem_replicate this] at h2
 cases h2
def Dw(resp:List Int)(n i:Nat):List (List Int):=(List.range n).map fun t=>lU resp t i
theorem iU{resp:List Int}{n i:Nat}:(Dw resp n i).length=n:=by simp[Dw]
theorem Dx{resp:List Int}{n i t:Nat}(h:t<n):(Dw resp n i).getD t []=lU resp t i:=abM h
theorem MH{resp:List Int}{n:Nat}:Dw resp n 0=List.replicate n []:=by
 refine TG [] (by rw[iU]; simp) fun t ht=>?_
 rw[iU] at ht
 rw[Dx ht,getD_some (by simpa using ht),List.getElem_replicate]; rfl
theorem ad5{resp:List Int}{n i s:Nat}(hs:s<n)(h:resp.getD i 0=(s:Int)):Dw resp n (i+1)=(Dw resp n i).set s (lU resp s (i+1)):=by
 refine TG [] (by rw[iU,List.length_set,iU]) fun t ht=>?_
 rw[iU] at ht
 rw[Dx ht]
 by_cases e:t=s
 ·subst e
  rw[getD_some (by rw[List.length_set,iU]; exact ht),List.getElem_set_self]
 ·rw[List.getD_eq_getElem?_getD,List.getElem?_set_ne (Ne.symm e),<- List.getD_eq_getElem?_getD,Dx ht,xH,beq_eq_false_iff_ne.2 (by rw[h]; omega)]; rfl
theorem Zj{resp:List Int}{i s:Nat}(h:resp.getD i 0=(s:Int)):lU resp s (i+1)≠[]:=by
 rw[xH,beq_iff_eq.2 h]; simp
theorem OW{resp:List Int}{t:Nat}:MN resp (t:Int)= !(((iq resp t).length:Int)==0):=by
 cases h:MN resp (t:Int) with
 |true =>
  obtain⟨k,hk,he⟩:=List.getElem_of_mem (Jv.1 h)
  have:(iq resp t)≠[]:=List.ne_nil_of_mem (wu.2 ⟨k,hk,by simp[hk,he],rfl⟩)
  have h2:=List.length_pos_iff.2 this
  rw[beq_eq_false_iff_ne.2 (by omega)]; rfl
 |false =>
  have:iq resp t=[]:=by
   rw[List.eq_nil_iff_forall_not_mem]
   intro x hx
   obtain⟨k,hk,he,_⟩:=wu.1 hx
   have hm:MN resp (t:Int)=true:=Jv.2 (by rw[<- he,getD_some hk]; exact List.getElem_mem hk)
   rw[h] at hm; cases hm
  rw[this]; rfl
def vk(n:Nat)(i:Int):List (List Int):=[(List.replicate n 0).set i.toNat 1]
theorem Xg{n:Nat}{i:Int}:vk n i=[aT (List.replicate n 0) i 1]:=by
 have e:(List.replicate n (0:Int)).getD i.toNat 0=0:=by
  rcases Nat.lt_or_ge i.toNat n with h|h
  ·rw[getD_some (by simpa using h),List.getElem_replicate]
  ·exact getD_none (by simpa using h)
 unfold vk aT
 rw[e]; rfl
theorem abS{resp need:List Int}{i:Int}(h0:Nq need)(hn:need.length=resp.length)(hl:resp.length<=6){t:Nat}(ht:t<=6)(htn:t<=need.length): ∀ c∈lg resp need (vk need.length i) t,c.length=need.length/\ ∀ j,0<=c.getD j 0/\c.getD j 0<=40000000:=by
 intro c hc
 have e:lg resp need (vk need.length i) t=(lg resp need (nD need) t).map fun c=>aT c i 1:=by rw[Xg]; exact WQ (out:=nD need)
 rw[e] at hc
 obtain⟨d,hd,rfl⟩:=List.mem_map.1 hc
 have hpos: ∀ i,0<=need.getD i 0:=fun i=>(jv h0 i).1
 refine⟨?_,fun j=>?_⟩
 ·rw[yQ,Qn (b:=List.replicate need.length 0) (by simp[hn]) hn hpos htn d hd,hn]
 ·have hb:=Gx (i:=i) (d:=1) (M:=1) (B:=(t:Int)*6291456) (Qo h0 hl t d hd) (by decide) j
  omega
theorem ad6{nx d ty k b x s:Nat}{y:X}{m:Fm}(h:m.get x=some (.inn (10000+s))):F8 nx ⟨some d,.app ty k b (.t x) y,none,false,[1000001],false,false⟩ m=true:=by
 have e:Nat.ble 10000 (10000+s)=true:=Nat.ble_eq.mpr (by omega)
 show(true&&((match zH m (.t x) with|some v=>T.newer 10000 v.aH|none=>false)&&true))=true
 rw[show zH m (.t x)=some (.inn (10000+s)) from h]
 show(true&&(Nat.ble 10000 (10000+s)&&true))=true
 rw[e]; rfl
abbrev abT(r:Rule)(c:List Int)(R:List (List Int)):List (Nat×OV):=[(0,vg r),(4,jm (cZ c r.to)),(20,ad4 10000 R)]
set_option maxHeartbeats 2000000 in
theorem S.qp(r:Rule)(c:List Int)(f:Bool)(h0:Nq c)(hp:oC c.length r)(hk:r.kind=3)(hcl:c.length<=6):aj Tryz.prog 88 [.dat (.rule r),.row 0 f (.ints c)] (.row 0 false (.bG (Cm r c))):=by
 have hpos: ∀ i,0<=c.getD i 0:=fun i=>(jv h0 i).1
 obtain⟨hrl,hrp⟩:=hp.rsp hk
 have hds:=hp.dst
 have hsr:=hp.src
 have hcd:=jv h0 r.to.toNat
 have hml:(cZ c r.to).length=c.length:=dN
 refine aj.of Bd.qp (by simp) rfl rfl ?_
 repeat(refine VC.mk (by first|(first|(simp only[Rw.rng]; omega)|(simp only[okI]; omega))|(simp only[kH,kQ,Rw.len]; omega)) ?_; conv=>whnf)
 have hn0:0<c.length:=by omega
 rw[abO hn0]
 refine .mk (by omega) ?_
 refine aC.fam 20000 [1,2,5,6] (fun i:Nat=>[(7,.int i)]) (fun i=>xR (abT r c (Dw r.response c.length i))++iD 10000 (fI (Dw r.response c.length i))) (fun i=>i<=c.length) (fun i=>c.length-i) 0 (lM 10000 (fun j=>10000+j) (iK (abT r c (Dw r.response c.length 0)) [0,4,20])) _ rfl (by decide) (fun _=>rfl) (Nat.zero_le _) (sR rfl) (.inl rfl) ?_ ?_
 ·refine jR.fam (g:=fun j=>10000+j) (abT r c (Dw r.response c.length 0)) [0,4,20] ?_ rfl (Nat.zero_le _) (by rw[EP,iU]; omega) (fun j o q=>absurd (by rw[MH] at q; exact q) abR) (fun j _ o _ q=>absurd (by rw[MH] at q; exact q) abR)
  refine⟨MO rfl rfl,okF rfl nofun rfl rfl rfl ⟨rfl,rfl⟩ (by unfold cZ; rw[Int.max_comm]),okJ rfl (IK (by rw[iU]; omega)) rfl ⟨rfl,rfl⟩ ?_,trivial⟩
  rw[MH]
  refine dR.of_eq ?_
  show T.bK _ (V.aU (outW 10000 (List.replicate c.length [])))=V.aU (List.replicate c.length (BN .nil))
  rw[abQ,zo,fD,List.map_map,List.map_replicate,List.map_replicate]; rfl
 refine⟨(sR rfl),rfl,?_⟩
 rintro i hi
 have hRl:(Dw r.response c.length i).length=c.length:=iU
 have hwo:(outW 10000 (Dw r.response c.length i)).length=c.length:=by rw[nH,hRl]
 refine⟨fun h1=>?_,fun h1=>?_⟩
 ·have hi':i<c.length:=by simpa using h1
  have hq:=hrp (r.response.getD i 0) (by rw[getD_some (by omega)]; exact List.getElem_mem _)
  obtain⟨s,hs⟩: ∃ s:Nat,r.response.getD i 0=(s:Int):=⟨(r.response.getD i 0).toNat,by omega⟩
  have hsl:s<c.length:=by omega
  have hst:=ad5 (n:=c.length) hsl hs
  have hps:=Zj hs
  have hgi:(Dw r.response c.length i).getD s []=lU r.response s i:=Dx hsl
  have hln:lU r.response s (i+1)=lU r.response s i++[(i:Int)]:=by rw[xH,beq_iff_eq.2 hs]; rfl
  repeat(refine VC.mk (by first|(simp only[Rw.rng,Int.toNat_natCast,hs]; omega)|(simp only[Rw.rng,Int.toNat_natCast]; omega)) ?_; conv=>whnf)
  rw[show r.response.getD ((i:Int)).toNat 0=(s:Int) from hs]
  refine⟨_,zC (j:=s) (by omega),?_⟩
  rcases qR (B:=10000) (j:=s) (R:=Dw r.response c.length i) with ⟨q,e⟩|⟨q,e⟩
  ·rw[show Xe 10000 (Dw r.response c.length i) s=BN .nil from e]
   repeat(refine VC.mk (by first|(first|(show(0+(0+1))*8<=140737488355328/\0+(0+1)<=1152921504606846976; omega)|(simp only[Int.toNat_natCast]; omega))|(omega)|(simp only[okI] at *; omega)) ?_; conv=>whnf)
   refine qg.Vq 20000 (i+1) s 20020 (fI (Dw r.response c.length i)) (fI (Dw r.response c.length (i+1))) (abT r c (Dw r.response c.length (i+1))) [0,4,20] rfl hi' (by omega) ?_ rfl rfl rfl (Nat.zero_le _) (by rw[EP,iU]; omega) (by rw[EP,iU]; omega) (by decide) Xf ?_ (by rw[hst]; exact abP) (sR rfl) (sR rfl) ?_
   (repeat' (first|refine bU.lo rfl ?_|refine bU.hi rfl ?_|exact bU.nil))
   ·intro o ho
    rw[hst] at ho
    rw[aeF (by omega) hps ho]
    refine⟨_,rfl,?_⟩
    rw[hln,show lU r.response s i=[] by rw[<- hgi]; exact q]; rfl
   exact⟨MO rfl rfl,MO rfl rfl,okJ rfl (IK (by rw[iU]; omega)) rfl ⟨rfl,rfl⟩ (by rw[hst]; exact TI (by omega) hps),trivial⟩
  ·rw[show Xe 10000 (Dw r.response c.length i) s= .inn (10000+s) from e]
   have hlb:=zy (resp:=r.response) (t:=s) (i:=i)
   conv=>whnf
   rw[ad6 (s:=s)]
   rotate_left
   ·rfl
   refine Lu.fI (B:=10000) (R:=Dw r.response c.length i) 20000 3 rfl rfl (by rw[iU]; omega) q ?_
   rw[hgi]
   repeat(refine VC.mk (by first|(first|(show((lU r.response s i).length+(0+1))*8<=140737488355328/\(lU r.response s i).length+(0+1)<=1152921504606846976; omega)|(simp only[Int.toNat_natCast]; omega))|(omega)|(simp only[okI] at *; omega)) ?_; conv=>whnf)
   refine qg.Vq 20000 (i+1) s 20020 ((fI (Dw r.response c.length i)).set s none) (fI (Dw r.response c.length (i+1))) (abT r c (Dw r.response c.length (i+1))) [0,4,20] rfl hi' (by omega) ?_ rfl rfl rfl (Nat.zero_le _) (by rw[EP,iU]; omega) (by rw[List.length_set,EP,iU]; omega) (by decide) Xf ?_ (fun j o hj q=>by rw[hst] at q; rw[List.getElem?_set_ne (Ne.symm hj)]; exact abP j o hj q) (sR rfl) (sR rfl) ?_
   (repeat' (first|refine bU.lo rfl ?_|refine bU.hi rfl ?_|exact bU.nil))
   ·intro o ho
    rw[hst] at ho
    rw[aeF (by omega) hps ho]
    refine⟨_,rfl,?_⟩
    rw[hln]
   exact⟨MO rfl rfl,MO rfl rfl,okJ rfl (IK (by rw[iU]; omega)) rfl ⟨rfl,rfl⟩ (by rw[hst]; exact TI (by omega) hps),trivial⟩
 ·have hi':i=c.length:=by
   have: ¬ i<c.length:=by simpa using h1
   omega
  subst hi'
  conv=>whnf
  rw[E9 hn0]
  repeat(refine VC.mk (by first|omega|(simp only[Rw.rng,List.length_replicate]; omega)) ?_; conv=>whnf)
  have hall:Dw r.response c.length c.length=(List.range c.length).map (iq r.response):=by
   unfold Dw iq; rw[hrl]; rfl
  have hdc:Nq (cZ c r.to):=by
   intro x hx
   rcases List.mem_or_eq_of_mem_set hx with q|q
   ·exact h0 x q
   ·omega
  have hdp:=Ce (i:=r.to) hpos
  refine aC.VO 3 [1] (fun t:Nat=>[(10,.int t),(5,.own 0),(6,.own 1),(9,.own 2)]) (fun _=>[(0,jm (cZ c r.to)),(1,iG (Dw r.response c.length c.length)),(2,iG (vk c.length r.fr))]) (fun t=>t<=c.length/\EK r.response (cZ c r.to) t=false) (fun t=>c.length-t) 0 [4,20,20014] [(4,some (jm (cZ c r.to))),(20,some (iG (Dw r.response c.length c.length))),(20014,some (iG (vk c.length r.fr)))] rfl (by decide) (fun _=>rfl) ⟨Nat.zero_le _,rfl⟩ ?_ ?_ ?_ ?_
  ·exact(sR rfl)
  ·refine⟨fun j=>10000<=j/\j≠20014,iW (Z:=fun j=>10000<=j/\j≠20014) (i:=4) (o:=jm (cZ c r.to)) rfl (by decide),Zi (Z:=fun j=>10000<=j/\j≠20014) (B:=10000) rfl (by decide) (fun j hj=>⟨⟨by omega,?_⟩,?_⟩),NG (Z:=fun j=>10000<=j/\j≠20014) (i:=20014) (j:=20006) (l:=[]) rfl rfl (by decide) (by decide) rfl,trivial⟩
   ·have:j<(Dw r.response c.length c.length).length:=by
     rcases Nat.lt_or_ge j (Dw r.response c.length c.length).length with q|q
     ·exact q
     ·exact absurd (getD_none q) hj
    rw[iU] at this; omega
   ·refine bU.get (C:=20000) (L:=fI (Dw r.response c.length c.length)) ?_ (by rw[EP,iU]; omega) (VB hj)
    (repeat' (first|refine bU.lo rfl ?_|refine bU.hi rfl ?_|exact bU.nil))
  ·exact⟨MO rfl rfl,MO rfl rfl,MO rfl rfl,trivial⟩
  refine⟨(sR rfl),rfl,?_⟩
  rintro t ⟨ht,hs⟩
  refine⟨fun h2=>?_,fun h2=>?_⟩
  ·have ht':t<c.length:=by simpa using h2
   repeat(refine VC.mk (by first|(first|(simp only[Rw.rng,Int.toNat_natCast]; omega)|(simp only[Rw.rng,Int.toNat_natCast,iU]; omega))|exact fun h=>h|(intro h; (repeat' apply And.intro)<;>first|exact h|omega|(simp only[Rw.qY]; omega)|(simp only[Rw.rng]; omega))) ?_; conv=>whnf)
   have hfT:(Dw r.response c.length c.length).getD ((t:Int)).toNat []=iq r.response t:=by
    rw[Int.toNat_natCast,Dx ht']; unfold lU iq; rw[hrl]
   rw[hfT]
   refine⟨fun h3=>?_,fun h3=>?_⟩
   ·have hsy:lS r.response (cZ c r.to)=true:=by
     refine OG (i:=t) (by omega) ?_
     rw[OW,Bool.not_not]; exact h3
    have hres:Cm r c=[]:=by unfold Cm; rw[hk,hsy]; rfl
    rw[hres]
    exact ak.agb rfl
   ·have hsn:EK r.response (cZ c r.to) (t+1)=false:=by
     rw[Jg,hs,OW,Bool.not_not,Bool.false_or]; exact h3
    refine .mk (by first|(simp only[okI]; omega)|omega) ?_
    exact⟨[(0,some (jm (cZ c r.to))),(1,some (iG (Dw r.response c.length c.length))),(2,some (iG (vk c.length r.fr)))],t+1,[0,1,2],⟨fun _=>False,iW (Z:=fun _=>False) rfl (fun q=>q),iW (Z:=fun _=>False) rfl (fun q=>q),iW (Z:=fun _=>False) rfl (fun q=>q),trivial⟩,⟨ht',hsn⟩,by omega,(sR rfl),(sR rfl),MO rfl rfl,MO rfl rfl,MO rfl rfl,trivial⟩
  ·have ht':t=c.length:=by have:=of_decide_eq_false h2; omega
   subst ht'
   have hsy:lS r.response (cZ c r.to)=false:=by rw[<- LW,hml]; exact hs
   conv=>whnf
   have hres:Cm r c=DF 101 r.response (cZ c r.to) (vk c.length r.fr) c.length:=by unfold Cm; rw[hk,hsy,Xg]; rfl
   rw[hres]
   refine aC.fz 9 2 0 (.bG (vk c.length r.fr)) rfl rfl (ZK rfl rfl) ?_
   refine aC.objs 2 [1] (fun t:Nat=>[(11,.int t),(9,.row 0 false (.bG (DF 101 r.response (cZ c r.to) (vk c.length r.fr) t))),(5,.own 0),(6,.own 1)]) (fun _=>[(0,jm (cZ c r.to)),(1,iG (Dw r.response c.length c.length))]) (fun t=>t<=c.length) (fun t=>c.length-t) 0 [0,1] rfl (by decide) (fun _=>rfl) (Nat.zero_le _) ?_ ?_ ?_
   ·exact(sR rfl)
   ·exact⟨fC rfl rfl,fC rfl rfl,trivial⟩
   refine⟨(sR rfl),rfl,?_⟩
   rintro t ht
   refine⟨fun h4=>?_,fun h4=>?_⟩
   ·have ht':t<c.length:=by simpa using h4
    repeat(refine VC.mk (by first|(simp only[Rw.rng,Int.toNat_natCast]; omega)|(simp only[Rw.rng,Int.toNat_natCast,iU]; omega)) ?_; conv=>whnf)
    have hfT:(Dw r.response c.length c.length).getD ((t:Int)).toNat []=iq r.response t:=by
     rw[Int.toNat_natCast,Dx ht']; unfold lU iq; rw[hrl]
    obtain⟨nn,hnn⟩: ∃ nn:Nat,(cZ c r.to).getD t 0=(nn:Int):=⟨((cZ c r.to).getD t 0).toNat,by have:=hdp t; omega⟩
    have hnb:=jv hdc t
    rw[show(cZ c r.to).getD ((t:Int)).toNat 0=(nn:Int) from hnn]
    have hnext:=IB (m:=101) (resp:=r.response) (need:=cZ c r.to) (out:=vk c.length r.fr) (n:=t)
    refine⟨fun h5=>?_,fun h5=>?_⟩
    ·have hn1:0<nn:=by have:=of_decide_eq_true h5; omega
     have hst:=Ac hsy hdp
     have hO: ∀ d∈DF 101 r.response (cZ c r.to) (vk c.length r.fr) t,d.length=c.length/\ ∀ j,0<=d.getD j 0/\d.getD j 0+((iq r.response t).length:Int)*2097152<=2^40:=by
      intro d hd
      rw[JU (m:=101) (show(vk c.length r.fr).length<=101 from by unfold vk; simp) hst] at hd
      have hd2:=List.mem_of_mem_take hd
      rw[<- hml] at hd2
      obtain⟨b1,b2⟩:=abS hdc (by omega) (by omega) (t:=t) (by omega) (by omega) d hd2
      have hfl:(iq r.response t).length<=r.response.length:=zy
      exact⟨by omega,fun j=>by have:=b2 j; omega⟩
     have hlO:(DF 101 r.response (cZ c r.to) (vk c.length r.fr) t).length<=101:=by
      rw[JU (m:=101) (show(vk c.length r.fr).length<=101 from by unfold vk; simp) hst,List.length_take]; omega
     have hfl:(iq r.response t).length<=r.response.length:=zy
     have hfr:qy c.length (iq r.response t):=fun x hx=>by have:=OE (i:=r.response.length) x hx; omega
     have hres:pR 101 [] ((DF 101 r.response (cZ c r.to) (vk c.length r.fr) t).flatMap fun d=>AO d (iq r.response t) nn)=DF 101 r.response (cZ c r.to) (vk c.length r.fr) (t+1):=by
      rw[hnext]
      unfold xU
      rw[hnn,beq_eq_false_iff_ne.2 (by omega)]; rfl
     repeat(refine VC.mk (by first|(simp only[Rw.rng,Int.toNat_natCast]; omega)|(simp only[Rw.rng,Int.toNat_natCast,iU]; omega)) ?_; conv=>whnf)
     rw[hfT,show(cZ c r.to).getD ((t:Int)).toNat 0=(nn:Int) from hnn]
     refine ah.pure (S.xJ (DF 101 r.response (cZ c r.to) (vk c.length r.fr) t) (iq r.response t) nn 101 c.length false false (hst t (by omega)) hfr hO (by omega) (by omega) (by omega) (by decide) (by omega)) rfl ?_
     rw[hres]
     refine .mk (by first|(simp only[okI]; omega)|omega) ?_
     exact⟨t+1,[0,1],ht',by omega,(sR rfl),(sR rfl),fC rfl rfl,fC rfl rfl,trivial⟩
    ·have hn1:nn=0:=by have:=of_decide_eq_false h5; omega
     have hres:DF 101 r.response (cZ c r.to) (vk c.length r.fr) (t+1)=DF 101 r.response (cZ c r.to) (vk c.length r.fr) t:=by
      rw[hnext]
      unfold xU
      rw[hnn,hn1]
      show List.take 101 (DF 101 r.response (cZ c r.to) (vk c.length r.fr) t)=_
      refine List.take_of_length_le ?_
      rw[JU (m:=101) (show(vk c.length r.fr).length<=101 from by unfold vk; simp) (Ac hsy hdp),List.length_take]; omega
     refine .mk (by first|(simp only[okI]; omega)|omega) ?_
     refine⟨t+1,[0,1],ht',by omega,⟨⟨_,rfl,.eq rfl⟩,⟨_,rfl,.eq (by rw[hres]; rfl)⟩,⟨_,rfl,.eq rfl⟩,⟨_,rfl,.eq rfl⟩,trivial⟩,(sR rfl),fC rfl rfl,fC rfl rfl,trivial⟩
   ·have ht':t=c.length:=by have:=of_decide_eq_false h4; omega
    subst ht'
    exact ak.eqv rfl
theorem VD{r:Rule}{c:List Int}(hp:oC c.length r)(h0:Nq c)(hl:c.length<=6): ∀ l∈Cm r c,l.length=c.length:=by
 intro l h
 rcases WV hp (fun j=>(jv h0 j).1) with e|⟨_,e⟩<;>rw[e] at h
 ·exact Ae hp h0 hl l h
 ·exact Ae hp h0 hl l (List.mem_of_mem_take h)
theorem abU{m:Nat}{resp need:List Int}{out:List (List Int)}(h:out.length<=m): ∀ n,(DF m resp need out n).length<=m:=by
 intro n
 cases n with
 |zero=>exact h
 |succ n=>rw[IB,List.length_take]; omega
theorem abV{r:Rule}{c:List Int}(hx:r.ex.length<=100):(Cm r c).length<=101:=by
 unfold Cm cntF
 cases r.kind==3 with
 |true =>
  cases lS r.response (cZ c r.to) with
  |true=>exact Nat.zero_le _
  |false=>exact abU (by simp) _
 |false =>
  cases r.kind==1 with
  |true =>
   cases qA r (cZ c r.to) with
   |true=>exact(by decide:1<=101)
   |false=>simp only[cond_true,cond_false,List.length_map]; omega
  |false=>cases r.kind==2<;>exact(by decide:1<=101)
theorem abW{p:aO}{r:Rule}{v:Int}(hv:p.values.length<2^20):(kG p r v).length<2^21:=by
 unfold kG
 cases decide (0<=r.write)&&r.write !=v
 ·cases decide (r.write<0)&&(decide (0<=r.read)&&r.read !=v)
  ·cases decide (0<=r.read)
   ·cases decide (r.write<0)
    ·show((List.range _).map _).length<_
     rw[List.length_map,List.length_range]; omega
    ·exact(by decide:(1:Nat)<2^21)
   ·exact(by decide:(1:Nat)<2^21)
  ·exact(by decide:(0:Nat)<2^21)
 ·exact(by decide:(0:Nat)<2^21)
set_option maxHeartbeats 4000000 in
theorem S.uS(p:aO)(i:Nat)(e:Elem)(hp:fE p)(hF:AQ p e)(hi:i<p.rules.length)(ha:(p.rules.getD i default).all=[])(hval: ∀ r∈p.rules,0<=r.write->0<p.values.length):aj Tryz.prog 53 [.dat (.iI p),.int i,.dat (.elem e)] (CJ (Vx p (p.rules.getD i default) e)):=by
 have hX:=hF.Jh (r:=p.rules.getD i default) (by rw[getD_some hi]; exact List.getElem_mem hi)
 have hr:=hp.rule i
 have h0:=hF.nums
 have hst:=hF.valid.states
 have hlen:=hF.len
 have hx:=hX.xl
 have hsrc:=hX.rf.place.src
 have hr0:p.rules.getD i default∈p.rules:=by rw[getD_some hi]; exact List.getElem_mem hi
 generalize hre:p.rules.getD i default=r at hX hr ha hx hr0
 generalize hres:CJ (Vx p r e)=res
 have hvl:(kG p r e.value).length<2^21:=abW hp.values
 have hcl:=VD hX.rf.place h0 (by omega)
 have hcn:=abV (c:=e.counts) (r:=r) (by omega)
 have hpos: ∀ i,0<=e.counts.getD i 0:=fun i=>(jv h0 i).1
 refine aj.of Bd.uS (by simp) rfl (by rw[<- hres]; rfl) ?_
 refine .mk (by simp only[Rw.rng]; omega) ?_
 conv=>whnf
 rw[show p.rules.getD ((i:Int)).toNat default=r from hre]
 obtain⟨cs,Zk⟩: ∃ cs,cs=Cm r e.counts:=⟨_,rfl⟩
 obtain⟨vs,aha⟩: ∃ vs,vs=kG p r e.value:=⟨_,rfl⟩
 have hbef:=S.xG p r e.value hp.values (hval r hr0)
 rw[<- aha] at hbef hvl
 rw[<- Zk] at hcl hcn
 have hM:Nl p r e=nV vs cs vs.length 0:=by rw[L8,aha,Zk]; rfl
 rw[Vx,hM] at hres
 have hmul:cs.length*vs.length<=101*2^21:=Nat.mul_le_mul hcn (Nat.le_of_lt hvl)
 rw[Nat.mul_comm] at hmul
 have hN: ∀ i,i<=vs.length-> ∀ j,j<=cs.length->(nV vs cs i j).length<=101*2^21+101:=fun i h j k=>by
  rw[L6 h k]
  have:=Nat.mul_le_mul_right cs.length h
  omega
 rcases hX.rf.kind with hk|hk|hk
 case' inl =>
  have hcs:cntF r e.counts=Cm r e.counts:=by unfold Cm; rw[hk]; rfl
  have hloc:=S.zB r e.counts false h0 hX.rf.place hk ha (by omega) (by omega)
  rw[hcs,<- Zk] at hloc
  refine Fork.mk (fun _=>?_) (fun q=>absurd (q.symm.trans (beq_iff_eq.2 hk)) Bool.false_ne_true)
  refine ah.pure hloc rfl ?_
  refine ah.pure hbef rfl ?_
  refine aC.nil 11 35 3 (by rfl) rfl rfl rfl ?_
  refine aC.objs 3 [3] (fun i:Nat=>[(12,.int i),(9,.row 0 false (.bG cs)),(10,.row 0 false (.ints vs)),(11,.own 2)]) (fun i=>[(0,DI p),(2,bT (nV vs cs i 0))]) (fun i=>i<=vs.length) (fun i=>vs.length-i) 0 [0,29] rfl (by decide) (fun _=>rfl) (Nat.zero_le _) (sR rfl) ⟨fC rfl rfl,fC rfl rfl,trivial⟩ ?_
 case' inr.inl =>
  have hcs:Cm r e.counts=[jT r e.counts]:=by unfold Cm cntF; rw[hk]; rfl
  rw[hcs] at Zk
  refine Fork.mk (fun q=>absurd (q.symm.trans (beq_eq_false_iff_ne.2 (by omega))).symm Bool.false_ne_true) (fun _=>?_)
  refine Fork.mk (fun _=>?_) (fun q=>absurd (q.symm.trans (beq_iff_eq.2 hk)) Bool.false_ne_true)
  refine ah.pure (S.zA r e.counts false (fun j=>by have:=jv h0 j; omega) (by omega) (by omega)) rfl ?_
  refine ah.pure hbef rfl ?_
  refine aC.fz 9 22 0 (.bG cs) rfl rfl (Xd rfl rfl (by rw[Zk]; rfl)) ?_
  refine aC.nil 11 35 3 (by rfl) rfl rfl rfl ?_
  refine aC.objs 3 [3] (fun i:Nat=>[(12,.int i),(9,.row 0 false (.bG cs)),(10,.row 0 false (.ints vs)),(11,.own 2)]) (fun i=>[(0,DI p),(2,bT (nV vs cs i 0))]) (fun i=>i<=vs.length) (fun i=>vs.length-i) 0 [0,32] rfl (by decide) (fun _=>rfl) (Nat.zero_le _) (sR rfl) ⟨fC rfl rfl,fC rfl rfl,trivial⟩ ?_
 case' inr.inr =>
  have hbr:=S.qp r e.counts false h0 hX.rf.place hk (by omega)
  rw[<- Zk] at hbr
  refine Fork.mk (fun q=>absurd (q.symm.trans (beq_eq_false_iff_ne.2 (by omega))).symm Bool.false_ne_true) (fun _=>?_)
  refine Fork.mk (fun q=>absurd (q.symm.trans (beq_eq_false_iff_ne.2 (by omega))).symm Bool.false_ne_true) (fun _=>?_)
  refine Fork.mk (fun _=>?_) (fun q=>absurd (q.symm.trans (beq_iff_eq.2 hk)) Bool.false_ne_true)
  refine ah.pure hbr rfl ?_
  refine ah.pure hbef rfl ?_
  refine aC.nil 11 35 3 (by rfl) rfl rfl rfl ?_
  refine aC.objs 3 [3] (fun i:Nat=>[(12,.int i),(9,.row 0 false (.bG cs)),(10,.row 0 false (.ints vs)),(11,.own 2)]) (fun i=>[(0,DI p),(2,bT (nV vs cs i 0))]) (fun i=>i<=vs.length) (fun i=>vs.length-i) 0 [0,33] rfl (by decide) (fun _=>rfl) (Nat.zero_le _) (sR rfl) ⟨fC rfl rfl,fC rfl rfl,trivial⟩ ?_
 all_goals
  refine⟨(sR rfl),rfl,?_⟩
  rintro i hi
  refine⟨fun h4=>?_,fun h4=>?_⟩
  ·have hi':i<vs.length:=by simpa using h4
   refine aC.objs 3 [3] (fun j:Nat=>[(13,.int j),(12,.int i),(9,.row 0 false (.bG cs)),(10,.row 0 false (.ints vs)),(11,.own 2)]) (fun j=>[(0,DI p),(2,bT (nV vs cs i j))]) (fun j=>j<=cs.length) (fun j=>cs.length-j) 0 [0,2] rfl (by decide) (fun _=>rfl) (Nat.zero_le _) (sR rfl) ⟨fC rfl rfl,fC rfl rfl,trivial⟩ ?_
   refine⟨(sR rfl),rfl,?_⟩
   rintro j hj
   have hNj:=hN i hi j hj
   refine⟨fun h5=>?_,fun h5=>?_⟩
   ·have hj':j<cs.length:=by simpa using h5
    have hnx:=OI (vs:=vs) (i:=i) hj'
    repeat(refine VC.mk (by first|(first|(simp only[Rw.rng,Int.toNat_natCast]; omega)|(show((nV vs cs i j).length+1)*32<=140737488355328/\(nV vs cs i j).length+1<=1152921504606846976; omega))|(simp only[okI] at *; omega)) ?_)
    exact⟨j+1,[0,18],hj',by omega,(sR rfl),(sR rfl),fC rfl rfl,⟨rfl,nofun,rfl,rfl,rfl,_,rfl,rfl,rfl,dR.of_eq (by rw[hnx]; rfl)⟩,trivial⟩
   ·have hj':j=cs.length:=by have:=of_decide_eq_false h5; omega
    subst hj'
    rw[<- OJ hi']
    repeat(refine VC.mk (by simp only[okI] at *; omega) ?_)
    exact⟨i+1,[0,2],hi',by omega,(sR rfl),(sR rfl),fC rfl rfl,fC rfl rfl,trivial⟩
  ·have hi':i=vs.length:=by have:=of_decide_eq_false h4; omega
   subst hi'
   have hNv:=hN vs.length (Nat.le_refl _) 0 (Nat.zero_le _)
   have hsm:Bg (nV vs cs vs.length 0):=fun x hx=>by have:=hcl _ (Tn hx); omega
   refine ah.shut (fun c=>c≠0) (h2:=[(0,some (DI p))]) ⟨iW (Z:=fun c=>c≠0) (i:=0) (o:=DI p) rfl (fun q=>q rfl),trivial⟩ (S.o8 (nV vs cs vs.length 0) false (by omega) hsm) ⟨IY (by decide) rfl,trivial⟩ ?_
   rw[<- Kt]
   have hml:=zL (nV vs cs vs.length 0)
   have hms: ∀ x∈aX (nV vs cs vs.length 0),x.counts.length<2^30:=fun x hx=>hsm x (tN hx)
   generalize aX (nV vs cs vs.length 0)=ms at hres hml hms
   refine⟨fun h6=>?_,fun h6=>?_⟩
   ·have h6':decide (100<ms.length)=true:=decide_eq_true (by have:=of_decide_eq_true h6; omega)
    rw[h6',Bool.true_or,cond_true] at hres
    rw[<- hres]
    exact ak.pI
   have h6':decide (100<ms.length)=false:=decide_eq_false (by have:=of_decide_eq_false h6; omega)
   rw[h6',Bool.false_or] at hres
   refine aC.objs 1 [3] (fun i:Nat=>[(14,.int i),(11,.row 3 false (.elems ms))]) (fun _=>[(0,DI p)]) (fun i=>i<=ms.length/\(ms.take i).any (jc p)=false) (fun i=>ms.length-i) 0 [0] rfl (by decide) (fun _=>rfl) ⟨Nat.zero_le _,rfl⟩ (sR rfl) ⟨fC rfl rfl,trivial⟩ ?_
   refine⟨(sR rfl),rfl,?_⟩
   rintro k ⟨hk1,hk2⟩
   refine⟨fun h7=>?_,fun h7=>?_⟩
   ·have hk':k<ms.length:=by simpa using h7
    have hmk:ms.getD k default∈ms:=by rw[getD_some hk']; exact List.getElem_mem hk'
    repeat(refine VC.mk (by first|(simp only[Rw.rng]; omega)|(simp only[Rw.rng]; omega)) ?_)
    refine ah.pure (S.xK p (ms.getD k default) hp (hms _ hmk)) rfl ?_
    refine⟨fun h8=>?_,fun h8=>?_⟩
    ·have h8':jc p (ms.getD k default)=true:=by
      have:(!(!(jc p (ms.getD k default))))=true:=h8
      simpa using this
     have hany:ms.any (jc p)=true:=List.any_eq_true.2 ⟨_,hmk,h8'⟩
     rw[hany,cond_true] at hres
     rw[<- hres]
     exact ak.pI
    ·have h8':jc p (ms.getD k default)=false:=by
      have:(!(!(jc p (ms.getD k default))))=false:=h8
      simpa using this
     repeat(refine VC.mk (by simp only[okI] at *; omega) ?_)
     exact⟨k+1,[0],⟨hk',by rw[List.take_succ_eq_append_getElem hk',List.any_append,hk2,<- getD_some (d:=default) hk',List.any_cons,h8']; rfl⟩,by omega,(sR rfl),(sR rfl),fC rfl rfl,trivial⟩
   ·have hk':k=ms.length:=by have:=of_decide_eq_false h7; omega
    rw[hk',List.take_length] at hk2
    rw[hk2,cond_false] at hres
    rw[<- hres,hk']
    exact ak.eqv rfl
theorem ad7{p:aO}(h:qW p=0):(fK p).cover=true:=by
 unfold qW at h
 obtain⟨_,h⟩:=bz nz h
 cases hc:(fK p).cover with
 |true=>rfl
 |false=>rw[hc] at h; exact absurd h (by decide)
theorem Xh{p:aO}(h:qW p=0): ∀ r∈p.rules,r.all=[]:=(Xr (ad7 h)).2
theorem afU{p:aO}{e:Elem}(hF:AQ p e): ∀ r∈p.rules,0<=r.write->0<p.values.length:=by
 intro r hr hw
 rcases(hF.Jh hr).rf.wr with h|h
 ·simp only[qX,Bool.or_eq_false_iff,decide_eq_false_iff_not] at h; omega
 ·omega
theorem S.GV(p:aO)(i:Nat)(e:Elem)(hp:fE p)(hF:AQ p e)(hi:i<p.rules.length)(ha: ∀ r∈p.rules,r.all=[]):aj Tryz.prog 53 [.dat (.iI p),.int i,.dat (.elem e)] (CJ (pU p (p.rules.getD i default) e)):=by
 have hm:p.rules.getD i default∈p.rules:=by rw[getD_some hi]; exact List.getElem_mem hi
 have hX:=hF.Jh hm
 have h:=S.uS p i e hp hF hi (ha _ hm) (afU hF)
 rwa [adN hX.rf.place hX.nd (fun j=>(jv hF.nums j).1) hF.len (Tq hX.rf hF.val)] at h
set_option maxHeartbeats 1000000 in
theorem S.uw(p:aO)(i:Int)(e:Elem)(hp:fE p)(he:e.counts.length<2^30):aj Tryz.prog 21 [.dat (.iI p),.int i,.dat (.elem e)] (CJ (EX p i e)):=by
 have hpr:=hp.rules
 generalize hres:CJ (EX p i e)=res
 refine aj.of Bd.uw (by simp) rfl (by rw[<- hres]; rfl) ?_
 refine ah.pure (S.pF p hp) rfl ?_
 refine⟨fun h1=>?_,fun h1=>?_⟩
 ·replace h1:(bn p !=0)=true:=h1
  conv=>whnf
  have hc:qW p=bn p:=by unfold qW; rw[h1]; rfl
  rw[<- hres,EX,hc,h1]
  exact ak.pI
 replace h1:(bn p !=0)=false:=h1
 refine⟨fun h2=>?_,fun h2=>?_⟩
 ·replace h2:(!(bif bn p !=0 then Fe else fK p).cover)=true:=h2
  conv=>whnf
  have hc:qW p=7:=by unfold qW; rw[h1] at h2 ⊢; rw[show(fK p).cover=false by simpa using h2]; rfl
  rw[<- hres,EX,hc]
  exact ak.pI
 replace h2:(!(bif bn p !=0 then Fe else fK p).cover)=false:=h2
 have hc:qW p=0:=by unfold qW; rw[h1] at h2 ⊢; rw[show(fK p).cover=true by simpa using h2]; rfl
 refine ah.pure (S.xK p e hp he) rfl ?_
 refine⟨fun h3=>?_,fun h3=>?_⟩
 ·have h3':jc p e=true:=by
   replace h3:(!(!(jc p e)))=true:=h3
   simpa using h3
  conv=>whnf
  rw[<- hres,EX,hc,h3']
  exact ak.pI
 have h3':jc p e=false:=by
  replace h3:(!(!(jc p e)))=false:=h3
  simpa using h3
 have hF:=xY hc h3'
 repeat(refine VC.mk (by first|exact id|exact fun h=>⟨h,h⟩|(intro h; rw[h]; rfl)) ?_)
 refine⟨fun h4=>?_,fun h4=>?_⟩
 ·replace h4:(decide (i<0)||decide (i>=p.rules.length))=true:=h4
  conv=>whnf
  rw[<- hres,EX,hc,h3',h4]
  exact ak.pI
 ·replace h4:(decide (i<0)||decide (i>=p.rules.length))=false:=h4
  have h4':=h4
  simp only[Bool.or_eq_false_iff,decide_eq_false_iff_not] at h4'
  have hi:i.toNat<p.rules.length:=by omega
  have hpre:=S.GV p i.toNat e hp hF hi (Xh hc)
  rw[show((i.toNat:Nat):Int)=i by omega] at hpre
  refine ah.pure hpre rfl ?_
  conv=>whnf
  rw[<- hres,EX,hc,h3',h4]
  exact ak.eqv rfl
set_option maxHeartbeats 1000000 in
theorem S.GX(p:aO)(e:Elem)(hp:fE p)(hF:AQ p e)(ha: ∀ r∈p.rules,r.all=[]):aj Tryz.prog 55 [.dat (.iI p),.dat (.elem e)] (CJ (sJ p e)):=by
 have hpr:=hp.rules
 have h6:=hF.valid.states
 have h8:=hF.valid.ZB
 have h0:=hF.valid.pos
 have hl:=hF.len
 generalize hres:CJ (sJ p e)=res
 refine aj.of Bd.GX (by simp) rfl (by rw[<- hres]; rfl) ?_
 refine aC.nil 6 35 3 (by rfl) rfl rfl rfl ?_
 refine aC.objs 3 [2,3] (fun i:Nat=>[(7,.int i),(6,.own 2)]) (fun i=>[(0,.box 27 11 (.dat (.iI p))),(1,.box 35 3 (.dat (.elem e))),(2,bT (jw p e i))]) (fun i=>i<=p.rules.length/\(p.rules.take i).any (fun r=>(pU p r e).1 !=0)=false) (fun i=>p.rules.length-i) 0 [0,1,6] rfl (by decide) (fun _=>rfl) ⟨Nat.zero_le _,rfl⟩ (sR rfl) ⟨fC rfl rfl,fC rfl rfl,fC rfl rfl,trivial⟩ ?_
 refine⟨(sR rfl),rfl,?_⟩
 rintro i ⟨hi,hno⟩
 have hpl:=L9 (p:=p) (e:=e) (i:=i)
 refine⟨fun h1=>?_,fun h1=>?_⟩
 ·have hi':i<p.rules.length:=by simpa using h1
  have hst:=Ji (e:=e) hi'
  have hmem:p.rules.getD i default∈p.rules:=by rw[getD_some hi']; exact List.getElem_mem hi'
  have hlen:=@AU p (p.rules.getD i default) e
  refine ah.pure (S.GV p i e hp hF hi' ha) rfl ?_
  have herr:=@Tt p (p.rules.getD i default) e
  generalize hq:pU p (p.rules.getD i default) e=q at hst hlen herr
  refine⟨fun h2=>?_,fun h2=>?_⟩
  ·replace h2:(q.1 !=0)=true:=h2
   conv=>whnf
   have h4:q.1=4:=by
    rcases herr with h|h
    ·rw[h] at h2; cases h2
    ·exact h
   have hany:p.rules.any (fun r=>(pU p r e).1 !=0)=true:=List.any_eq_true.2 ⟨_,hmem,by rw[hq]; exact h2⟩
   rw[<- hres,sJ,hany,h4]
   exact ak.pI
  ·replace h2:(q.1 !=0)=false:=h2
   repeat(refine VC.mk (by first|(show((jw p e i).length+q.2.length)*32<=140737488355328/\(jw p e i).length+q.2.length<=1152921504606846976; omega)|(simp only[okI] at *; omega)) ?_)
   refine⟨i+1,[0,1,21],⟨hi',?_⟩,by omega,(sR rfl),(sR rfl),fC rfl rfl,fC rfl rfl,⟨rfl,nofun,rfl,rfl,rfl,_,rfl,rfl,rfl,dR.of_eq (by rw[hst])⟩,trivial⟩
   rw[List.take_succ_eq_append_getElem hi',List.any_append,hno,Bool.false_or,<- getD_some (d:=default) hi']
   show((pU p (p.rules.getD i default) e).1 !=0||false)=false
   rw[hq,h2]; rfl
 ·have hi':i=p.rules.length:=by have:=of_decide_eq_false h1; omega
  subst hi'
  rw[List.take_length] at hno
  have hX:sJ p e=bif decide (100<(aX (jw p e p.rules.length)).length) then(4,[]) else(0,aX (jw p e p.rules.length)):=by unfold sJ; rw[hno]; rfl
  refine ah.shut (fun c=>c=2) (h2:=[]) trivial (S.o8 (jw p e p.rules.length) false (by omega) (fun x hx=>by have:=EY (EL hF hx); omega)) ⟨IY rfl rfl,trivial⟩ ?_
  rw[<- Kt]
  generalize aX (jw p e p.rules.length)=M at hX
  refine⟨fun h2=>?_,fun h2=>?_⟩
  ·replace h2:decide (100<(M.length:Int))=true:=h2
   have:=of_decide_eq_true h2
   rw[decide_eq_true (by omega:100<M.length),cond_true] at hX
   conv=>whnf
   rw[<- hres,hX]
   exact ak.pI
  ·replace h2:decide (100<(M.length:Int))=false:=h2
   have:=of_decide_eq_false h2
   rw[decide_eq_false (by omega: ¬ 100<M.length),cond_false] at hX
   conv=>whnf
   rw[<- hres,hX]
   exact ak.eqv rfl
theorem S.E5(p:aO)(e:Elem)(hp:fE p)(he:e.counts.length<2^30):aj Tryz.prog 23 [.dat (.iI p),.dat (.elem e)] (CJ (OZ p e)):=by
 generalize hres:CJ (OZ p e)=res
 refine aj.of Bd.E5 (by simp) rfl (by rw[<- hres]; rfl) ?_
 refine ah.pure (S.pF p hp) rfl ?_
 refine⟨fun h1=>?_,fun h1=>?_⟩
 ·replace h1:(bn p !=0)=true:=h1
  conv=>whnf
  have hc:qW p=bn p:=by unfold qW; rw[h1]; rfl
  rw[<- hres,OZ,hc,h1]
  exact ak.pI
 replace h1:(bn p !=0)=false:=h1
 refine⟨fun h2=>?_,fun h2=>?_⟩
 ·replace h2:(!(bif bn p !=0 then Fe else fK p).cover)=true:=h2
  conv=>whnf
  have hc:qW p=7:=by unfold qW; rw[h1] at h2 ⊢; rw[show(fK p).cover=false by simpa using h2]; rfl
  rw[<- hres,OZ,hc]
  exact ak.pI
 replace h2:(!(bif bn p !=0 then Fe else fK p).cover)=false:=h2
 have hc:qW p=0:=by unfold qW; rw[h1] at h2 ⊢; rw[show(fK p).cover=true by simpa using h2]; rfl
 refine ah.pure (S.xK p e hp he) rfl ?_
 refine⟨fun h3=>?_,fun h3=>?_⟩
 ·have h3':jc p e=true:=by
   replace h3:(!(!(jc p e)))=true:=h3
   simpa using h3
  conv=>whnf
  rw[<- hres,OZ,hc,h3']
  exact ak.pI
 have h3':jc p e=false:=by
  replace h3:(!(!(jc p e)))=false:=h3
  simpa using h3
 refine ah.pure (S.GX p e hp (xY hc h3') (Xh hc)) rfl ?_
 conv=>whnf
 rw[<- hres,OZ,hc,h3']
 exact ak.eqv rfl
end Go.Proofs.YtkmldgihhaooaaaGreatDoor
