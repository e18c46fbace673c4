/-
 Ways to share, cut: the reference. No condition.
-/
import Derived.Test.YtkmldgihhaooaaaGreatDoorQd
namespace Go.Proofs.YtkmldgihhaooaaaGreatDoor
open Go.Ab Go.Proofs
set_option maxRecDepth 100000
theorem Zi{α:Type}{m:Nat}{o a b:List α}(h:m<=(qF m o a).length):qF m o (a++b)=qF m o a:=by
 unfold qF at h ⊢;rw[List.length_take] at h;rw[<- List.append_assoc,List.take_append_of_le_length (by omega)]
theorem TV{α:Type}{m:Nat}{o a:List α}:(qF m o a).length<=m:=by
 unfold qF; rw[List.length_take]; omega
theorem ab1{α:Type}{m:Nat}{o:List α}(h:o.length<=m):qF m o []=o:=by
 unfold qF; rw[List.append_nil,List.take_of_length_le h]
def G7(c:List Int)(x:Int)(r:List Int)(n i:Nat):List (List Int):=(List.range i).flatMap fun k:Nat=>Bg (aS c x k) r (n-k)
theorem O5{c:List Int}{x:Int}{r:List Int}{n i:Nat}:G7 c x r n (i+1)=G7 c x r n i++Bg (aS c x i) r (n-i):=by
 unfold G7;rw[List.range_succ,List.flatMap_append]; simp
theorem Zj{c:List Int}{x:Int}{r:List Int}{n i j:Nat}(h:i<=j): ∃ b,G7 c x r n j=G7 c x r n i++b:=by
 obtain⟨k,rfl⟩:=Nat.exists_eq_add_of_le h;induction k with
 |zero=>exact⟨[],by simp⟩
 |succ k ih =>
  obtain⟨b,hb⟩:=ih (by omega);rw[<- Nat.add_assoc,O5,hb,List.append_assoc];exact⟨_,rfl⟩
theorem af6{h:Hz}{i:Nat}{c:List Int}{Z:Nat->Prop}(hz:Z i)(q:h.get i=some (iV c)):T.sub Z h.ay (V.row 0 false (.ints c)).aH (V.own i).aH:=AL hz q
theorem Zk{Z:Nat->Prop}{h:Hz}{j:Nat}{L:List (List Int)}{c:List Int}(hz:Z j)(q:h.get j=some (iV c)):T.dD Z h.ay (fD (L++[c])).au.l (OV.row 24 0 (.bH L) [.own j]).au.l:=by
 have e1:(fD (L++[c])).au.l=L.map Go.Ab.ints++[Go.Ab.ints c]:=by simp[OV.au,Rw.aT,V.aT]
 have e2:(OV.row 24 0 (.bH L) [.own j]).au.l=L.map Go.Ab.ints++[T.own j]:=by simp[OV.au,Rw.aT,V.aT,V.aH]
 rw[e1,e2];exact yA (dH _) ⟨AL hz q,trivial⟩
theorem Zl{c:List Int}{N:Nat}(h: ∀ j,0<=c.getD j 0/\c.getD j 0+(N:Int)*2097152<=2^40)(k:Nat)(x:Int)(i:Nat){n:Nat}(hn:n<=2097152)(hi:i<=n)(hk:N=k+1)(j:Nat):0<=(aS c x i).getD j 0/\(aS c x i).getD j 0+(k:Int)*2097152<=2^40:=by
 have hj:=h j;have hx:=h x.toNat;subst hk;unfold aS;rw[List.getD_eq_getElem?_getD,List.getElem?_set];rw[List.getD_eq_getElem?_getD] at hj;split
 ·split
  ·simp only[Option.getD_some]; omega
  ·simp only[Option.getD_none]; omega
 ·omega
set_option maxHeartbeats 2000000 in
theorem S.shared: ∀ (ps:List Int) (L:List (List Int)) (c:List Int) (n m:Nat) (f g:Bool),ps≠[]->qQ c.length ps->(∀ j,0<=c.getD j 0/\c.getD j 0+ps.length*2097152<=2^40)->ps.length<2^18->n<=2097152->c.length<2^20->L.length<=m->m<=2^20 ->
  aO Tryz.prog 140 (V.aT [.own 0,.row 0 f (.ints c),.row 0 g (.ints ps),.int n,.int m]) (Hz.ay [(0,some (fD L))]) 1 (fun t hp=>(m<=L.length/\t= .own 0/\hp=Hz.ay [(0,some (fD L))])\/(L.length<m/\t= .own 1/\hp=Hz.ay [(1,some (fD (qF m L (Bg c ps n))))])):=by
 intro ps;induction ps with
 |nil=>intro L c n m f g h; exact absurd rfl h
 |cons x r ih =>
  intro L c n m f g _ hp hc hpl hn hcl hL hm;by_cases hfull:m<=L.length
  ·refine oU.of (h0:=[(0,some (fD L))]) (nx:=1) Bd.Az (by simp) ⟨_,_,.inl ⟨hfull,rfl,rfl⟩⟩ rfl rfl ?_;refine Fork.mk (fun _=>?_) (fun q=>absurd (q.symm.trans (decide_eq_true (by omega))) Bool.false_ne_true);exact iP.one (c:=0) (j:=0) (o:=fD L) (t:=.own 0) rfl rfl rfl (fun _=>rfl) (.inl rfl) rfl (.eq rfl) (.inl ⟨hfull,rfl,rfl⟩)
  have hlt:L.length<m:=by omega
  have hx:=hp x (by simp);have hcx:=hc x.toNat;refine oU.of (h0:=[(0,some (fD L))]) (nx:=1) Bd.Az (by simp) ⟨_,_,.inr ⟨hlt,rfl,rfl⟩⟩ rfl rfl ?_;rw[List.length_cons] at hcx hpl;refine Fork.mk (fun q=>absurd (q.symm.trans (decide_eq_false (by omega))).symm Bool.false_ne_true) (fun _=>?_);conv=>whnf
  cases r with
  |nil =>
   have hS:qF m L (Bg c [x] n)=L++[aS c x n]:=by
    unfold qF;simp only[Bg];rw[List.take_of_length_le (by rw[List.length_append]; simp; omega)]
   refine Fork.mk (fun _=>?_) (fun q=>absurd (q.symm.trans (rfl)) Bool.false_ne_true);repeat(refine VC.mk (by first|(simp only[jl,jF,Rw.len]; omega)|(simp only[okI,Rw.rng] at *; first|omega|(simp_all; done)|(simp_all; omega))) ?_)
   refine .mk (by first|(simp only[Rw.rng]; omega)|(simp only[okI]; omega)|(simp only[jl,jF,Rw.len]; omega)|(show(L.length+(0+1))*24<=140737488355328/\L.length+(0+1)<=1152921504606846976; omega)) ?_;exact iP.ahP (c:=1) (j:=26) (o:=fD (L++[aS c x n])) (o':=OV.row 24 0 (.bH L) [.own 11]) rfl rfl rfl (Zk (Z:=fun i=>i≠26) (by decide) rfl) rfl rfl nofun (.inr rfl) (.inr ⟨hlt,rfl,by rw[hS]⟩)
  |cons y r =>
   refine Fork.mk (fun q=>absurd (q.symm.trans (beq_eq_false_iff_ne.2 (by simp only[List.length_cons]; omega))).symm Bool.false_ne_true) (fun _=>?_);refine aA.objs 6 [1,2,3,4] (fun i:Nat=>[(12,.int i),(0,.own 5)]) (fun i=>[(5,fD (qF m L (G7 c x (y::r) n i)))]) (fun i=>i<=n+1) (fun i=>n+1-i) 0 [0] rfl (by decide) (fun _=>rfl) (Nat.zero_le _) ?_ ?_ ?_
   ·exact(sR rfl)
   ·exact⟨⟨rfl,nofun,rfl,rfl,rfl,_,rfl,rfl,rfl,dU.of_eq (by rw[show G7 c x (y::r) n 0=[] from rfl,ab1 hL])⟩,trivial⟩
   refine⟨(sR rfl),rfl,?_⟩;rintro i hi;have hcu:(qF m L (G7 c x (y::r) n i)).length<=m:=TV;repeat(refine VC.mk (by first|exact id|exact fun h=>⟨h,h⟩) ?_)
   refine⟨fun h1=>?_,fun h1=>?_⟩
   ·rw[Bool.and_eq_true,decide_eq_true_eq,decide_eq_true_eq] at h1;obtain⟨h1,h2⟩:=h1;repeat(refine VC.mk (by first|(first|(simp only[Rw.rng]; omega)|(simp only[okI]; omega)|(simp only[Rw.qH,List.length_cons]; omega))|(simp only[jl,jF,Rw.len]; omega)|(simp only[okI,Rw.rng] at *; first|omega|(simp_all; done)|(simp_all; omega))) ?_)
    rw[show((n:Int)-(i:Int))=((n-i:Nat):Int) by omega];have hcc:=Zl hc (y::r).length x i hn (by omega) (by simp);refine ah.ahO (args':=[.own 5,.row 0 false (.ints (aS c x i)),.row 0 g (.ints (y::r)),.int (n-i:Nat),.int m]) (h2:=[(5,some (fD (qF m L (G7 c x (y::r) n i))))]) (fun j=>j≠5) ⟨dJ (Z:=fun j=>j≠5) (i:=5) rfl (fun q=>q rfl),trivial⟩ ⟨aF _,af6 (i:=17) (by decide) rfl,aF _,aF _,aF _,trivial⟩ ?_;refine ah.Pg (i:=5) (ts:=[.own 0,.row 0 false (.ints (aS c x i)),.row 0 g (.ints (y::r)),.int (n-i:Nat),.int m]) (ih (qF m L (G7 c x (y::r) n i)) (aS c x i) (n-i) m false g (by simp) (by rw[y5]; exact fun q hq=>hp q (.tail _ hq)) hcc (by omega) (by omega) (by rw[y5]; exact hcl) (by omega) hm) rfl rfl rfl rfl rfl rfl ?_;rintro t hp' (⟨g1,rfl,rfl⟩|⟨g1,rfl,rfl⟩)
    ·omega
    refine .inr ⟨.own 37,_,rfl,rfl,rfl,?_⟩;rw[IG,<- O5];refine .mk (by first|(simp only[okI]; omega)|omega) ?_;exact⟨i+1,[37],by omega,by omega,(sR rfl),(sR rfl),dQ rfl rfl,trivial⟩
   ·have hS:qF m L (G7 c x (y::r) n i)=qF m L (Bg c (x::y::r) n):=by
     by_cases h2:i=n+1
     ·subst h2; rfl
     ·have h3:m<=(qF m L (G7 c x (y::r) n i)).length:=by
       rcases Nat.lt_or_ge (qF m L (G7 c x (y::r) n i)).length m with h4|h4
       ·rw[Bool.and_eq_false_iff,decide_eq_false_iff_not,decide_eq_false_iff_not] at h1;omega
       ·exact h4
      obtain⟨b,hb⟩:=Zj (c:=c) (x:=x) (r:=y::r) (n:=n) (i:=i) (j:=n+1) hi;show _=qF m L (G7 c x (y::r) n (n+1));rw[hb,<- IG];unfold qF at h3 ⊢;rw[List.take_append_of_le_length h3,List.take_take,Nat.min_self]
    rw[hS];exact iP.one (c:=1) (j:=5) (o:=fD (qF m L (Bg c (x::y::r) n))) (t:=.own 1) rfl rfl rfl nofun (.inr rfl) rfl (.eq rfl) (.inr ⟨hlt,rfl,rfl⟩)
def Jt(m:Nat)(O:List (List Int))(fr:List Int)(n i:Nat):List (List Int):=qF m [] ((O.take i).flatMap fun c=>Bg c fr n)
theorem Zm{m:Nat}{O:List (List Int)}{fr:List Int}{n i:Nat}(hi:i<O.length):qF m (Jt m O fr n i) (Bg (O.getD i []) fr n)=Jt m O fr n (i+1):=by
 unfold Jt;rw[IG,List.take_succ_eq_append_getElem hi,List.flatMap_append,getD_some hi];simp
theorem Zn{m:Nat}{O:List (List Int)}{fr:List Int}{n i:Nat}(h:m<=(Jt m O fr n i).length):Jt m O fr n i=qF m [] (O.flatMap fun c=>Bg c fr n):=by
 conv=>rhs; rw[<- List.take_append_drop i O,List.flatMap_append]
 exact(Zi h).symm
set_option maxHeartbeats 2000000 in
theorem S.xZ(O:List (List Int))(fr:List Int)(n m N:Nat)(f g:Bool)(hf:fr≠[])(hp:qQ N fr)(hO: ∀ c∈O,c.length=N/\ ∀ j,0<=c.getD j 0/\c.getD j 0+fr.length*2097152<=2^40)(hfl:fr.length<2^18)(hn:n<=2097152)(hN:N<2^20)(hm:m<=2^20)(hOl:O.length<2^40) :
  aj Tryz.prog 123 [.row 0 f (.bH O),.row 0 g (.ints fr),.int n,.int m] (.row 0 false (.bH (qF m [] (O.flatMap fun c=>Bg c fr n)))):=by
 refine aj.of Bd.xZ (by simp) rfl rfl ?_;refine aA.nil 9 24 0 (by rfl) rfl rfl rfl ?_;refine aA.objs 6 [0,1,2,3] (fun i:Nat=>[(10,.int i),(9,.own 5)]) (fun i=>[(5,fD (Jt m O fr n i))]) (fun i=>i<=O.length) (fun i=>O.length-i) 0 [3] rfl (by decide) (fun _=>rfl) (Nat.zero_le _) ?_ ?_ ?_
 ·exact(sR rfl)
 ·exact⟨⟨rfl,nofun,rfl,rfl,rfl,_,rfl,rfl,rfl,dU.of_eq (by unfold Jt qF; simp; rfl)⟩,trivial⟩
 refine⟨(sR rfl),rfl,?_⟩;rintro i hi;have hcu:(Jt m O fr n i).length<=m:=TV;repeat(refine VC.mk (by first|exact id|exact fun h=>⟨h,h⟩) ?_)
 refine⟨fun h1=>?_,fun h1=>?_⟩
 ·rw[Bool.and_eq_true,decide_eq_true_eq,decide_eq_true_eq] at h1;obtain⟨h1,h2⟩:=h1;have hi':i<O.length:=by omega
  obtain⟨hc1,hc2⟩:=hO (O.getD i []) (by rw[getD_some hi']; exact List.getElem_mem hi');refine .mk (by first|(simp only[Rw.rng]; omega)|(simp only[okI]; omega)) ?_;refine ah.Pg (i:=5) (ts:=[.own 0,.row 0 false (.ints (O.getD i [])),.row 0 g (.ints fr),.int n,.int m]) (S.shared fr (Jt m O fr n i) (O.getD i []) n m false g hf (by rw[hc1]; exact hp) hc2 hfl hn (by omega) (by omega) hm) rfl rfl rfl rfl rfl rfl ?_;rintro t hp' (⟨g1,rfl,rfl⟩|⟨g1,rfl,rfl⟩)
  ·omega
  refine .inr ⟨.own 24,_,rfl,rfl,rfl,?_⟩;rw[Zm hi'];refine .mk (by first|(simp only[okI]; omega)|omega) ?_;exact⟨i+1,[24],by omega,by omega,(sR rfl),(sR rfl),dQ rfl rfl,trivial⟩
 ·have hS:Jt m O fr n i=qF m [] (O.flatMap fun c=>Bg c fr n):=by
   by_cases h2:i=O.length
   ·subst h2; unfold Jt; rw[List.take_length]
   ·refine Zn ?_;rcases Nat.lt_or_ge (Jt m O fr n i).length m with h4|h4
    ·rw[Bool.and_eq_false_iff,decide_eq_false_iff_not,decide_eq_false_iff_not] at h1;omega
    ·exact h4
  rw[hS];exact ak.Z4 rfl
def G8(f:Nat->Int)(n i:Nat):List Int:=(List.range i).map f++List.replicate (n-i) 0
theorem Zo{f:Nat->Int}{n i:Nat}(h:i<=n):(G8 f n i).length=n:=by simp[G8]; omega
theorem Zp{f:Nat->Int}{n i:Nat}(h:i<n):(G8 f n i).set i (f i)=G8 f n (i+1):=by
 unfold G8;rw[show n-i=(n-(i+1))+1 by omega,List.replicate_succ,List.set_append_right _ _ (by simp),List.range_succ,List.map_append];simp
theorem Zq{f:Nat->Int}{n:Nat}:G8 f n n=(List.range n).map f:=by simp[G8]
def Xz(r:Rule)(c:List Int)(x:Nat):Int:=max (CY r x) (c.getD x 0-Jc r x+CY r x)
theorem Zr{r:Rule}{c:List Int}:G8 (Xz r c) c.length c.length=jZ r c:=Zq
theorem aeX{a b:Int}:(if a=b then(1:Int) else 0)=bif a==b then 1 else 0:=by
 by_cases h:a=b
 ·rw[if_pos h,beq_iff_eq.2 h]; rfl
 ·rw[if_neg h,beq_eq_false_iff_ne.2 h]; rfl
theorem ab2{a b c d:Int}:(if a=b/\c=d then(1:Int) else 0)=bif a==b&&c==d then 1 else 0:=by
 by_cases h:a=b
 ·by_cases k:c=d
  ·rw[if_pos ⟨h,k⟩,beq_iff_eq.2 h,beq_iff_eq.2 k]; rfl
  ·rw[if_neg fun q=>k q.2,beq_iff_eq.2 h,beq_eq_false_iff_ne.2 k]; rfl
 ·rw[if_neg fun q=>h q.1,beq_eq_false_iff_ne.2 h]; rfl
theorem Zt{r:Rule}{x:Nat}:CY r x=(bif (x:Int)==r.fr then 1 else 0)+(bif r.kind==2&&(x:Int)==r.je then 1 else 0):=by
 unfold CY; rw[aeX,ab2]
theorem Zu{r:Rule}{x:Nat}:Jc r x=(bif (x:Int)==r.to then 1 else 0)+(bif r.kind==2&&(x:Int)==r.zQ then 1 else 0):=by
 unfold Jc; rw[aeX,ab2]
set_option maxHeartbeats 2000000 in
theorem S.zJ(r:Rule)(c:List Int)(f:Bool)(hc: ∀ j,0<=c.getD j 0/\c.getD j 0<=2^40)(hl:c.length<2^20)(hl0:0<c.length):aj Tryz.prog 87 [.dat (.rule r),.row 0 f (.ints c)] (.row 0 false (.ints (jZ r c))):=by
 refine aj.of Bd.zJ (by simp) rfl rfl ?_;conv=>whnf
 rw[Bq hl0];refine .mk (by omega) ?_;refine aA.objs 2 [1,2] (fun q:Nat=>[(6,.int q),(5,.own 1)]) (fun q=>[(0,vF r),(1,iV (G8 (Xz r c) c.length q))]) (fun q=>q<=c.length) (fun q=>c.length-q) 0 [0,4] rfl (by decide) (fun _=>rfl) (Nat.zero_le _) ?_ ?_ ?_
 ·exact(sR rfl)
 ·exact⟨dQ rfl rfl,dQ rfl rfl,trivial⟩
 refine⟨(sR rfl),rfl,?_⟩;rintro q hq;have hfl:=Zo (f:=Xz r c) hq;refine⟨fun h1=>?_,fun h1=>?_⟩
 ·have hq':q<c.length:=by simpa using h1
  have hcq:=hc q;have hb: ∀ l g:Int,l=CY r q->g=Jc r q->max l (c.getD q 0-g+l)=Xz r c q:=by rintro _ _ rfl rfl; rfl
  refine⟨fun a1=>?_,fun a1=>?_⟩
  all_goals
   repeat(refine VC.mk (by first|(simp only[Rw.rng,Int.toNat_natCast]; omega)|(simp only[okI]; omega)|exact fun h=>h|exact fun h=>⟨h,h⟩|(intro h; simp[h]; done)) ?_)
   refine⟨fun a2=>?_,fun a2=>?_⟩
  all_goals
   repeat(refine VC.mk (by first|(simp only[Rw.rng,Int.toNat_natCast]; omega)|(simp only[okI]; omega)|exact fun h=>h|exact fun h=>⟨h,h⟩|(intro h; simp[h]; done)) ?_)
   refine⟨fun a3=>?_,fun a3=>?_⟩
  all_goals
   repeat(refine VC.mk (by first|(simp only[Rw.rng,Int.toNat_natCast]; omega)|(simp only[okI]; omega)|exact fun h=>h|exact fun h=>⟨h,h⟩|(intro h; simp[h]; done)) ?_)
   refine⟨fun a4=>?_,fun a4=>?_⟩
  all_goals
   repeat(refine VC.mk (by first|(simp only[Rw.rng,Int.toNat_natCast]; omega)|(simp only[okI,Int.toNat_natCast]; omega)|exact fun h=>h|exact fun h=>⟨h,h⟩|(intro h; simp[h]; done)) ?_)
   refine⟨q+1,[0,1],hq',by omega,(sR rfl),(sR rfl),dQ rfl rfl,⟨rfl,nofun,rfl,rfl,rfl,_,rfl,rfl,rfl,dU.of_eq ?_⟩,trivial⟩;rw[<- Zp hq',<- hb _ _ (by rw[Zt,a1,a3]) (by rw[Zu,a2,a4])];rfl
 ·have hq':q=c.length:=by
   have: ¬ q<c.length:=by simpa using h1
   omega
  rw[hq',Zr];exact ak.ZR rfl
theorem XA{h:Hz}{j:Nat}{Z:Nat->Prop}{o:OV}{l:List (List Int)}(hz:Z j)(q:h.get j=some o)(e:o.au=(fD l).au):T.sub Z h.ay (V.row 0 false (.bH l)).aH (V.own j).aH:=by
 show T.sub Z h.ay (.sl 0 false (l.map Go.Ab.ints)) (.own j);simp only[T.sub];refine⟨trivial,hz,NQ l,by decide,24,?_⟩;have:=aK q; rw[e] at this; simpa [OV.au,Rw.aT,V.aT] using this
theorem ak.af7{h:Hz}{j:Nat}{o:OV}{l:List (List Int)}(q:h.get j=some o)(e:o.au=(fD l).au):ak (.row 0 false (.bH l)) (.own j) h:=⟨XA trivial q e⟩
theorem Zv{r:Rule}{c:List Int}(ha:r.all=[])(hc: ∀ i,0<=c.getD i 0)(hx:qQ c.length r.ex):qR r c=(((r.ex.length:Int)==0)||IZ c r.ex):=by
 have h1:Bo r.all c c.length=false:=by
  unfold Bo;rw[ha,List.any_eq_false];intro j _; simp
 have h2:=found_eq hc hx;unfold qR;rw[h1,Bool.not_false,Bool.true_and,<- Bool.not_not (wL r.ex c c.length),h2];cases r.ex with
 |nil=>rfl
 |cons x l =>
  have h3:(((x::l).length:Int)==0)=false:=beq_eq_false_iff_ne.2 (by simp only[List.length_cons]; omega);have h4:decide (0<((x::l).length:Int))=true:=decide_eq_true (by simp only[List.length_cons]; omega);rw[h3,h4]; simp
theorem TW{c:List Int}{i:Int}(h:i.toNat<c.length):Ny (aS c i 1) i=c:=by
 unfold Ny aS;have e:(c.set i.toNat (c.getD i.toNat 0+1)).getD i.toNat 0=c.getD i.toNat 0+1:=by rw[getD_some (by simpa using h),List.getElem_set_self]
 rw[e,List.set_set,show c.getD i.toNat 0+1-1=c[i.toNat] by rw[getD_some h]; omega,List.set_getElem_self]
set_option maxHeartbeats 2000000 in
theorem S.zK(r:Rule)(c:List Int)(f:Bool)(h0:Nw c)(hp:oN c.length r)(hk:r.kind=1)(ha:r.all=[])(hxl:r.ex.length<=100)(hcl:c.length<2^20):aj Tryz.prog 86 [.dat (.rule r),.row 0 f (.ints c)] (.row 0 false (.bH (cntF r c))):=by
 have hpos: ∀ i,0<=c.getD i 0:=fun i=>(jC h0 i).1
 have hb:=EY hp hpos (by omega);refine aj.of Bd.zK (by simp) rfl rfl ?_;have hBl:(jZ r c).length=c.length:=CZ;have hB1:Ny (jZ r c) r.fr=cu c r.to:=by rw[hb,TW (by rw[dL]; have:=hp.src; omega)]
 have hBv:=jC h0 r.fr.toNat;have hsr:=hp.src;have hal:=Zv (c:=cu c r.to) ha (CX hpos) (by rw[dL]; exact hp.exs);have hB2: ∀ j,0<=(jZ r c).getD j 0/\(jZ r c).getD j 0<=1048577:=fun j=>by
  rw[hb]
  have hd: ∀ j,0<=(cu c r.to).getD j 0/\(cu c r.to).getD j 0<=1048576:=fun j=>⟨CX hpos j,by
   have:=jC h0 j;have:=jC h0 r.to.toNat;unfold cu;rw[List.getD_eq_getElem?_getD,List.getElem?_set];rw[List.getD_eq_getElem?_getD] at *;split
   ·split
    ·simp only[Option.getD_some]; omega
    ·simp only[Option.getD_none]; omega
   ·omega⟩
  exact GN (M:=1) (B:=1048576) hd (by decide) j
 have hB3:=hB2 r.fr.toNat;refine ah.pure (S.zJ r c f (fun j=>by have:=jC h0 j; omega) hcl (by omega)) rfl ?_;repeat(refine VC.mk (by first|(first|(simp only[Rw.rng]; omega)|(simp only[okI]; omega))|exact fun h=>h|exact fun h=>⟨h,h⟩|(simp only[jl,jF,Rw.len]; omega)) ?_)
 refine ah.aeH (fun _=>S.Bl (Ny (jZ r c) r.fr) r.ex false false (by rw[hB1,dL]; omega) (by omega) (by rw[hB1,dL]; exact hp.exs)) (fun _=>And.intro (AL trivial rfl) (And.intro (aF _) trivial)) rfl rfl ?_;refine .mk (by cases ((r.ex.length:Int)==0)<;>simp) ?_;refine⟨fun h2=>?_,fun h2=>?_⟩
 ·replace h2:(((r.ex.length:Int)==0)||IZ (Ny (jZ r c) r.fr) r.ex)=true:=h2;rw[hB1,<- hal] at h2;have hres:cntF r c=[jZ r c]:=by unfold cntF; rw[hk,h2]; rfl
  rw[hres];exact ak.af7 rfl rfl
 ·replace h2:(((r.ex.length:Int)==0)||IZ (Ny (jZ r c) r.fr) r.ex)=false:=h2;rw[hB1,<- hal] at h2;have hres:cntF r c=r.ex.map fun x=>aS (jZ r c) x 1:=by unfold cntF; rw[hk,h2]; rfl
  rw[hres];refine aA.nil 7 24 0 (by rfl) rfl rfl rfl ?_;refine aA.Kq 2 [2,5] (fun i:Nat=>[(8,.int i),(7,.own 1)]) (fun i=>[(0,vF r),(1,fD (Dc r (jZ r c) i))]) (fun i=>i<=r.ex.length) (fun i=>r.ex.length-i) 0 [0,30] [(0,some (vF r)),(30,some (fD []))] rfl (by decide) (fun _=>rfl) (Nat.zero_le _) ?_ ⟨fun _=>False,dJ (Z:=fun _=>False) (i:=0) (o:=vF r) rfl (fun q=>q),⟨_,rfl,(fun q=>q),rfl,rfl,dH _,rfl,rfl⟩,trivial⟩ ?_ ?_
  ·exact(sR rfl)
  ·exact⟨Fj rfl rfl,Fj rfl rfl,trivial⟩
  refine⟨(sR rfl),rfl,?_⟩;rintro i hi;have hw:=L6 (r:=r) (c:=jZ r c) hi;refine⟨fun h3=>?_,fun h3=>?_⟩
  ·have hi':i<r.ex.length:=by simpa using h3
   have hst:=OM (r:=r) (c:=jZ r c) hi';have hpl:=hp.exs (r.ex.getD i 0) (by rw[getD_some hi']; exact List.getElem_mem hi');have hv:=hB2 (r.ex.getD i 0).toNat;repeat(refine VC.mk (by first|(first|(simp only[Rw.rng,Int.toNat_natCast]; omega)|(simp only[okI,Int.toNat_natCast]; omega)|(show((Dc r (jZ r c) i).length+(0+1))*24<=140737488355328/\(Dc r (jZ r c) i).length+(0+1)<=1152921504606846976; omega))|(simp only[jl,jF,Rw.len]; omega)) ?_)
   refine⟨[(0,some (vF r)),(25,some (fD (Dc r (jZ r c) i++[aS (jZ r c) (r.ex.getD i 0) 1])))],i+1,[0,25],⟨fun i=>i=9,dJ (Z:=fun i=>i=9) (i:=0) (o:=vF r) rfl (by decide),Dq (Z:=fun i=>i=9) (i:=25) (j:=9) rfl rfl (by decide) rfl rfl,trivial⟩,by omega,by omega,(sR rfl),(sR rfl),Fj rfl rfl,okF rfl nofun rfl rfl rfl ⟨rfl,rfl⟩ (by rw[hst]),trivial⟩
  ·have hi':i=r.ex.length:=by have:=of_decide_eq_false h3; omega
   have hall:Dc r (jZ r c) r.ex.length=r.ex.map fun x=>aS (jZ r c) x 1:=by unfold Dc; rw[List.take_length]
   rw[hi',hall];exact ak.Z4 rfl
theorem aei{k:Nat}: ∀ {l:List V},(∀ v∈l,v.kd=some k)->FN k l=true:=by
 intro l;induction l with
 |nil=>intro _; rfl
 |cons v r ih =>
  intro h;have h1:=h v (by simp);have h2:=ih fun u hu=>h u (List.mem_cons_of_mem _ hu)
  simp only[FN,h1,h2];simp
theorem aej{n:Nat}{l:List T}(h: ∀ t∈l,T.lt n t=true):T.NS n l=true:=by
 induction l with
 |nil=>rfl
 |cons t r ih=>simp only[T.NS,h t (by simp),ih fun u hu=>h u (List.mem_cons_of_mem _ hu),Bool.and_self]
theorem getD_none{α:Type}{l:List α}{i:Nat}{d:α}(h:l.length<=i):l.getD i d=d:=by
 simp[List.getD_eq_getElem?_getD,List.getElem?_eq_none h]
theorem ab3{α:Type}{f:Nat->α}{n i:Nat}{d:α}(h:i<n):((List.range n).map f).getD i d=f i:=by
 simp[h]
theorem TY{α:Type}{l l':List α}(d:α)(h:l.length=l'.length)(H: ∀ i,i<l.length->l.getD i d=l'.getD i d):l=l':=by
 apply List.ext_getElem h;intro i h1 h2;have:=H i h1;rw[getD_some h1,getD_some h2] at this;exact this
theorem ab4{ty nx:Nat}{l:List V}(h1: ∀ v∈l,v.kd=some 0)(h2: ∀ v∈l,T.lt nx v.aH=true):(OV.gen ty 0 l).good nx=true:=by
 simp only[OV.good,aei h1,Bool.and_eq_true,Bool.true_and];refine⟨aej fun t ht=>?_,rfl⟩;rw[fF,List.mem_map] at ht;obtain⟨v,hv,rfl⟩:=ht;exact h2 v hv
theorem ab5{n:Nat}(h:0<n):(bif isZero (.int n) then some Rw.nil else ZO (n:Int).toNat .nil)=none:=by
 cases n with
 |zero=>omega
 |succ n=>rfl
def fO:List Int->Option OV
 |[]=>none
 |x::r=>some (iV (x::r))
abbrev fI(R:List (List Int)):List (Option OV):=R.map fO
def XB(B:Nat)(R:List (List Int))(j:Nat):V:=match R.getD j [] with
 |[]=>En .nil
 |_::_=>.inn (B+j)
def outW(B:Nat)(R:List (List Int)):List V:=(List.range R.length).map (XB B R)
abbrev aek(B:Nat)(R:List (List Int)):OV:=.gen 24 0 (outW B R)
theorem nN{B:Nat}{R:List (List Int)}:(outW B R).length=R.length:=by simp[outW]
theorem zL{B j:Nat}{R:List (List Int)}(h:j<R.length):(outW B R)[j]? =some (XB B R j):=by
 unfold outW; rw[List.getElem?_map,List.getElem?_range h]; rfl
theorem rH{B j:Nat}{R:List (List Int)}:(R.getD j []=[]/\XB B R j=En .nil)\/(R.getD j []≠[]/\XB B R j= .inn (B+j)):=by
 unfold XB;cases R.getD j [] with
 |nil=>exact .inl ⟨rfl,rfl⟩
 |cons x r=>exact .inr ⟨(by simp),rfl⟩
theorem IW{B nx:Nat}{R:List (List Int)}(h:B+R.length<=nx):(aek B R).good nx=true:=by
 refine ab4 (fun v hv=>?_) fun v hv=>?_
 ·obtain⟨j,hj,rfl⟩:=List.mem_map.1 hv;rcases rH (B:=B) (j:=j) (R:=R) with ⟨_,e⟩|⟨_,e⟩<;>rw[e]<;>rfl
 ·obtain⟨j,hj,rfl⟩:=List.mem_map.1 hv;have:=List.mem_range.1 hj;rcases rH (B:=B) (j:=j) (R:=R) with ⟨_,e⟩|⟨_,e⟩<;>rw[e]
  ·rfl
  ·show Nat.blt (B+j) nx=true;exact Nat.blt_eq.mpr (by omega)
theorem Ua{B i N:Nat}{R:List (List Int)}{c:List Int}{f:Nat->Nat}(hi:i<R.length)(hc:c≠[]):dU (T.bJ (lS B (fun j=>if j=i then N else B+j) f) (aek B (R.set i c)).au.l) (OV.gen 24 0 ((outW B R).set i (.own N))).au.l:=by
 refine dU.of_eq ?_;show T.bJ _ (V.aT (outW B (R.set i c)))=V.aT ((outW B R).set i (.own N));rw[zC,fF,fF,List.map_map];have hl:(outW B (R.set i c)).length=R.length:=by rw[nN,List.length_set]
 apply List.ext_getElem
 ·simp[hl,nN]
 ·intro j h1 h2;have hj:j<R.length:=by simpa [hl] using h1
  have e1:(outW B (R.set i c))[j]'(by rw[hl]; exact hj)=XB B (R.set i c) j:=by
   have:=zL (B:=B) (R:=R.set i c) (j:=j) (by rw[List.length_set]; exact hj);rw[List.getElem?_eq_getElem (by rw[hl]; exact hj),Option.some.injEq] at this;exact this
  simp only[List.getElem_map,Function.comp,e1];by_cases hji:j=i
  ·subst hji;have e2:((outW B R).set j (V.own N))[j]'(by rw[List.length_set,nN]; exact hj)=V.own N:=List.getElem_set_self ..;rw[e2];have e3:(R.set j c).getD j []=c:=by rw[getD_some (by simpa using hi),List.getElem_set_self]
   rcases rH (B:=B) (j:=j) (R:=R.set j c) with ⟨q,_⟩|⟨_,e⟩
   ·rw[e3] at q; exact absurd q hc
   ·rw[e];show T.own (lS B _ f (B+j))=T.own N;rw[sS,if_pos rfl]
  ·have e2:((outW B R).set i (V.own N))[j]'(by rw[List.length_set,nN]; exact hj)=XB B R j:=by
    rw[List.getElem_set_ne (Ne.symm hji)];have:=zL (B:=B) (R:=R) (j:=j) hj;rw[List.getElem?_eq_getElem (by rw[nN]; exact hj),Option.some.injEq] at this;exact this
   rw[e2];have e3:(R.set i c).getD j []=R.getD j []:=by rw[List.getD_eq_getElem?_getD,List.getElem?_set_ne (Ne.symm hji),<- List.getD_eq_getElem?_getD]
   have e4:XB B (R.set i c) j=XB B R j:=by unfold XB; rw[e3]
   rw[e4];rcases rH (B:=B) (j:=j) (R:=R) with ⟨_,e⟩|⟨_,e⟩<;>rw[e]
   ·rfl
   ·show T.own (lS B _ f (B+j))=T.own (B+j);rw[sS,if_neg hji]
theorem XC{R:List (List Int)}{nx:Nat}: ∀ o,some o∈fI R->o.good nx=true/\o.Dl=true:=by
 intro o h;obtain⟨r,_,e⟩:=List.mem_map.1 h;cases r with
 |nil=>cases e
 |cons x r=>cases e; exact⟨rfl,rfl⟩
theorem E9{R:List (List Int)}:(fI R).length=R.length:=List.length_map _
theorem VW{R:List (List Int)}{j:Nat}(h:R.getD j []≠[]):(fI R)[j]? =some (some (iV (R.getD j []))):=by
 have hj:j<R.length:=by
  rcases Nat.lt_or_ge j R.length with q|q
  ·exact q
  ·exact absurd (getD_none q) h
 rw[List.getElem?_map,List.getElem?_eq_getElem hj];rw[getD_some hj] at h ⊢;cases hr:R[j] with
 |nil=>exact absurd hr h
 |cons x r=>rfl
theorem ab6{R:List (List Int)}{i:Nat}{c:List Int}: ∀ j o,j≠i->(fI (R.set i c))[j]? =some (some o)->(fI R)[j]? =some (some o):=by
 intro j o hj q;rw[List.getElem?_map,List.getElem?_set_ne (Ne.symm hj)] at q;rw[List.getElem?_map]; exact q
theorem aeY{R:List (List Int)}{i:Nat}{c:List Int}{o:OV}(hi:i<R.length)(hc:c≠[])(q:(fI (R.set i c))[i]? =some (some o)):o=iV c:=by
 have e:(R.set i c).getD i []=c:=by rw[getD_some (by simpa using hi),List.getElem_set_self]
 rw[VW (by rw[e]; exact hc),e] at q;cases q; rfl
theorem Zw{Z:Nat->Prop}{h:Hz}{i B:Nat}{R:List (List Int)}(hi:h.get i=some (aek B R))(hB: ¬ Z i)(hR: ∀ j,R.getD j []≠[]->Z (B+j)/\h.get (B+j)=some (iV (R.getD j []))) :
  ∃ o',h.get i=some o'/\ ¬ Z i/\o'.au.ty=(fD R).au.ty/\o'.au.k=(fD R).au.k/\T.dD Z h.ay (fD R).au.l o'.au.l/\(fD R).au.l.map T.kd=o'.au.l.map T.kd/\(fD R).au.l.map fZ=o'.au.l.map fZ:=by
 have hl:(OV.row 24 0 (.bH R) []).au.l=R.map Go.Ab.ints:=by simp[OV.au,Rw.aT,V.aT]
 have hel: ∀ j (hj:j<R.length),(outW B R)[j]'(by rw[nN]; exact hj)=XB B R j:=fun j hj=>by
  have:=zL (B:=B) (R:=R) (j:=j) hj;rw[List.getElem?_eq_getElem (by rw[nN]; exact hj),Option.some.injEq] at this;exact this
 refine⟨_,hi,hB,rfl,rfl,?_,?_,?_⟩
 ·rw[hl];show T.dD _ _ _ (V.aT (outW B R));refine Gp (by rw[dP,nN,List.length_map]) fun j t u h1 h2=>?_
  have hj:j<R.length:=by have:=(List.getElem?_eq_some_iff.1 h1).1; simpa using this
  rw[fF,List.getElem?_map,zL hj] at h2;rw[List.getElem?_map,List.getElem?_eq_getElem hj] at h1;cases h1; cases h2;have hRj:R.getD j []=R[j]:=getD_some hj;rcases rH (B:=B) (j:=j) (R:=R) with ⟨q,e⟩|⟨q,e⟩
  ·rw[e]; rw[hRj] at q; rw[q];show T.sub _ _ (.sl 0 false []) (.sl 0 true []);simp[T.sub]
  ·rw[e];have:=aK (hR j q).2;rw[hRj] at this;simp only[V.aH,T.sub];refine⟨trivial,(hR j q).1,?_,by decide,3,?_⟩
   ·rw[fU]; intro t ht; obtain⟨x,_,rfl⟩:=List.mem_map.1 ht; rfl
   ·rw[this]; simp[OV.au,Rw.aT,V.aT]
 ·rw[hl];show _=List.map T.kd (V.aT (outW B R));rw[fF,List.map_map,List.map_map];apply List.ext_getElem
  ·simp[nN]
  ·intro j h1 h2;have hj:j<R.length:=by simpa using h1
   simp only[List.getElem_map,Function.comp,hel j hj];rcases rH (B:=B) (j:=j) (R:=R) with ⟨_,e⟩|⟨_,e⟩<;>rw[e]<;>rfl
 ·rw[hl];show _=List.map fZ (V.aT (outW B R));rw[fF,List.map_map,List.map_map];apply List.ext_getElem
  ·simp[nN]
  ·intro j h1 h2;have hj:j<R.length:=by simpa using h1
   simp only[List.getElem_map,Function.comp,hel j hj];rcases rH (B:=B) (j:=j) (R:=R) with ⟨_,e⟩|⟨_,e⟩<;>rw[e]<;>rfl
theorem LJ.fI{B:Nat}(C k:Nat){j:Nat}{R:List (List Int)}{h:Hz}{K:Rw->Hz->Prop}(e:h.drop k=iG B (fI R))(ho:CS B C (h.take k)=true)(hC:B+R.length<=C)(hj:R.getD j []≠[])
  (hK:K (.ints (R.getD j [])) (h.take k++iG B ((fI R).set j none))):LJ h (B+j) 3 0 K :=
 LJ.fam C (show Ak (h.take k) _ h from by rw[Ak,<- e,List.take_append_drop]) ho (by rw[E9]; exact hC) (VW hj) hK
theorem ab7{B n:Nat}:outW B (List.replicate n [])=List.replicate n (En .nil):=by
 apply List.ext_getElem
 ·simp[nN]
 ·intro j h1 h2;have hj:j<n:=by simpa using h2
  have:=zL (B:=B) (R:=List.replicate n []) (j:=j) (by simpa using hj);rw[List.getElem?_eq_getElem h1,Option.some.injEq] at this;rw[this,List.getElem_replicate];unfold XB;rw[getD_some (by simpa using hj),List.getElem_replicate]
theorem ab8{n j:Nat}{o:OV}:(fI (List.replicate n []))[j]? ≠some (some o):=by
 intro q;rw[List.getElem?_map,Option.map_eq_some_iff] at q;obtain⟨c,h1,h2⟩:=q;have:=List.mem_of_getElem? h1;rw[List.eq_of_mem_replicate this] at h2;cases h2
def DW(resp:List Int)(n i:Nat):List (List Int):=(List.range n).map fun t=>lY resp t i
theorem jd{resp:List Int}{n i:Nat}:(DW resp n i).length=n:=by simp[DW]
theorem DX{resp:List Int}{n i t:Nat}(h:t<n):(DW resp n i).getD t []=lY resp t i:=ab3 h
theorem MQ{resp:List Int}{n:Nat}:DW resp n 0=List.replicate n []:=by
 refine TY [] (by rw[jd]; simp) fun t ht=>?_
 rw[jd] at ht;rw[DX ht,getD_some (by simpa using ht),List.getElem_replicate]; rfl
theorem ael{resp:List Int}{n i s:Nat}(hs:s<n)(h:resp.getD i 0=(s:Int)):DW resp n (i+1)=(DW resp n i).set s (lY resp s (i+1)):=by
 refine TY [] (by rw[jd,List.length_set,jd]) fun t ht=>?_
 rw[jd] at ht;rw[DX ht];by_cases e:t=s
 ·subst e;rw[getD_some (by rw[List.length_set,jd]; exact ht),List.getElem_set_self]
 ·rw[List.getD_eq_getElem?_getD,List.getElem?_set_ne (Ne.symm e),<- List.getD_eq_getElem?_getD,DX ht,xW,beq_eq_false_iff_ne.2 (by rw[h]; omega)]; rfl
theorem Zx{resp:List Int}{i s:Nat}(h:resp.getD i 0=(s:Int)):lY resp s (i+1)≠[]:=by
 rw[xW,beq_iff_eq.2 h]; simp
theorem O6{resp:List Int}{t:Nat}:Ji resp (t:Int)= !(((gZ resp t).length:Int)==0):=by
 cases h:Ji resp (t:Int) with
 |true =>
  obtain⟨k,hk,he⟩:=List.getElem_of_mem (Jv.1 h)
  have:(gZ resp t)≠[]:=List.ne_nil_of_mem (wI.2 ⟨k,hk,by simp[hk,he],rfl⟩)
  have h2:=List.length_pos_iff.2 this;rw[beq_eq_false_iff_ne.2 (by omega)]; rfl
 |false =>
  have:gZ resp t=[]:=by
   rw[List.eq_nil_iff_forall_not_mem];intro x hx;obtain⟨k,hk,he,_⟩:=wI.1 hx;have hm:Ji resp (t:Int)=true:=Jv.2 (by rw[<- he,getD_some hk]; exact List.getElem_mem hk);rw[h] at hm; cases hm
  rw[this]; rfl
def vG(n:Nat)(i:Int):List (List Int):=[(List.replicate n 0).set i.toNat 1]
theorem XD{n:Nat}{i:Int}:vG n i=[aS (List.replicate n 0) i 1]:=by
 have e:(List.replicate n (0:Int)).getD i.toNat 0=0:=by
  rcases Nat.lt_or_ge i.toNat n with h|h
  ·rw[getD_some (by simpa using h),List.getElem_replicate]
  ·exact getD_none (by simpa using h)
 unfold vG aS;rw[e]; rfl
theorem ab9{resp need:List Int}{i:Int}(h0:Nw need)(hn:need.length=resp.length)(hl:resp.length<=6){t:Nat}(ht:t<=6)(htn:t<=need.length): ∀ c∈lq resp need (vG need.length i) t,c.length=need.length/\ ∀ j,0<=c.getD j 0/\c.getD j 0<=40000000:=by
 intro c hc;have e:lq resp need (vG need.length i) t=(lq resp need (nM need) t).map fun c=>aS c i 1:=by rw[XD]; exact Xl (out:=nM need)
 rw[e] at hc;obtain⟨d,hd,rfl⟩:=List.mem_map.1 hc;have hpos: ∀ i,0<=need.getD i 0:=fun i=>(jC h0 i).1
 refine⟨?_,fun j=>?_⟩
 ·rw[y5,Qp (b:=List.replicate need.length 0) (by simp[hn]) hn hpos htn d hd,hn]
 ·have hb:=GN (i:=i) (d:=1) (M:=1) (B:=(t:Int)*6291456) (Qq h0 hl t d hd) (by decide) j;omega
theorem aem{nx d ty k b x s:Nat}{y:X}{m:Fm}(h:m.get x=some (.inn (10000+s))):Gl nx ⟨some d,.app ty k b (.t x) y,none,false,[1000001],false,false⟩ m=true:=by
 have e:Nat.ble 10000 (10000+s)=true:=Nat.ble_eq.mpr (by omega);show(true&&((match CB m (.t x) with|some v=>T.newer 10000 v.aH|none=>false)&&true))=true;rw[show CB m (.t x)=some (.inn (10000+s)) from h];show(true&&(Nat.ble 10000 (10000+s)&&true))=true;rw[e]; rfl
abbrev acd(r:Rule)(c:List Int)(R:List (List Int)):List (Nat×OV):=[(0,vF r),(4,iV (cu c r.to)),(20,aek 10000 R)]
set_option maxHeartbeats 2000000 in
theorem S.qO(r:Rule)(c:List Int)(f:Bool)(h0:Nw c)(hp:oN c.length r)(hk:r.kind=3)(hcl:c.length<=6):aj Tryz.prog 88 [.dat (.rule r),.row 0 f (.ints c)] (.row 0 false (.bH (C9 r c))):=by
 have hpos: ∀ i,0<=c.getD i 0:=fun i=>(jC h0 i).1
 obtain⟨hrl,hrp⟩:=hp.rsp hk;have hds:=hp.dst;have hsr:=hp.src;have hcd:=jC h0 r.to.toNat;have hml:(cu c r.to).length=c.length:=dL;refine aj.of Bd.qO (by simp) rfl rfl ?_;repeat(refine VC.mk (by first|(first|(simp only[Rw.rng]; omega)|(simp only[okI]; omega))|(simp only[jl,jF,Rw.len]; omega)) ?_; conv=>whnf)
 have hn0:0<c.length:=by omega
 rw[ab5 hn0];refine .mk (by omega) ?_;refine aA.fam 20000 [1,2,5,6] (fun i:Nat=>[(7,.int i)]) (fun i=>yt (acd r c (DW r.response c.length i))++iG 10000 (fI (DW r.response c.length i))) (fun i=>i<=c.length) (fun i=>c.length-i) 0 (lS 10000 (fun j=>10000+j) (iL (acd r c (DW r.response c.length 0)) [0,4,20])) _ rfl (by decide) (fun _=>rfl) (Nat.zero_le _) (sR rfl) (.inl rfl) ?_ ?_
 ·refine jX.fam (g:=fun j=>10000+j) (acd r c (DW r.response c.length 0)) [0,4,20] ?_ rfl (Nat.zero_le _) (by rw[E9,jd]; omega) (fun j o q=>absurd (by rw[MQ] at q; exact q) ab8) (fun j _ o _ q=>absurd (by rw[MQ] at q; exact q) ab8);refine⟨Fj rfl rfl,okF rfl nofun rfl rfl rfl ⟨rfl,rfl⟩ (by unfold cu; rw[Int.max_comm]),okJ rfl (IW (by rw[jd]; omega)) rfl ⟨rfl,rfl⟩ ?_,trivial⟩;rw[MQ];refine dU.of_eq ?_;show T.bJ _ (V.aT (outW 10000 (List.replicate c.length [])))=V.aT (List.replicate c.length (En .nil));rw[ab7,zC,fF,List.map_map,List.map_replicate,List.map_replicate]; rfl
 refine⟨(sR rfl),rfl,?_⟩;rintro i hi;have hRl:(DW r.response c.length i).length=c.length:=jd;have hwo:(outW 10000 (DW r.response c.length i)).length=c.length:=by rw[nN,hRl]
 refine⟨fun h1=>?_,fun h1=>?_⟩
 ·have hi':i<c.length:=by simpa using h1
  have hq:=hrp (r.response.getD i 0) (by rw[getD_some (by omega)]; exact List.getElem_mem _);obtain⟨s,hs⟩: ∃ s:Nat,r.response.getD i 0=(s:Int):=⟨(r.response.getD i 0).toNat,by omega⟩
  have hsl:s<c.length:=by omega
  have hst:=ael (n:=c.length) hsl hs;have hps:=Zx hs;have hgi:(DW r.response c.length i).getD s []=lY r.response s i:=DX hsl;have hln:lY r.response s (i+1)=lY r.response s i++[(i:Int)]:=by rw[xW,beq_iff_eq.2 hs]; rfl
  repeat(refine VC.mk (by first|(simp only[Rw.rng,Int.toNat_natCast,hs]; omega)|(simp only[Rw.rng,Int.toNat_natCast]; omega)) ?_; conv=>whnf)
  rw[show r.response.getD ((i:Int)).toNat 0=(s:Int) from hs];refine⟨_,zL (j:=s) (by omega),?_⟩;rcases rH (B:=10000) (j:=s) (R:=DW r.response c.length i) with ⟨q,e⟩|⟨q,e⟩
  ·rw[show XB 10000 (DW r.response c.length i) s=En .nil from e];repeat(refine VC.mk (by first|(first|(show(0+(0+1))*8<=140737488355328/\0+(0+1)<=1152921504606846976; omega)|(simp only[Int.toNat_natCast]; omega))|(omega)|(simp only[okI] at *; omega)) ?_; conv=>whnf)
   refine qL.VI 20000 (i+1) s 20020 (fI (DW r.response c.length i)) (fI (DW r.response c.length (i+1))) (acd r c (DW r.response c.length (i+1))) [0,4,20] rfl hi' (by omega) ?_ rfl rfl rfl (Nat.zero_le _) (by rw[E9,jd]; omega) (by rw[E9,jd]; omega) (by decide) XC ?_ (by rw[hst]; exact ab6) (sR rfl) (sR rfl) ?_
   (repeat' (first|refine bQ.lo rfl ?_|refine bQ.hi rfl ?_|exact bQ.nil))
   ·intro o ho;rw[hst] at ho;rw[aeY (by omega) hps ho];refine⟨_,rfl,?_⟩;rw[hln,show lY r.response s i=[] by rw[<- hgi]; exact q]; rfl
   exact⟨Fj rfl rfl,Fj rfl rfl,okJ rfl (IW (by rw[jd]; omega)) rfl ⟨rfl,rfl⟩ (by rw[hst]; exact Ua (by omega) hps),trivial⟩
  ·rw[show XB 10000 (DW r.response c.length i) s= .inn (10000+s) from e];have hlb:=zH (resp:=r.response) (t:=s) (i:=i);conv=>whnf
   rw[aem (s:=s)]
   rotate_left
   ·rfl
   refine LJ.fI (B:=10000) (R:=DW r.response c.length i) 20000 3 rfl rfl (by rw[jd]; omega) q ?_;rw[hgi];repeat(refine VC.mk (by first|(first|(show((lY r.response s i).length+(0+1))*8<=140737488355328/\(lY r.response s i).length+(0+1)<=1152921504606846976; omega)|(simp only[Int.toNat_natCast]; omega))|(omega)|(simp only[okI] at *; omega)) ?_; conv=>whnf)
   refine qL.VI 20000 (i+1) s 20020 ((fI (DW r.response c.length i)).set s none) (fI (DW r.response c.length (i+1))) (acd r c (DW r.response c.length (i+1))) [0,4,20] rfl hi' (by omega) ?_ rfl rfl rfl (Nat.zero_le _) (by rw[E9,jd]; omega) (by rw[List.length_set,E9,jd]; omega) (by decide) XC ?_ (fun j o hj q=>by rw[hst] at q; rw[List.getElem?_set_ne (Ne.symm hj)]; exact ab6 j o hj q) (sR rfl) (sR rfl) ?_
   (repeat' (first|refine bQ.lo rfl ?_|refine bQ.hi rfl ?_|exact bQ.nil))
   ·intro o ho;rw[hst] at ho;rw[aeY (by omega) hps ho];refine⟨_,rfl,?_⟩;rw[hln]
   exact⟨Fj rfl rfl,Fj rfl rfl,okJ rfl (IW (by rw[jd]; omega)) rfl ⟨rfl,rfl⟩ (by rw[hst]; exact Ua (by omega) hps),trivial⟩
 ·have hi':i=c.length:=by
   have: ¬ i<c.length:=by simpa using h1
   omega
  subst hi';conv=>whnf
  rw[Bq hn0];repeat(refine VC.mk (by first|omega|(simp only[Rw.rng,List.length_replicate]; omega)) ?_; conv=>whnf)
  have hall:DW r.response c.length c.length=(List.range c.length).map (gZ r.response):=by
   unfold DW gZ; rw[hrl]; rfl
  have hdc:Nw (cu c r.to):=by
   intro x hx;rcases List.mem_or_eq_of_mem_set hx with q|q
   ·exact h0 x q
   ·omega
  have hdp:=CX (i:=r.to) hpos;refine aA.Kq 3 [1] (fun t:Nat=>[(10,.int t),(5,.own 0),(6,.own 1),(9,.own 2)]) (fun _=>[(0,iV (cu c r.to)),(1,fD (DW r.response c.length c.length)),(2,fD (vG c.length r.fr))]) (fun t=>t<=c.length/\EZ r.response (cu c r.to) t=false) (fun t=>c.length-t) 0 [4,20,20014] [(4,some (iV (cu c r.to))),(20,some (fD (DW r.response c.length c.length))),(20014,some (fD (vG c.length r.fr)))] rfl (by decide) (fun _=>rfl) ⟨Nat.zero_le _,rfl⟩ ?_ ?_ ?_ ?_
  ·exact(sR rfl)
  ·refine⟨fun j=>10000<=j/\j≠20014,dJ (Z:=fun j=>10000<=j/\j≠20014) (i:=4) (o:=iV (cu c r.to)) rfl (by decide),Zw (Z:=fun j=>10000<=j/\j≠20014) (B:=10000) rfl (by decide) (fun j hj=>⟨⟨by omega,?_⟩,?_⟩),Dq (Z:=fun j=>10000<=j/\j≠20014) (i:=20014) (j:=20006) (l:=[]) rfl rfl (by decide) (by decide) rfl,trivial⟩
   ·have:j<(DW r.response c.length c.length).length:=by
     rcases Nat.lt_or_ge j (DW r.response c.length c.length).length with q|q
     ·exact q
     ·exact absurd (getD_none q) hj
    rw[jd] at this; omega
   ·refine bQ.get (C:=20000) (L:=fI (DW r.response c.length c.length)) ?_ (by rw[E9,jd]; omega) (VW hj)
    (repeat' (first|refine bQ.lo rfl ?_|refine bQ.hi rfl ?_|exact bQ.nil))
  ·exact⟨Fj rfl rfl,Fj rfl rfl,Fj rfl rfl,trivial⟩
  refine⟨(sR rfl),rfl,?_⟩;rintro t ⟨ht,hs⟩;refine⟨fun h2=>?_,fun h2=>?_⟩
  ·have ht':t<c.length:=by simpa using h2
   repeat(refine VC.mk (by first|(first|(simp only[Rw.rng,Int.toNat_natCast]; omega)|(simp only[Rw.rng,Int.toNat_natCast,jd]; omega))|exact fun h=>h|(intro h; (repeat' apply And.intro)<;>first|exact h|omega|(simp only[Rw.qH]; omega)|(simp only[Rw.rng]; omega))) ?_; conv=>whnf)
   have hfT:(DW r.response c.length c.length).getD ((t:Int)).toNat []=gZ r.response t:=by
    rw[Int.toNat_natCast,DX ht']; unfold lY gZ; rw[hrl]
   rw[hfT];refine⟨fun h3=>?_,fun h3=>?_⟩
   ·have hsy:lX r.response (cu c r.to)=true:=by
     refine OQ (i:=t) (by omega) ?_;rw[O6,Bool.not_not]; exact h3
    have hres:C9 r c=[]:=by unfold C9; rw[hk,hsy]; rfl
    rw[hres];exact ak.agq rfl
   ·have hsn:EZ r.response (cu c r.to) (t+1)=false:=by
     rw[Jd,hs,O6,Bool.not_not,Bool.false_or]; exact h3
    refine .mk (by first|(simp only[okI]; omega)|omega) ?_;exact⟨[(0,some (iV (cu c r.to))),(1,some (fD (DW r.response c.length c.length))),(2,some (fD (vG c.length r.fr)))],t+1,[0,1,2],⟨fun _=>False,dJ (Z:=fun _=>False) rfl (fun q=>q),dJ (Z:=fun _=>False) rfl (fun q=>q),dJ (Z:=fun _=>False) rfl (fun q=>q),trivial⟩,⟨ht',hsn⟩,by omega,(sR rfl),(sR rfl),Fj rfl rfl,Fj rfl rfl,Fj rfl rfl,trivial⟩
  ·have ht':t=c.length:=by have:=of_decide_eq_false h2; omega
   subst ht';have hsy:lX r.response (cu c r.to)=false:=by rw[<- L8,hml]; exact hs
   conv=>whnf
   have hres:C9 r c=D9 101 r.response (cu c r.to) (vG c.length r.fr) c.length:=by unfold C9; rw[hk,hsy,XD]; rfl
   rw[hres];refine aA.fz 9 2 0 (.bH (vG c.length r.fr)) rfl rfl (ZY rfl rfl) ?_;refine aA.objs 2 [1] (fun t:Nat=>[(11,.int t),(9,.row 0 false (.bH (D9 101 r.response (cu c r.to) (vG c.length r.fr) t))),(5,.own 0),(6,.own 1)]) (fun _=>[(0,iV (cu c r.to)),(1,fD (DW r.response c.length c.length))]) (fun t=>t<=c.length) (fun t=>c.length-t) 0 [0,1] rfl (by decide) (fun _=>rfl) (Nat.zero_le _) ?_ ?_ ?_
   ·exact(sR rfl)
   ·exact⟨dQ rfl rfl,dQ rfl rfl,trivial⟩
   refine⟨(sR rfl),rfl,?_⟩;rintro t ht;refine⟨fun h4=>?_,fun h4=>?_⟩
   ·have ht':t<c.length:=by simpa using h4
    repeat(refine VC.mk (by first|(simp only[Rw.rng,Int.toNat_natCast]; omega)|(simp only[Rw.rng,Int.toNat_natCast,jd]; omega)) ?_; conv=>whnf)
    have hfT:(DW r.response c.length c.length).getD ((t:Int)).toNat []=gZ r.response t:=by
     rw[Int.toNat_natCast,DX ht']; unfold lY gZ; rw[hrl]
    obtain⟨nn,hnn⟩: ∃ nn:Nat,(cu c r.to).getD t 0=(nn:Int):=⟨((cu c r.to).getD t 0).toNat,by have:=hdp t; omega⟩
    have hnb:=jC hdc t;rw[show(cu c r.to).getD ((t:Int)).toNat 0=(nn:Int) from hnn];have hnext:=IJ (m:=101) (resp:=r.response) (need:=cu c r.to) (out:=vG c.length r.fr) (n:=t);refine⟨fun h5=>?_,fun h5=>?_⟩
    ·have hn1:0<nn:=by have:=of_decide_eq_true h5; omega
     have hst:=Am hsy hdp;have hO: ∀ d∈D9 101 r.response (cu c r.to) (vG c.length r.fr) t,d.length=c.length/\ ∀ j,0<=d.getD j 0/\d.getD j 0+((gZ r.response t).length:Int)*2097152<=2^40:=by
      intro d hd;rw[JV (m:=101) (show(vG c.length r.fr).length<=101 from by unfold vG; simp) hst] at hd;have hd2:=List.mem_of_mem_take hd;rw[<- hml] at hd2;obtain⟨b1,b2⟩:=ab9 hdc (by omega) (by omega) (t:=t) (by omega) (by omega) d hd2;have hfl:(gZ r.response t).length<=r.response.length:=zH;exact⟨by omega,fun j=>by have:=b2 j; omega⟩
     have hlO:(D9 101 r.response (cu c r.to) (vG c.length r.fr) t).length<=101:=by
      rw[JV (m:=101) (show(vG c.length r.fr).length<=101 from by unfold vG; simp) hst,List.length_take]; omega
     have hfl:(gZ r.response t).length<=r.response.length:=zH;have hfr:qQ c.length (gZ r.response t):=fun x hx=>by have:=OO (i:=r.response.length) x hx; omega
     have hres:qF 101 [] ((D9 101 r.response (cu c r.to) (vG c.length r.fr) t).flatMap fun d=>Bg d (gZ r.response t) nn)=D9 101 r.response (cu c r.to) (vG c.length r.fr) (t+1):=by
      rw[hnext];unfold yu;rw[hnn,beq_eq_false_iff_ne.2 (by omega)]; rfl
     repeat(refine VC.mk (by first|(simp only[Rw.rng,Int.toNat_natCast]; omega)|(simp only[Rw.rng,Int.toNat_natCast,jd]; omega)) ?_; conv=>whnf)
     rw[hfT,show(cu c r.to).getD ((t:Int)).toNat 0=(nn:Int) from hnn];refine ah.pure (S.xZ (D9 101 r.response (cu c r.to) (vG c.length r.fr) t) (gZ r.response t) nn 101 c.length false false (hst t (by omega)) hfr hO (by omega) (by omega) (by omega) (by decide) (by omega)) rfl ?_;rw[hres];refine .mk (by first|(simp only[okI]; omega)|omega) ?_;exact⟨t+1,[0,1],ht',by omega,(sR rfl),(sR rfl),dQ rfl rfl,dQ rfl rfl,trivial⟩
    ·have hn1:nn=0:=by have:=of_decide_eq_false h5; omega
     have hres:D9 101 r.response (cu c r.to) (vG c.length r.fr) (t+1)=D9 101 r.response (cu c r.to) (vG c.length r.fr) t:=by
      rw[hnext];unfold yu;rw[hnn,hn1];show List.take 101 (D9 101 r.response (cu c r.to) (vG c.length r.fr) t)=_;refine List.take_of_length_le ?_;rw[JV (m:=101) (show(vG c.length r.fr).length<=101 from by unfold vG; simp) (Am hsy hdp),List.length_take]; omega
     refine .mk (by first|(simp only[okI]; omega)|omega) ?_;refine⟨t+1,[0,1],ht',by omega,⟨⟨_,rfl,.eq rfl⟩,⟨_,rfl,.eq (by rw[hres]; rfl)⟩,⟨_,rfl,.eq rfl⟩,⟨_,rfl,.eq rfl⟩,trivial⟩,(sR rfl),dQ rfl rfl,dQ rfl rfl,trivial⟩
   ·have ht':t=c.length:=by have:=of_decide_eq_false h4; omega
    subst ht';exact ak.eqv rfl
theorem VX{r:Rule}{c:List Int}(hp:oN c.length r)(h0:Nw c)(hl:c.length<=6): ∀ l∈C9 r c,l.length=c.length:=by
 intro l h;rcases Xq hp (fun j=>(jC h0 j).1) with e|⟨_,e⟩<;>rw[e] at h
 ·exact Aq hp h0 hl l h
 ·exact Aq hp h0 hl l (List.mem_of_mem_take h)
theorem ace{m:Nat}{resp need:List Int}{out:List (List Int)}(h:out.length<=m): ∀ n,(D9 m resp need out n).length<=m:=by
 intro n;cases n with
 |zero=>exact h
 |succ n=>rw[IJ,List.length_take]; omega
theorem acf{r:Rule}{c:List Int}(hx:r.ex.length<=100):(C9 r c).length<=101:=by
 unfold C9 cntF;cases r.kind==3 with
 |true =>
  cases lX r.response (cu c r.to) with
  |true=>exact Nat.zero_le _
  |false=>exact ace (by simp) _
 |false =>
  cases r.kind==1 with
  |true =>
   cases qR r (cu c r.to) with
   |true=>exact(by decide:1<=101)
   |false=>simp only[cond_true,cond_false,List.length_map]; omega
  |false=>cases r.kind==2<;>exact(by decide:1<=101)
theorem acg{p:aJ}{r:Rule}{v:Int}(hv:p.values.length<2^20):(kK p r v).length<2^21:=by
 unfold kK;cases decide (0<=r.write)&&r.write !=v
 ·cases decide (r.write<0)&&(decide (0<=r.read)&&r.read !=v)
  ·cases decide (0<=r.read)
   ·cases decide (r.write<0)
    ·show((List.range _).map _).length<_;rw[List.length_map,List.length_range]; omega
    ·exact(by decide:(1:Nat)<2^21)
   ·exact(by decide:(1:Nat)<2^21)
  ·exact(by decide:(0:Nat)<2^21)
 ·exact(by decide:(0:Nat)<2^21)
set_option maxHeartbeats 4000000 in
theorem S.uY(p:aJ)(i:Nat)(e:Elem)(hp:dW p)(hF:Ey p e)(hi:i<p.rules.length)(ha:(p.rules.getD i default).all=[])(hval: ∀ r∈p.rules,0<=r.write->0<p.values.length):aj Tryz.prog 53 [.dat (.fQ p),.int i,.dat (.elem e)] (MC (VP p (p.rules.getD i default) e)):=by
 have hX:=hF.Je (r:=p.rules.getD i default) (by rw[getD_some hi]; exact List.getElem_mem hi);have hr:=hp.rule i;have h0:=hF.nums;have hst:=hF.valid.states;have hlen:=hF.len;have hx:=hX.xl;have hsrc:=hX.rf.place.src;have hr0:p.rules.getD i default∈p.rules:=by rw[getD_some hi]; exact List.getElem_mem hi
 generalize hre:p.rules.getD i default=r at hX hr ha hx hr0;generalize hres:MC (VP p r e)=res;have hvl:(kK p r e.value).length<2^21:=acg hp.values;have hcl:=VX hX.rf.place h0 (by omega);have hcn:=acf (c:=e.counts) (r:=r) (by omega);have hpos: ∀ i,0<=e.counts.getD i 0:=fun i=>(jC h0 i).1
 refine aj.of Bd.uY (by simp) rfl (by rw[<- hres]; rfl) ?_;refine .mk (by simp only[Rw.rng]; omega) ?_;conv=>whnf
 rw[show p.rules.getD ((i:Int)).toNat default=r from hre];obtain⟨cs,Zy⟩: ∃ cs,cs=C9 r e.counts:=⟨_,rfl⟩
 obtain⟨vs,ahf⟩: ∃ vs,vs=kK p r e.value:=⟨_,rfl⟩
 have hbef:=S.xU p r e.value hp.values (hval r hr0);rw[<- ahf] at hbef hvl;rw[<- Zy] at hcl hcn;have hM:Ns p r e=oh vs cs vs.length 0:=by rw[MB,ahf,Zy]; rfl
 rw[VP,hM] at hres;have hmul:cs.length*vs.length<=101*2^21:=Nat.mul_le_mul hcn (Nat.le_of_lt hvl);rw[Nat.mul_comm] at hmul;have hN: ∀ i,i<=vs.length-> ∀ j,j<=cs.length->(oh vs cs i j).length<=101*2^21+101:=fun i h j k=>by
  rw[Me h k];have:=Nat.mul_le_mul_right cs.length h;omega
 rcases hX.rf.kind with hk|hk|hk
 case' inl =>
  have hcs:cntF r e.counts=C9 r e.counts:=by unfold C9; rw[hk]; rfl
  have hloc:=S.zK r e.counts false h0 hX.rf.place hk ha (by omega) (by omega);rw[hcs,<- Zy] at hloc;refine Fork.mk (fun _=>?_) (fun q=>absurd (q.symm.trans (beq_iff_eq.2 hk)) Bool.false_ne_true);refine ah.pure hloc rfl ?_;refine ah.pure hbef rfl ?_;refine aA.nil 11 35 3 (by rfl) rfl rfl rfl ?_;refine aA.objs 3 [3] (fun i:Nat=>[(12,.int i),(9,.row 0 false (.bH cs)),(10,.row 0 false (.ints vs)),(11,.own 2)]) (fun i=>[(0,yg p),(2,bI (oh vs cs i 0))]) (fun i=>i<=vs.length) (fun i=>vs.length-i) 0 [0,29] rfl (by decide) (fun _=>rfl) (Nat.zero_le _) (sR rfl) ⟨dQ rfl rfl,dQ rfl rfl,trivial⟩ ?_
 case' inr.inl =>
  have hcs:C9 r e.counts=[jZ r e.counts]:=by unfold C9 cntF; rw[hk]; rfl
  rw[hcs] at Zy;refine Fork.mk (fun q=>absurd (q.symm.trans (beq_eq_false_iff_ne.2 (by omega))).symm Bool.false_ne_true) (fun _=>?_);refine Fork.mk (fun _=>?_) (fun q=>absurd (q.symm.trans (beq_iff_eq.2 hk)) Bool.false_ne_true);refine ah.pure (S.zJ r e.counts false (fun j=>by have:=jC h0 j; omega) (by omega) (by omega)) rfl ?_;refine ah.pure hbef rfl ?_;refine aA.fz 9 22 0 (.bH cs) rfl rfl (XA rfl rfl (by rw[Zy]; rfl)) ?_;refine aA.nil 11 35 3 (by rfl) rfl rfl rfl ?_;refine aA.objs 3 [3] (fun i:Nat=>[(12,.int i),(9,.row 0 false (.bH cs)),(10,.row 0 false (.ints vs)),(11,.own 2)]) (fun i=>[(0,yg p),(2,bI (oh vs cs i 0))]) (fun i=>i<=vs.length) (fun i=>vs.length-i) 0 [0,32] rfl (by decide) (fun _=>rfl) (Nat.zero_le _) (sR rfl) ⟨dQ rfl rfl,dQ rfl rfl,trivial⟩ ?_
 case' inr.inr =>
  have hbr:=S.qO r e.counts false h0 hX.rf.place hk (by omega);rw[<- Zy] at hbr;refine Fork.mk (fun q=>absurd (q.symm.trans (beq_eq_false_iff_ne.2 (by omega))).symm Bool.false_ne_true) (fun _=>?_);refine Fork.mk (fun q=>absurd (q.symm.trans (beq_eq_false_iff_ne.2 (by omega))).symm Bool.false_ne_true) (fun _=>?_);refine Fork.mk (fun _=>?_) (fun q=>absurd (q.symm.trans (beq_iff_eq.2 hk)) Bool.false_ne_true);refine ah.pure hbr rfl ?_;refine ah.pure hbef rfl ?_;refine aA.nil 11 35 3 (by rfl) rfl rfl rfl ?_;refine aA.objs 3 [3] (fun i:Nat=>[(12,.int i),(9,.row 0 false (.bH cs)),(10,.row 0 false (.ints vs)),(11,.own 2)]) (fun i=>[(0,yg p),(2,bI (oh vs cs i 0))]) (fun i=>i<=vs.length) (fun i=>vs.length-i) 0 [0,33] rfl (by decide) (fun _=>rfl) (Nat.zero_le _) (sR rfl) ⟨dQ rfl rfl,dQ rfl rfl,trivial⟩ ?_
 all_goals
  refine⟨(sR rfl),rfl,?_⟩;rintro i hi;refine⟨fun h4=>?_,fun h4=>?_⟩
  ·have hi':i<vs.length:=by simpa using h4
   refine aA.objs 3 [3] (fun j:Nat=>[(13,.int j),(12,.int i),(9,.row 0 false (.bH cs)),(10,.row 0 false (.ints vs)),(11,.own 2)]) (fun j=>[(0,yg p),(2,bI (oh vs cs i j))]) (fun j=>j<=cs.length) (fun j=>cs.length-j) 0 [0,2] rfl (by decide) (fun _=>rfl) (Nat.zero_le _) (sR rfl) ⟨dQ rfl rfl,dQ rfl rfl,trivial⟩ ?_;refine⟨(sR rfl),rfl,?_⟩;rintro j hj;have hNj:=hN i hi j hj;refine⟨fun h5=>?_,fun h5=>?_⟩
   ·have hj':j<cs.length:=by simpa using h5
    have hnx:=OU (vs:=vs) (i:=i) hj';repeat(refine VC.mk (by first|(first|(simp only[Rw.rng,Int.toNat_natCast]; omega)|(show((oh vs cs i j).length+1)*32<=140737488355328/\(oh vs cs i j).length+1<=1152921504606846976; omega))|(simp only[okI] at *; omega)) ?_)
    exact⟨j+1,[0,18],hj',by omega,(sR rfl),(sR rfl),dQ rfl rfl,⟨rfl,nofun,rfl,rfl,rfl,_,rfl,rfl,rfl,dU.of_eq (by rw[hnx]; rfl)⟩,trivial⟩
   ·have hj':j=cs.length:=by have:=of_decide_eq_false h5; omega
    subst hj';rw[<- OW hi'];repeat(refine VC.mk (by simp only[okI] at *; omega) ?_)
    exact⟨i+1,[0,2],hi',by omega,(sR rfl),(sR rfl),dQ rfl rfl,dQ rfl rfl,trivial⟩
  ·have hi':i=vs.length:=by have:=of_decide_eq_false h4; omega
   subst hi';have hNv:=hN vs.length (Nat.le_refl _) 0 (Nat.zero_le _);have hsm:BI (oh vs cs vs.length 0):=fun x hx=>by have:=hcl _ (TN hx); omega
   refine ah.shut (fun c=>c≠0) (h2:=[(0,some (yg p))]) ⟨dJ (Z:=fun c=>c≠0) (i:=0) (o:=yg p) rfl (fun q=>q rfl),trivial⟩ (S.sF (oh vs cs vs.length 0) false (by omega) hsm) ⟨KA (by decide) rfl,trivial⟩ ?_;rw[<- UY];have hml:=zW (oh vs cs vs.length 0);have hms: ∀ x∈aY (oh vs cs vs.length 0),x.counts.length<2^30:=fun x hx=>hsm x (ug hx)
   generalize aY (oh vs cs vs.length 0)=ms at hres hml hms;refine⟨fun h6=>?_,fun h6=>?_⟩
   ·have h6':decide (100<ms.length)=true:=decide_eq_true (by have:=of_decide_eq_true h6; omega);rw[h6',Bool.true_or,cond_true] at hres;rw[<- hres];exact ak.wO
   have h6':decide (100<ms.length)=false:=decide_eq_false (by have:=of_decide_eq_false h6; omega);rw[h6',Bool.false_or] at hres;refine aA.objs 1 [3] (fun i:Nat=>[(14,.int i),(11,.row 3 false (.elems ms))]) (fun _=>[(0,yg p)]) (fun i=>i<=ms.length/\(ms.take i).any (jU p)=false) (fun i=>ms.length-i) 0 [0] rfl (by decide) (fun _=>rfl) ⟨Nat.zero_le _,rfl⟩ (sR rfl) ⟨dQ rfl rfl,trivial⟩ ?_;refine⟨(sR rfl),rfl,?_⟩;rintro k ⟨hk1,hk2⟩;refine⟨fun h7=>?_,fun h7=>?_⟩
   ·have hk':k<ms.length:=by simpa using h7
    have hmk:ms.getD k default∈ms:=by rw[getD_some hk']; exact List.getElem_mem hk'
    repeat(refine VC.mk (by first|(simp only[Rw.rng]; omega)|(simp only[Rw.rng]; omega)) ?_)
    refine ah.pure (S.x8 p (ms.getD k default) hp (hms _ hmk)) rfl ?_;refine⟨fun h8=>?_,fun h8=>?_⟩
    ·have h8':jU p (ms.getD k default)=true:=by
      have:(!(!(jU p (ms.getD k default))))=true:=h8
      simpa using this
     have hany:ms.any (jU p)=true:=List.any_eq_true.2 ⟨_,hmk,h8'⟩;rw[hany,cond_true] at hres;rw[<- hres];exact ak.wO
    ·have h8':jU p (ms.getD k default)=false:=by
      have:(!(!(jU p (ms.getD k default))))=false:=h8
      simpa using this
     repeat(refine VC.mk (by simp only[okI] at *; omega) ?_)
     exact⟨k+1,[0],⟨hk',by rw[List.take_succ_eq_append_getElem hk',List.any_append,hk2,<- getD_some (d:=default) hk',List.any_cons,h8']; rfl⟩,by omega,(sR rfl),(sR rfl),dQ rfl rfl,trivial⟩
   ·have hk':k=ms.length:=by have:=of_decide_eq_false h7; omega
    rw[hk',List.take_length] at hk2;rw[hk2,cond_false] at hres;rw[<- hres,hk'];exact ak.eqv rfl
theorem aen{p:aJ}(h:yX p=0):(iq p).cover=true:=by
 unfold yX at h;obtain⟨_,h⟩:=bz nz h;cases hc:(iq p).cover with
 |true=>rfl
 |false=>rw[hc] at h; exact absurd h (by decide)
theorem aeo{p:aJ}(h:yX p=0): ∀ r∈p.rules,r.all=[]:=(XL (aen h)).2
theorem af8{p:aJ}{e:Elem}(hF:Ey p e): ∀ r∈p.rules,0<=r.write->0<p.values.length:=by
 intro r hr hw;rcases(hF.Je hr).rf.wr with h|h
 ·simp only[pG,Bool.or_eq_false_iff,decide_eq_false_iff_not] at h; omega
 ·omega
theorem S.Qw(p:aJ)(i:Nat)(e:Elem)(hp:dW p)(hF:Ey p e)(hi:i<p.rules.length)(ha: ∀ r∈p.rules,r.all=[]):aj Tryz.prog 53 [.dat (.fQ p),.int i,.dat (.elem e)] (MC (uy p (p.rules.getD i default) e)):=by
 have hm:p.rules.getD i default∈p.rules:=by rw[getD_some hi]; exact List.getElem_mem hi
 have hX:=hF.Je hm;have h:=S.uY p i e hp hF hi (ha _ hm) (af8 hF);rwa [ad5 hX.rf.place hX.nd (fun j=>(jC hF.nums j).1) hF.len (TP hX.rf hF.val)] at h
set_option maxHeartbeats 1000000 in
theorem S.uZ(p:aJ)(i:Int)(e:Elem)(hp:dW p)(he:e.counts.length<2^30):aj Tryz.prog 21 [.dat (.fQ p),.int i,.dat (.elem e)] (MC (Hg p i e)):=by
 have hpr:=hp.rules;generalize hres:MC (Hg p i e)=res;refine aj.of Bd.uZ (by simp) rfl (by rw[<- hres]; rfl) ?_;refine ah.pure (S.pO p hp) rfl ?_;refine⟨fun h1=>?_,fun h1=>?_⟩
 ·replace h1:(bD p !=0)=true:=h1;conv=>whnf
  have hc:yX p=bD p:=by unfold yX; rw[h1]; rfl
  rw[<- hres,Hg,hc,h1];exact ak.wO
 replace h1:(bD p !=0)=false:=h1;refine⟨fun h2=>?_,fun h2=>?_⟩
 ·replace h2:(!(bif bD p !=0 then J7 else iq p).cover)=true:=h2;conv=>whnf
  have hc:yX p=7:=by unfold yX; rw[h1] at h2 ⊢; rw[show(iq p).cover=false by simpa using h2]; rfl
  rw[<- hres,Hg,hc];exact ak.wO
 replace h2:(!(bif bD p !=0 then J7 else iq p).cover)=false:=h2;have hc:yX p=0:=by unfold yX; rw[h1] at h2 ⊢; rw[show(iq p).cover=true by simpa using h2]; rfl
 refine ah.pure (S.x8 p e hp he) rfl ?_;refine⟨fun h3=>?_,fun h3=>?_⟩
 ·have h3':jU p e=true:=by
   replace h3:(!(!(jU p e)))=true:=h3;simpa using h3
  conv=>whnf
  rw[<- hres,Hg,hc,h3'];exact ak.wO
 have h3':jU p e=false:=by
  replace h3:(!(!(jU p e)))=false:=h3;simpa using h3
 have hF:=GZ hc h3';repeat(refine VC.mk (by first|exact id|exact fun h=>⟨h,h⟩|(intro h; rw[h]; rfl)) ?_)
 refine⟨fun h4=>?_,fun h4=>?_⟩
 ·replace h4:(decide (i<0)||decide (i>=p.rules.length))=true:=h4;conv=>whnf
  rw[<- hres,Hg,hc,h3',h4];exact ak.wO
 ·replace h4:(decide (i<0)||decide (i>=p.rules.length))=false:=h4;have h4':=h4;simp only[Bool.or_eq_false_iff,decide_eq_false_iff_not] at h4';have hi:i.toNat<p.rules.length:=by omega
  have hpre:=S.Qw p i.toNat e hp hF hi (aeo hc);rw[show((i.toNat:Nat):Int)=i by omega] at hpre;refine ah.pure hpre rfl ?_;conv=>whnf
  rw[<- hres,Hg,hc,h3',h4];exact ak.eqv rfl
theorem DY{α:Type}{P:α->Bool}{l:List α}{i:Nat}{d:α}(h:i<l.length):(l.take (i+1)).all P=((l.take i).all P&&P (l.getD i d)):=by
 rw[List.take_succ_eq_append_getElem h,List.all_append,getD_some h]; simp
theorem DZ{α:Type}{P:α->Bool}{l:List α}{x:α}(h:x∈l)(hx:P x=false):l.all P=false:=by
 cases ha:l.all P with
 |false=>rfl
 |true=>rw[List.all_eq_true.1 ha x h] at hx; cases hx
theorem ZK{α:Type}{l:List α}{i:Nat}{d:α}(h:i<l.length):l.getD i d∈l:=by rw[getD_some h]; exact List.getElem_mem h
theorem VY{p:aJ}{i:Int}{e:Elem}:(Hg p i e).2.length<=100/\dX (Hg p i e).2:=by
 unfold Hg;cases hc:yX p !=0 with
 |true=>exact⟨Nat.zero_le _,fun x h=>by cases h⟩
 |false =>
  cases hv:jU p e with
  |true=>exact⟨Nat.zero_le _,fun x h=>by cases h⟩
  |false =>
   cases hi:decide (i<0)||decide (i>=p.rules.length) with
   |true=>exact⟨Nat.zero_le _,fun x h=>by cases h⟩
   |false =>
    simp only[Bool.or_eq_false_iff,decide_eq_false_iff_not] at hi;simp only[cond_false];refine⟨GY,fun x h=>?_⟩;have hF:=GZ (Dn hc) hv;have:=Qr (MF hF (by rw[getD_some (by omega)]; exact List.getElem_mem _) h);have h6:=hF.valid.states;omega
set_option maxHeartbeats 1000000 in
theorem S.nP(p:aJ)(q:Prop')(b:List Elem)(i:Int)(f:Bool)(hp:dW p)(hq:jw q)(hl:b.length<2^30)(hs:yN b):aj Tryz.prog 13 [.dat (.fQ p),.dat (.prop q),.row 3 f (.elems b),.int i] (.bool (zI p q b i)):=by
 have hpr:=hp.rules;refine aj.of Bd.nP (by simp) rfl rfl ?_;refine ah.pure (S.vW p q hp hq) rfl ?_;repeat(refine VC.mk (by first|exact id|exact fun h=>⟨h,h⟩|(intro h; rw[h]; rfl)) ?_)
 refine⟨fun h1=>?_,fun h1=>?_⟩
 ·replace h1:(dI p q !=0||decide (i<0)||decide (i>=p.rules.length))=true:=h1;refine ak.bool ?_;unfold zI;cases h2:(dI p q !=0) with
  |true=>rw[show(dI p q==0)=false by simpa using h2]; rfl
  |false =>
   rw[h2,Bool.false_or] at h1;rw[h1,Bool.not_true,Bool.and_false]; rfl
 replace h1:(dI p q !=0||decide (i<0)||decide (i>=p.rules.length))=false:=h1;rw[Bool.or_assoc,Bool.or_eq_false_iff] at h1;have hR:zI p q b i=b.all (Qs p b i):=by unfold zI; rw[h1.2,show(dI p q==0)=true by simpa using h1.1]; rfl
 rw[hR];refine aA.objs 1 [2,3,4] (fun k:Nat=>[(9,.int k)]) (fun _=>[(0,yg p)]) (fun k=>k<=b.length/\(b.take k).all (Qs p b i)=true) (fun k=>b.length-k) 0 [0] rfl (by decide) (fun _=>rfl) ⟨Nat.zero_le _,rfl⟩ (sR rfl) ⟨dQ rfl rfl,trivial⟩ ?_;refine⟨(sR rfl),rfl,?_⟩;rintro k ⟨hk,hall⟩;refine⟨fun h2=>?_,fun h2=>?_⟩
 ·have hk':k<b.length:=by simpa using h2
  have hm:b.getD k default∈b:=ZK hk';obtain⟨x1,x2⟩:=@VY p i (b.getD k default);have hP:=S.uZ p i (b.getD k default) hp (hs _ hm);have hok:Qs p b i (b.getD k default)=((Hg p i (b.getD k default)).1==0&&(Hg p i (b.getD k default)).2.all (Nu b)):=rfl;generalize Hg p i (b.getD k default)=X at x1 x2 hP hok;refine .mk (by first|(simp only[Rw.rng]; omega)|(simp only[Rw.rng]; omega)) ?_;refine ah.pure hP rfl ?_;refine⟨fun h3=>?_,fun h3=>?_⟩
  ·replace h3:(X.1 !=0)=true:=h3;refine ak.bool ?_;rw[DZ hm (by rw[hok,show(X.1==0)=false by simpa using h3]; rfl)]
  replace h3:(X.1 !=0)=false:=h3;rw[show(X.1==0)=true by simpa using h3,Bool.true_and] at hok;refine aA.objs 1 [2,3,4] (fun j:Nat=>[(12,.int j),(9,.int k),(10,.row 3 false (.elems X.2))]) (fun _=>[(0,yg p)]) (fun j=>j<=X.2.length/\(X.2.take j).all (Nu b)=true) (fun j=>X.2.length-j) 0 [0] rfl (by decide) (fun _=>rfl) ⟨Nat.zero_le _,rfl⟩ (sR rfl) ⟨dQ rfl rfl,trivial⟩ ?_;refine⟨(sR rfl),rfl,?_⟩;rintro j ⟨hj,hja⟩;refine⟨fun h4=>?_,fun h4=>?_⟩
  ·have hj':j<X.2.length:=by simpa using h4
   have hmj:X.2.getD j default∈X.2:=ZK hj';refine .mk (by first|(simp only[Rw.rng]; omega)|(simp only[Rw.rng]; omega)) ?_;refine ah.pure (S.mO b (X.2.getD j default) f (by omega) hs.E (x2 _ hmj)) rfl ?_;refine⟨fun h5=>?_,fun h5=>?_⟩
   ·replace h5:(!(Nu b (X.2.getD j default)))=true:=h5;refine ak.bool ?_;rw[DZ hm (by rw[hok]; exact DZ hmj (by simpa using h5))]
   ·replace h5:(!(Nu b (X.2.getD j default)))=false:=h5;refine .mk (by simp only[okI] at *; omega) ?_;exact⟨j+1,[0],⟨hj',by rw[DY (d:=default) hj',hja,Bool.true_and]; simpa using h5⟩,by omega,(sR rfl),(sR rfl),dQ rfl rfl,trivial⟩
  ·have hj':j=X.2.length:=by have:=of_decide_eq_false h4; omega
   rw[hj',List.take_length] at hja;refine .mk (by simp only[okI] at *; omega) ?_;exact⟨k+1,[0],⟨hk',by rw[DY (d:=default) hk',hall,Bool.true_and,hok]; exact hja⟩,by omega,(sR rfl),(sR rfl),dQ rfl rfl,trivial⟩
 ·have hk':k=b.length:=by have:=of_decide_eq_false h2; omega
  rw[hk',List.take_length] at hall;exact ak.bool (by rw[hall])
set_option maxHeartbeats 2000000 in
theorem S.oM(p:aJ)(q:Prop')(b:List Elem)(f:Bool)(hp:dW p)(hq:jw q)(hl:b.length<2^30)(hs:yN b):aj Tryz.prog 15 [.dat (.fQ p),.dat (.prop q),.row 3 f (.elems b)] (.bool (MH p q b)):=by
 have hpr:=hp.rules;generalize hres:MH p q b=res;refine aj.of Bd.oM (by simp) rfl rfl ?_;refine ah.pure (S.vW p q hp hq) rfl ?_;repeat(refine VC.mk (by first|exact id|(intro h; rw[h]; rfl)) ?_)
 refine⟨fun h1=>?_,fun h1=>?_⟩
 ·replace h1:(dI p q !=0||decide (100<(b.length:Int)))=true:=h1;refine ak.bool ?_;rw[<- hres];unfold MH;cases h2:(dI p q !=0) with
  |true=>rw[show(dI p q==0)=false by simpa using h2]; rfl
  |false =>
   rw[h2,Bool.false_or] at h1;have:=of_decide_eq_true h1;rw[show decide (b.length<=100)=false by simp; omega,Bool.and_false]; rfl
 replace h1:(dI p q !=0||decide (100<(b.length:Int)))=false:=h1;rw[Bool.or_eq_false_iff] at h1;have hc:=Dn h1.1;have hb:b.length<=100:=by have:=of_decide_eq_false h1.2; omega
 have hX:MH p q b=(b.all (AY p q)&&(jM p q).all (Nu b)&&(List.range p.rules.length).all fun i:Nat=>zI p q b i):=by
  unfold MH; rw[show(dI p q==0)=true by simpa using h1.1,decide_eq_true hb]; rfl
 rw[hX] at hres;refine aA.objs 2 [2,3,4] (fun k:Nat=>[(7,.int k)]) (fun _=>[(0,yg p),(1,Hl q)]) (fun k=>k<=b.length/\(b.take k).all (AY p q)=true) (fun k=>b.length-k) 0 [0,1] rfl (by decide) (fun _=>rfl) ⟨Nat.zero_le _,rfl⟩ (sR rfl) ⟨dQ rfl rfl,dQ rfl rfl,trivial⟩ ?_;refine⟨(sR rfl),rfl,?_⟩;rintro k ⟨hk,hall⟩;refine⟨fun h2=>?_,fun h2=>?_⟩
 ·have hk':k<b.length:=by simpa using h2
  have hm:b.getD k default∈b:=ZK hk';have hxs:=hs _ hm;have hmo:AY p q (b.getD k default)=(!(jU p (b.getD k default))&& !(wR p q (b.getD k default))):=rfl;refine .mk (by first|(simp only[Rw.rng]; omega)|(simp only[Rw.rng]; omega)) ?_;refine ah.pure (S.x8 p (b.getD k default) hp hxs) rfl ?_;repeat(refine VC.mk (by first|(first|exact id|exact fun _=>(show Rw.rng _ _ by simp only[Rw.rng]; omega)|(intro _; simp only[Rw.rng]; omega))|(intro h; simp only[h,true_and]; done)|(intro h; (repeat' apply And.intro)<;>first|exact h|omega|(simp only[Rw.qH]; omega)|(simp only[Rw.rng]; omega))) ?_)
  refine ah.fV (fun _=>S.uD p q (b.getD k default) hp hq hxs (zS hc)) rfl ?_;refine .mk (by intro h; rw[h]; rfl) ?_;refine⟨fun h3=>?_,fun h3=>?_⟩
  ·replace h3:(!(!(jU p (b.getD k default)))||wR p q (b.getD k default))=true:=h3;refine ak.bool ?_;rw[<- hres,DZ hm (by rw[hmo,<- Bool.not_or]; rw[Bool.not_not] at h3; rw[h3]; rfl)]; rfl
  ·replace h3:(!(!(jU p (b.getD k default)))||wR p q (b.getD k default))=false:=h3;rw[Bool.not_not] at h3;refine .mk (by simp only[okI] at *; omega) ?_;exact⟨k+1,[0,1],⟨hk',by rw[DY (d:=default) hk',hall,Bool.true_and,hmo,<- Bool.not_or,h3]; rfl⟩,by omega,(sR rfl),(sR rfl),dQ rfl rfl,dQ rfl rfl,trivial⟩
 have hk':k=b.length:=by have:=of_decide_eq_false h2; omega
 rw[hk',List.take_length] at hall;rw[hall,Bool.true_and] at hres;obtain⟨l1,l2⟩:=BF p q hp;obtain⟨_,b2,b3,_⟩:=J8 hc;have hv:=J5 b3;have v1:=hv.pos; have v2:=hv.states; have v3:=hv.values;have hbad:jM p q=lD q p.states.length (max 1 p.values.length):=by rw[jM,h1.1]; rfl
 refine ah.pure (S.FI p q p.states.length (max 1 p.values.length) hp hq rfl v1 v2 rfl (by omega) b2) rfl ?_;rw[<- hbad];generalize jM p q=B at hres l1 l2;refine aA.objs 2 [2,3,4] (fun k:Nat=>[(9,.int k),(8,.row 3 false (.elems B))]) (fun _=>[(0,yg p),(1,Hl q)]) (fun k=>k<=B.length/\(B.take k).all (Nu b)=true) (fun k=>B.length-k) 0 [0,1] rfl (by decide) (fun _=>rfl) ⟨Nat.zero_le _,rfl⟩ (sR rfl) ⟨dQ rfl rfl,dQ rfl rfl,trivial⟩ ?_;refine⟨(sR rfl),rfl,?_⟩;rintro j ⟨hj,hja⟩;refine⟨fun h4=>?_,fun h4=>?_⟩
 ·have hj':j<B.length:=by simpa using h4
  have hmj:B.getD j default∈B:=ZK hj';refine .mk (by first|(simp only[Rw.rng]; omega)|(simp only[Rw.rng]; omega)) ?_;refine ah.pure (S.mO b (B.getD j default) f (by omega) hs.E (l2 _ hmj)) rfl ?_;refine⟨fun h5=>?_,fun h5=>?_⟩
  ·replace h5:(!(Nu b (B.getD j default)))=true:=h5;refine ak.bool ?_;rw[<- hres,DZ hmj (by simpa using h5)]; rfl
  ·replace h5:(!(Nu b (B.getD j default)))=false:=h5;refine .mk (by simp only[okI] at *; omega) ?_;exact⟨j+1,[0,1],⟨hj',by rw[DY (d:=default) hj',hja,Bool.true_and]; simpa using h5⟩,by omega,(sR rfl),(sR rfl),dQ rfl rfl,dQ rfl rfl,trivial⟩
 have hj':j=B.length:=by have:=of_decide_eq_false h4; omega
 rw[hj',List.take_length] at hja;rw[hja,Bool.true_and] at hres;refine aA.objs 2 [2,3,4] (fun k:Nat=>[(10,.int k)]) (fun _=>[(0,yg p),(1,Hl q)]) (fun k=>k<=p.rules.length/\((List.range k).all fun i:Nat=>zI p q b i)=true) (fun k=>p.rules.length-k) 0 [0,1] rfl (by decide) (fun _=>rfl) ⟨Nat.zero_le _,rfl⟩ (sR rfl) ⟨dQ rfl rfl,dQ rfl rfl,trivial⟩ ?_;refine⟨(sR rfl),rfl,?_⟩;rintro i ⟨hi,hia⟩;refine⟨fun h6=>?_,fun h6=>?_⟩
 ·have hi':i<p.rules.length:=by simpa using h6
  refine ah.pure (S.nP p q b i f hp hq hl hs) rfl ?_;refine⟨fun h7=>?_,fun h7=>?_⟩
  ·replace h7:(!(zI p q b i))=true:=h7;refine ak.bool ?_;rw[<- hres,DZ (List.mem_range.2 hi') (by simpa using h7)]
  ·replace h7:(!(zI p q b i))=false:=h7;have h7':zI p q b i=true:=by simpa using h7
   refine .mk (by simp only[okI] at *; omega) ?_;exact⟨i+1,[0,1],⟨hi',by rw[List.range_succ,List.all_append,hia,List.all_cons,h7']; rfl⟩,by omega,(sR rfl),(sR rfl),dQ rfl rfl,dQ rfl rfl,trivial⟩
 ·have hi':i=p.rules.length:=by have:=of_decide_eq_false h6; omega
  rw[hi'] at hia;rw[hia] at hres;exact ak.bool (by rw[<- hres])
end Go.Proofs.YtkmldgihhaooaaaGreatDoor
