/-
 Ways to share, cut: the reference. No condition.
-/
import Derived.Test.YtkmldgihhaooaaaGreatDoorQd
namespace Go.Proofs.YtkmldgihhaooaaaGreatDoor
open Go.Ab Go.Proofs
set_option maxRecDepth 100000
theorem ZB{α:Type}{m:Nat}{o a b:List α}(h:m<=(qI m o a).length):qI m o (a++b)=qI m o a:=by
 unfold qI at h ⊢;rw[List.length_take] at h;rw[<- List.append_assoc,List.take_append_of_le_length (by omega)]
theorem Uj{α:Type}{m:Nat}{o a:List α}:(qI m o a).length<=m:=by
 unfold qI; rw[List.length_take]; omega
theorem ace{α:Type}{m:Nat}{o:List α}(h:o.length<=m):qI m o []=o:=by
 unfold qI; rw[List.append_nil,List.take_of_length_le h]
def Hw(c:List Int)(x:Int)(r:List Int)(n i:Nat):List (List Int):=(List.range i).flatMap fun k:Nat=>Bv (aT c x k) r (n-k)
theorem Pj{c:List Int}{x:Int}{r:List Int}{n i:Nat}:Hw c x r n (i+1)=Hw c x r n i++Bv (aT c x i) r (n-i):=by
 unfold Hw;rw[List.range_succ,List.flatMap_append]; simp
theorem ZC{c:List Int}{x:Int}{r:List Int}{n i j:Nat}(h:i<=j): ∃ b,Hw c x r n j=Hw c x r n i++b:=by
 obtain⟨k,rfl⟩:=Nat.exists_eq_add_of_le h;induction k with
 |zero=>exact⟨[],by simp⟩
 |succ k ih =>
  obtain⟨b,hb⟩:=ih (by omega);rw[<- Nat.add_assoc,Pj,hb,List.append_assoc];exact⟨_,rfl⟩
theorem agn{h:Hz}{i:Nat}{c:List Int}{Z:Nat->Prop}(hz:Z i)(q:h.get i=some (iY c)):T.sub Z h.ay (V.row 0 false (.ints c)).aH (V.own i).aH:=AX hz q
theorem ZE{Z:Nat->Prop}{h:Hz}{j:Nat}{L:List (List Int)}{c:List Int}(hz:Z j)(q:h.get j=some (iY c)):T.dA Z h.ay (fE (L++[c])).au.l (OV.row 24 0 (.bH L) [.own j]).au.l:=by
 have e1:(fE (L++[c])).au.l=L.map Go.Ab.ints++[Go.Ab.ints c]:=by simp[OV.au,Rw.aU,V.aU]
 have e2:(OV.row 24 0 (.bH L) [.own j]).au.l=L.map Go.Ab.ints++[T.own j]:=by simp[OV.au,Rw.aU,V.aU,V.aH]
 rw[e1,e2];exact yx (dJ _) ⟨AX hz q,trivial⟩
theorem ZF{c:List Int}{N:Nat}(h: ∀ j,0<=c.getD j 0/\c.getD j 0+(N:Int)*2097152<=2^40)(k:Nat)(x:Int)(i:Nat){n:Nat}(hn:n<=2097152)(hi:i<=n)(hk:N=k+1)(j:Nat):0<=(aT c x i).getD j 0/\(aT c x i).getD j 0+(k:Int)*2097152<=2^40:=by
 have hj:=h j;have hx:=h x.toNat;subst hk;unfold aT;rw[List.getD_eq_getElem?_getD,List.getElem?_set];rw[List.getD_eq_getElem?_getD] at hj;split
 ·split
  ·simp only[Option.getD_some]; omega
  ·simp only[Option.getD_none]; omega
 ·omega
set_option maxHeartbeats 2000000 in
theorem S.shared: ∀ (ps:List Int) (L:List (List Int)) (c:List Int) (n m:Nat) (f g:Bool),ps≠[]->qU c.length ps->(∀ j,0<=c.getD j 0/\c.getD j 0+ps.length*2097152<=2^40)->ps.length<2^18->n<=2097152->c.length<2^20->L.length<=m->m<=2^20 ->
  aP Tryz.prog 140 (V.aU [.own 0,.row 0 f (.ints c),.row 0 g (.ints ps),.int n,.int m]) (Hz.ay [(0,some (fE L))]) 1 (fun t hp=>(m<=L.length/\t= .own 0/\hp=Hz.ay [(0,some (fE L))])\/(L.length<m/\t= .own 1/\hp=Hz.ay [(1,some (fE (qI m L (Bv c ps n))))])):=by
 intro ps;induction ps with
 |nil=>intro L c n m f g h; exact absurd rfl h
 |cons x r ih =>
  intro L c n m f g _ hp hc hpl hn hcl hL hm;by_cases hfull:m<=L.length
  ·refine oL.of (h0:=[(0,some (fE L))]) (nx:=1) Bd.AO (by simp) ⟨_,_,.inl ⟨hfull,rfl,rfl⟩⟩ rfl rfl ?_;refine Fork.mk (fun _=>?_) (fun q=>absurd (q.symm.trans (decide_eq_true (by omega))) Bool.false_ne_true);exact iP.one (c:=0) (j:=0) (o:=fE L) (t:=.own 0) rfl rfl rfl (fun _=>rfl) (.inl rfl) rfl (.eq rfl) (.inl ⟨hfull,rfl,rfl⟩)
  have hlt:L.length<m:=by omega
  have hx:=hp x (by simp);have hcx:=hc x.toNat;refine oL.of (h0:=[(0,some (fE L))]) (nx:=1) Bd.AO (by simp) ⟨_,_,.inr ⟨hlt,rfl,rfl⟩⟩ rfl rfl ?_;rw[List.length_cons] at hcx hpl;refine Fork.mk (fun q=>absurd (q.symm.trans (decide_eq_false (by omega))).symm Bool.false_ne_true) (fun _=>?_);conv=>whnf
  cases r with
  |nil =>
   have hS:qI m L (Bv c [x] n)=L++[aT c x n]:=by
    unfold qI;simp only[Bv];rw[List.take_of_length_le (by rw[List.length_append]; simp; omega)]
   refine Fork.mk (fun _=>?_) (fun q=>absurd (q.symm.trans (rfl)) Bool.false_ne_true);repeat(refine VC.mk (by first|(simp only[jH,jP,Rw.len]; omega)|(simp only[okI,Rw.rng] at *; first|omega|(simp_all; done)|(simp_all; omega))) ?_)
   refine .mk (by first|(simp only[Rw.rng]; omega)|(simp only[okI]; omega)|(simp only[jH,jP,Rw.len]; omega)|(show(L.length+(0+1))*24<=140737488355328/\L.length+(0+1)<=1152921504606846976; omega)) ?_;exact iP.ah7 (c:=1) (j:=26) (o:=fE (L++[aT c x n])) (o':=OV.row 24 0 (.bH L) [.own 11]) rfl rfl rfl (ZE (Z:=fun i=>i≠26) (by decide) rfl) rfl rfl nofun (.inr rfl) (.inr ⟨hlt,rfl,by rw[hS]⟩)
  |cons y r =>
   refine Fork.mk (fun q=>absurd (q.symm.trans (beq_eq_false_iff_ne.2 (by simp only[List.length_cons]; omega))).symm Bool.false_ne_true) (fun _=>?_);refine aA.objs 6 [1,2,3,4] (fun i:Nat=>[(12,.int i),(0,.own 5)]) (fun i=>[(5,fE (qI m L (Hw c x (y::r) n i)))]) (fun i=>i<=n+1) (fun i=>n+1-i) 0 [0] rfl (by decide) (fun _=>rfl) (Nat.zero_le _) ?_ ?_ ?_
   ·exact(sR rfl)
   ·exact⟨⟨rfl,nofun,rfl,rfl,rfl,_,rfl,rfl,rfl,dP.of_eq (by rw[show Hw c x (y::r) n 0=[] from rfl,ace hL])⟩,trivial⟩
   refine⟨(sR rfl),rfl,?_⟩;rintro i hi;have hcu:(qI m L (Hw c x (y::r) n i)).length<=m:=Uj;repeat(refine VC.mk (by first|exact id|exact fun h=>⟨h,h⟩) ?_)
   refine⟨fun h1=>?_,fun h1=>?_⟩
   ·rw[Bool.and_eq_true,decide_eq_true_eq,decide_eq_true_eq] at h1;obtain⟨h1,h2⟩:=h1;repeat(refine VC.mk (by first|(first|(simp only[Rw.rng]; omega)|(simp only[okI]; omega)|(simp only[Rw.qY,List.length_cons]; omega))|(simp only[jH,jP,Rw.len]; omega)|(simp only[okI,Rw.rng] at *; first|omega|(simp_all; done)|(simp_all; omega))) ?_)
    rw[show((n:Int)-(i:Int))=((n-i:Nat):Int) by omega];have hcc:=ZF hc (y::r).length x i hn (by omega) (by simp);refine ah.ah6 (args':=[.own 5,.row 0 false (.ints (aT c x i)),.row 0 g (.ints (y::r)),.int (n-i:Nat),.int m]) (h2:=[(5,some (fE (qI m L (Hw c x (y::r) n i))))]) (fun j=>j≠5) ⟨dM (Z:=fun j=>j≠5) (i:=5) rfl (fun q=>q rfl),trivial⟩ ⟨aC _,agn (i:=17) (by decide) rfl,aC _,aC _,aC _,trivial⟩ ?_;refine ah.KC (i:=5) (ts:=[.own 0,.row 0 false (.ints (aT c x i)),.row 0 g (.ints (y::r)),.int (n-i:Nat),.int m]) (ih (qI m L (Hw c x (y::r) n i)) (aT c x i) (n-i) m false g (by simp) (by rw[y7]; exact fun q hq=>hp q (.tail _ hq)) hcc (by omega) (by omega) (by rw[y7]; exact hcl) (by omega) hm) rfl rfl rfl rfl rfl rfl ?_;rintro t hp' (⟨g1,rfl,rfl⟩|⟨g1,rfl,rfl⟩)
    ·omega
    refine .inr ⟨.own 37,_,rfl,rfl,rfl,?_⟩;rw[IY,<- Pj];refine .mk (by first|(simp only[okI]; omega)|omega) ?_;exact⟨i+1,[37],by omega,by omega,(sR rfl),(sR rfl),dL rfl rfl,trivial⟩
   ·have hS:qI m L (Hw c x (y::r) n i)=qI m L (Bv c (x::y::r) n):=by
     by_cases h2:i=n+1
     ·subst h2; rfl
     ·have h3:m<=(qI m L (Hw c x (y::r) n i)).length:=by
       rcases Nat.lt_or_ge (qI m L (Hw c x (y::r) n i)).length m with h4|h4
       ·rw[Bool.and_eq_false_iff,decide_eq_false_iff_not,decide_eq_false_iff_not] at h1;omega
       ·exact h4
      obtain⟨b,hb⟩:=ZC (c:=c) (x:=x) (r:=y::r) (n:=n) (i:=i) (j:=n+1) hi;show _=qI m L (Hw c x (y::r) n (n+1));rw[hb,<- IY];unfold qI at h3 ⊢;rw[List.take_append_of_le_length h3,List.take_take,Nat.min_self]
    rw[hS];exact iP.one (c:=1) (j:=5) (o:=fE (qI m L (Bv c (x::y::r) n))) (t:=.own 1) rfl rfl rfl nofun (.inr rfl) rfl (.eq rfl) (.inr ⟨hlt,rfl,rfl⟩)
def JH(m:Nat)(O:List (List Int))(fr:List Int)(n i:Nat):List (List Int):=qI m [] ((O.take i).flatMap fun c=>Bv c fr n)
theorem ZG{m:Nat}{O:List (List Int)}{fr:List Int}{n i:Nat}(hi:i<O.length):qI m (JH m O fr n i) (Bv (O.getD i []) fr n)=JH m O fr n (i+1):=by
 unfold JH;rw[IY,List.take_succ_eq_append_getElem hi,List.flatMap_append,getD_some hi];simp
theorem ZH{m:Nat}{O:List (List Int)}{fr:List Int}{n i:Nat}(h:m<=(JH m O fr n i).length):JH m O fr n i=qI m [] (O.flatMap fun c=>Bv c fr n):=by
 conv=>rhs; rw[<- List.take_append_drop i O,List.flatMap_append]
 exact(ZB h).symm
set_option maxHeartbeats 2000000 in
theorem S.xZ(O:List (List Int))(fr:List Int)(n m N:Nat)(f g:Bool)(hf:fr≠[])(hp:qU N fr)(hO: ∀ c∈O,c.length=N/\ ∀ j,0<=c.getD j 0/\c.getD j 0+fr.length*2097152<=2^40)(hfl:fr.length<2^18)(hn:n<=2097152)(hN:N<2^20)(hm:m<=2^20)(hOl:O.length<2^40) :
  ak Tryz.prog 123 [.row 0 f (.bH O),.row 0 g (.ints fr),.int n,.int m] (.row 0 false (.bH (qI m [] (O.flatMap fun c=>Bv c fr n)))):=by
 refine ak.of Bd.xZ (by simp) rfl rfl ?_;refine aA.nil 9 24 0 (by rfl) rfl rfl rfl ?_;refine aA.objs 6 [0,1,2,3] (fun i:Nat=>[(10,.int i),(9,.own 5)]) (fun i=>[(5,fE (JH m O fr n i))]) (fun i=>i<=O.length) (fun i=>O.length-i) 0 [3] rfl (by decide) (fun _=>rfl) (Nat.zero_le _) ?_ ?_ ?_
 ·exact(sR rfl)
 ·exact⟨⟨rfl,nofun,rfl,rfl,rfl,_,rfl,rfl,rfl,dP.of_eq (by unfold JH qI; simp; rfl)⟩,trivial⟩
 refine⟨(sR rfl),rfl,?_⟩;rintro i hi;have hcu:(JH m O fr n i).length<=m:=Uj;repeat(refine VC.mk (by first|exact id|exact fun h=>⟨h,h⟩) ?_)
 refine⟨fun h1=>?_,fun h1=>?_⟩
 ·rw[Bool.and_eq_true,decide_eq_true_eq,decide_eq_true_eq] at h1;obtain⟨h1,h2⟩:=h1;have hi':i<O.length:=by omega
  obtain⟨hc1,hc2⟩:=hO (O.getD i []) (by rw[getD_some hi']; exact List.getElem_mem hi');refine .mk (by first|(simp only[Rw.rng]; omega)|(simp only[okI]; omega)) ?_;refine ah.KC (i:=5) (ts:=[.own 0,.row 0 false (.ints (O.getD i [])),.row 0 g (.ints fr),.int n,.int m]) (S.shared fr (JH m O fr n i) (O.getD i []) n m false g hf (by rw[hc1]; exact hp) hc2 hfl hn (by omega) (by omega) hm) rfl rfl rfl rfl rfl rfl ?_;rintro t hp' (⟨g1,rfl,rfl⟩|⟨g1,rfl,rfl⟩)
  ·omega
  refine .inr ⟨.own 24,_,rfl,rfl,rfl,?_⟩;rw[ZG hi'];refine .mk (by first|(simp only[okI]; omega)|omega) ?_;exact⟨i+1,[24],by omega,by omega,(sR rfl),(sR rfl),dL rfl rfl,trivial⟩
 ·have hS:JH m O fr n i=qI m [] (O.flatMap fun c=>Bv c fr n):=by
   by_cases h2:i=O.length
   ·subst h2; unfold JH; rw[List.take_length]
   ·refine ZH ?_;rcases Nat.lt_or_ge (JH m O fr n i).length m with h4|h4
    ·rw[Bool.and_eq_false_iff,decide_eq_false_iff_not,decide_eq_false_iff_not] at h1;omega
    ·exact h4
  rw[hS];exact aj.aao rfl
def Hy(f:Nat->Int)(n i:Nat):List Int:=(List.range i).map f++List.replicate (n-i) 0
theorem ZI{f:Nat->Int}{n i:Nat}(h:i<=n):(Hy f n i).length=n:=by simp[Hy]; omega
theorem ZJ{f:Nat->Int}{n i:Nat}(h:i<n):(Hy f n i).set i (f i)=Hy f n (i+1):=by
 unfold Hy;rw[show n-i=(n-(i+1))+1 by omega,List.replicate_succ,List.set_append_right _ _ (by simp),List.range_succ,List.map_append];simp
theorem ZK{f:Nat->Int}{n:Nat}:Hy f n n=(List.range n).map f:=by simp[Hy]
def XM(r:Rule)(c:List Int)(x:Nat):Int:=max (Di r x) (c.getD x 0-Js r x+Di r x)
theorem ZL{r:Rule}{c:List Int}:Hy (XM r c) c.length c.length=jZ r c:=ZK
theorem afb{a b:Int}:(if a=b then(1:Int) else 0)=bif a==b then 1 else 0:=by
 by_cases h:a=b
 ·rw[if_pos h,beq_iff_eq.2 h]; rfl
 ·rw[if_neg h,beq_eq_false_iff_ne.2 h]; rfl
theorem acf{a b c d:Int}:(if a=b/\c=d then(1:Int) else 0)=bif a==b&&c==d then 1 else 0:=by
 by_cases h:a=b
 ·by_cases k:c=d
  ·rw[if_pos ⟨h,k⟩,beq_iff_eq.2 h,beq_iff_eq.2 k]; rfl
  ·rw[if_neg fun q=>k q.2,beq_iff_eq.2 h,beq_eq_false_iff_ne.2 k]; rfl
 ·rw[if_neg fun q=>h q.1,beq_eq_false_iff_ne.2 h]; rfl
theorem ZM{r:Rule}{x:Nat}:Di r x=(bif (x:Int)==r.fr then 1 else 0)+(bif r.kind==2&&(x:Int)==r.jh then 1 else 0):=by
 unfold Di; rw[afb,acf]
theorem ZN{r:Rule}{x:Nat}:Js r x=(bif (x:Int)==r.to then 1 else 0)+(bif r.kind==2&&(x:Int)==r.zV then 1 else 0):=by
 unfold Js; rw[afb,acf]
set_option maxHeartbeats 2000000 in
theorem S.zM(r:Rule)(c:List Int)(f:Bool)(hc: ∀ j,0<=c.getD j 0/\c.getD j 0<=2^40)(hl:c.length<2^20)(hl0:0<c.length):ak Tryz.prog 87 [.dat (.rule r),.row 0 f (.ints c)] (.row 0 false (.ints (jZ r c))):=by
 refine ak.of Bd.zM (by simp) rfl rfl ?_;conv=>whnf
 rw[BH hl0];refine .mk (by omega) ?_;refine aA.objs 2 [1,2] (fun q:Nat=>[(6,.int q),(5,.own 1)]) (fun q=>[(0,vM r),(1,iY (Hy (XM r c) c.length q))]) (fun q=>q<=c.length) (fun q=>c.length-q) 0 [0,4] rfl (by decide) (fun _=>rfl) (Nat.zero_le _) ?_ ?_ ?_
 ·exact(sR rfl)
 ·exact⟨dL rfl rfl,dL rfl rfl,trivial⟩
 refine⟨(sR rfl),rfl,?_⟩;rintro q hq;have hfl:=ZI (f:=XM r c) hq;refine⟨fun h1=>?_,fun h1=>?_⟩
 ·have hq':q<c.length:=by simpa using h1
  have hcq:=hc q;have hb: ∀ l g:Int,l=Di r q->g=Js r q->max l (c.getD q 0-g+l)=XM r c q:=by rintro _ _ rfl rfl; rfl
  refine⟨fun a1=>?_,fun a1=>?_⟩
  all_goals
   repeat(refine VC.mk (by first|(simp only[Rw.rng,Int.toNat_natCast]; omega)|(simp only[okI]; omega)|exact fun h=>h|exact fun h=>⟨h,h⟩|(intro h; simp[h]; done)) ?_)
   refine⟨fun a2=>?_,fun a2=>?_⟩
  all_goals
   repeat(refine VC.mk (by first|(simp only[Rw.rng,Int.toNat_natCast]; omega)|(simp only[okI]; omega)|exact fun h=>h|exact fun h=>⟨h,h⟩|(intro h; simp[h]; done)) ?_)
   refine⟨fun a3=>?_,fun a3=>?_⟩
  all_goals
   repeat(refine VC.mk (by first|(simp only[Rw.rng,Int.toNat_natCast]; omega)|(simp only[okI]; omega)|exact fun h=>h|exact fun h=>⟨h,h⟩|(intro h; simp[h]; done)) ?_)
   refine⟨fun a4=>?_,fun a4=>?_⟩
  all_goals
   repeat(refine VC.mk (by first|(simp only[Rw.rng,Int.toNat_natCast]; omega)|(simp only[okI,Int.toNat_natCast]; omega)|exact fun h=>h|exact fun h=>⟨h,h⟩|(intro h; simp[h]; done)) ?_)
   refine⟨q+1,[0,1],hq',by omega,(sR rfl),(sR rfl),dL rfl rfl,⟨rfl,nofun,rfl,rfl,rfl,_,rfl,rfl,rfl,dP.of_eq ?_⟩,trivial⟩;rw[<- ZJ hq',<- hb _ _ (by rw[ZM,a1,a3]) (by rw[ZN,a2,a4])];rfl
 ·have hq':q=c.length:=by
   have: ¬ q<c.length:=by simpa using h1
   omega
  rw[hq',ZL];exact aj.acY rfl
theorem XO{h:Hz}{j:Nat}{Z:Nat->Prop}{o:OV}{l:List (List Int)}(hz:Z j)(q:h.get j=some o)(e:o.au=(fE l).au):T.sub Z h.ay (V.row 0 false (.bH l)).aH (V.own j).aH:=by
 show T.sub Z h.ay (.sl 0 false (l.map Go.Ab.ints)) (.own j);simp only[T.sub];refine⟨trivial,hz,N7 l,by decide,24,?_⟩;have:=aN q; rw[e] at this; simpa [OV.au,Rw.aU,V.aU] using this
theorem aj.agp{h:Hz}{j:Nat}{o:OV}{l:List (List Int)}(q:h.get j=some o)(e:o.au=(fE l).au):aj (.row 0 false (.bH l)) (.own j) h:=⟨XO trivial q e⟩
theorem ZO{r:Rule}{c:List Int}(ha:r.all=[])(hc: ∀ i,0<=c.getD i 0)(hx:qU c.length r.ex):qV r c=(((r.ex.length:Int)==0)||Jj c r.ex):=by
 have h1:BG r.all c c.length=false:=by
  unfold BG;rw[ha,List.any_eq_false];intro j _; simp
 have h2:=found_eq hc hx;unfold qV;rw[h1,Bool.not_false,Bool.true_and,<- Bool.not_not (wU r.ex c c.length),h2];cases r.ex with
 |nil=>rfl
 |cons x l =>
  have h3:(((x::l).length:Int)==0)=false:=beq_eq_false_iff_ne.2 (by simp only[List.length_cons]; omega);have h4:decide (0<((x::l).length:Int))=true:=decide_eq_true (by simp only[List.length_cons]; omega);rw[h3,h4]; simp
theorem Uk{c:List Int}{i:Int}(h:i.toNat<c.length):NP (aT c i 1) i=c:=by
 unfold NP aT;have e:(c.set i.toNat (c.getD i.toNat 0+1)).getD i.toNat 0=c.getD i.toNat 0+1:=by rw[getD_some (by simpa using h),List.getElem_set_self]
 rw[e,List.set_set,show c.getD i.toNat 0+1-1=c[i.toNat] by rw[getD_some h]; omega,List.set_getElem_self]
set_option maxHeartbeats 2000000 in
theorem S.zN(r:Rule)(c:List Int)(f:Bool)(h0:NM c)(hp:oW c.length r)(hk:r.kind=1)(ha:r.all=[])(hxl:r.ex.length<=100)(hcl:c.length<2^20):ak Tryz.prog 86 [.dat (.rule r),.row 0 f (.ints c)] (.row 0 false (.bH (cntF r c))):=by
 have hpos: ∀ i,0<=c.getD i 0:=fun i=>(jE h0 i).1
 have hb:=E9 hp hpos (by omega);refine ak.of Bd.zN (by simp) rfl rfl ?_;have hBl:(jZ r c).length=c.length:=Dj;have hB1:NP (jZ r c) r.fr=cO c r.to:=by rw[hb,Uk (by rw[dO]; have:=hp.src; omega)]
 have hBv:=jE h0 r.fr.toNat;have hsr:=hp.src;have hal:=ZO (c:=cO c r.to) ha (Dh hpos) (by rw[dO]; exact hp.exs);have hB2: ∀ j,0<=(jZ r c).getD j 0/\(jZ r c).getD j 0<=1048577:=fun j=>by
  rw[hb]
  have hd: ∀ j,0<=(cO c r.to).getD j 0/\(cO c r.to).getD j 0<=1048576:=fun j=>⟨Dh hpos j,by
   have:=jE h0 j;have:=jE h0 r.to.toNat;unfold cO;rw[List.getD_eq_getElem?_getD,List.getElem?_set];rw[List.getD_eq_getElem?_getD] at *;split
   ·split
    ·simp only[Option.getD_some]; omega
    ·simp only[Option.getD_none]; omega
   ·omega⟩
  exact Hf (M:=1) (B:=1048576) hd (by decide) j
 have hB3:=hB2 r.fr.toNat;refine ah.pure (S.zM r c f (fun j=>by have:=jE h0 j; omega) hcl (by omega)) rfl ?_;repeat(refine VC.mk (by first|(first|(simp only[Rw.rng]; omega)|(simp only[okI]; omega))|exact fun h=>h|exact fun h=>⟨h,h⟩|(simp only[jH,jP,Rw.len]; omega)) ?_)
 refine ah.aeU (fun _=>S.BF (NP (jZ r c) r.fr) r.ex false false (by rw[hB1,dO]; omega) (by omega) (by rw[hB1,dO]; exact hp.exs)) (fun _=>And.intro (AX trivial rfl) (And.intro (aC _) trivial)) rfl rfl ?_;refine .mk (by cases ((r.ex.length:Int)==0)<;>simp) ?_;refine⟨fun h2=>?_,fun h2=>?_⟩
 ·replace h2:(((r.ex.length:Int)==0)||Jj (NP (jZ r c) r.fr) r.ex)=true:=h2;rw[hB1,<- hal] at h2;have hres:cntF r c=[jZ r c]:=by unfold cntF; rw[hk,h2]; rfl
  rw[hres];exact aj.agp rfl rfl
 ·replace h2:(((r.ex.length:Int)==0)||Jj (NP (jZ r c) r.fr) r.ex)=false:=h2;rw[hB1,<- hal] at h2;have hres:cntF r c=r.ex.map fun x=>aT (jZ r c) x 1:=by unfold cntF; rw[hk,h2]; rfl
  rw[hres];refine aA.nil 7 24 0 (by rfl) rfl rfl rfl ?_;refine aA.KG 2 [2,5] (fun i:Nat=>[(8,.int i),(7,.own 1)]) (fun i=>[(0,vM r),(1,fE (Dl r (jZ r c) i))]) (fun i=>i<=r.ex.length) (fun i=>r.ex.length-i) 0 [0,30] [(0,some (vM r)),(30,some (fE []))] rfl (by decide) (fun _=>rfl) (Nat.zero_le _) ?_ ⟨fun _=>False,dM (Z:=fun _=>False) (i:=0) (o:=vM r) rfl (fun q=>q),⟨_,rfl,(fun q=>q),rfl,rfl,dJ _,rfl,rfl⟩,trivial⟩ ?_ ?_
  ·exact(sR rfl)
  ·exact⟨FH rfl rfl,FH rfl rfl,trivial⟩
  refine⟨(sR rfl),rfl,?_⟩;rintro i hi;have hw:=MK (r:=r) (c:=jZ r c) hi;refine⟨fun h3=>?_,fun h3=>?_⟩
  ·have hi':i<r.ex.length:=by simpa using h3
   have hst:=O1 (r:=r) (c:=jZ r c) hi';have hpl:=hp.exs (r.ex.getD i 0) (by rw[getD_some hi']; exact List.getElem_mem hi');have hv:=hB2 (r.ex.getD i 0).toNat;repeat(refine VC.mk (by first|(first|(simp only[Rw.rng,Int.toNat_natCast]; omega)|(simp only[okI,Int.toNat_natCast]; omega)|(show((Dl r (jZ r c) i).length+(0+1))*24<=140737488355328/\(Dl r (jZ r c) i).length+(0+1)<=1152921504606846976; omega))|(simp only[jH,jP,Rw.len]; omega)) ?_)
   refine⟨[(0,some (vM r)),(25,some (fE (Dl r (jZ r c) i++[aT (jZ r c) (r.ex.getD i 0) 1])))],i+1,[0,25],⟨fun i=>i=9,dM (Z:=fun i=>i=9) (i:=0) (o:=vM r) rfl (by decide),DF (Z:=fun i=>i=9) (i:=25) (j:=9) rfl rfl (by decide) rfl rfl,trivial⟩,by omega,by omega,(sR rfl),(sR rfl),FH rfl rfl,okF rfl nofun rfl rfl rfl ⟨rfl,rfl⟩ (by rw[hst]),trivial⟩
  ·have hi':i=r.ex.length:=by have:=of_decide_eq_false h3; omega
   have hall:Dl r (jZ r c) r.ex.length=r.ex.map fun x=>aT (jZ r c) x 1:=by unfold Dl; rw[List.take_length]
   rw[hi',hall];exact aj.aao rfl
theorem aey{k:Nat}: ∀ {l:List V},(∀ v∈l,v.kd=some k)->F7 k l=true:=by
 intro l;induction l with
 |nil=>intro _; rfl
 |cons v r ih =>
  intro h;have h1:=h v (by simp);have h2:=ih fun u hu=>h u (List.mem_cons_of_mem _ hu)
  simp only[F7,h1,h2];simp
theorem aez{n:Nat}{l:List T}(h: ∀ t∈l,T.lt n t=true):T.Oa n l=true:=by
 induction l with
 |nil=>rfl
 |cons t r ih=>simp only[T.Oa,h t (by simp),ih fun u hu=>h u (List.mem_cons_of_mem _ hu),Bool.and_self]
theorem getD_none{α:Type}{l:List α}{i:Nat}{d:α}(h:l.length<=i):l.getD i d=d:=by
 simp[List.getD_eq_getElem?_getD,List.getElem?_eq_none h]
theorem acg{α:Type}{f:Nat->α}{n i:Nat}{d:α}(h:i<n):((List.range n).map f).getD i d=f i:=by
 simp[h]
theorem Ul{α:Type}{l l':List α}(d:α)(h:l.length=l'.length)(H: ∀ i,i<l.length->l.getD i d=l'.getD i d):l=l':=by
 apply List.ext_getElem h;intro i h1 h2;have:=H i h1;rw[getD_some h1,getD_some h2] at this;exact this
theorem ach{ty nx:Nat}{l:List V}(h1: ∀ v∈l,v.kd=some 0)(h2: ∀ v∈l,T.lt nx v.aH=true):(OV.gen ty 0 l).good nx=true:=by
 simp only[OV.good,aey h1,Bool.and_eq_true,Bool.true_and];refine⟨aez fun t ht=>?_,rfl⟩;rw[fG,List.mem_map] at ht;obtain⟨v,hv,rfl⟩:=ht;exact h2 v hv
theorem aci{n:Nat}(h:0<n):(bif isZero (.int n) then some Rw.nil else aae (n:Int).toNat .nil)=none:=by
 cases n with
 |zero=>omega
 |succ n=>rfl
def fO:List Int->Option OV
 |[]=>none
 |x::r=>some (iY (x::r))
abbrev fI(R:List (List Int)):List (Option OV):=R.map fO
def XP(B:Nat)(R:List (List Int))(j:Nat):V:=match R.getD j [] with
 |[]=>Ew .nil
 |_::_=>.inn (B+j)
def outW(B:Nat)(R:List (List Int)):List V:=(List.range R.length).map (XP B R)
abbrev aeA(B:Nat)(R:List (List Int)):OV:=.gen 24 0 (outW B R)
theorem nV{B:Nat}{R:List (List Int)}:(outW B R).length=R.length:=by simp[outW]
theorem zO{B j:Nat}{R:List (List Int)}(h:j<R.length):(outW B R)[j]? =some (XP B R j):=by
 unfold outW; rw[List.getElem?_map,List.getElem?_range h]; rfl
theorem rP{B j:Nat}{R:List (List Int)}:(R.getD j []=[]/\XP B R j=Ew .nil)\/(R.getD j []≠[]/\XP B R j= .inn (B+j)):=by
 unfold XP;cases R.getD j [] with
 |nil=>exact .inl ⟨rfl,rfl⟩
 |cons x r=>exact .inr ⟨(by simp),rfl⟩
theorem Jc{B nx:Nat}{R:List (List Int)}(h:B+R.length<=nx):(aeA B R).good nx=true:=by
 refine ach (fun v hv=>?_) fun v hv=>?_
 ·obtain⟨j,hj,rfl⟩:=List.mem_map.1 hv;rcases rP (B:=B) (j:=j) (R:=R) with ⟨_,e⟩|⟨_,e⟩<;>rw[e]<;>rfl
 ·obtain⟨j,hj,rfl⟩:=List.mem_map.1 hv;have:=List.mem_range.1 hj;rcases rP (B:=B) (j:=j) (R:=R) with ⟨_,e⟩|⟨_,e⟩<;>rw[e]
  ·rfl
  ·show Nat.blt (B+j) nx=true;exact Nat.blt_eq.mpr (by omega)
theorem Um{B i N:Nat}{R:List (List Int)}{c:List Int}{f:Nat->Nat}(hi:i<R.length)(hc:c≠[]):dP (T.bJ (lY B (fun j=>if j=i then N else B+j) f) (aeA B (R.set i c)).au.l) (OV.gen 24 0 ((outW B R).set i (.own N))).au.l:=by
 refine dP.of_eq ?_;show T.bJ _ (V.aU (outW B (R.set i c)))=V.aU ((outW B R).set i (.own N));rw[zH,fG,fG,List.map_map];have hl:(outW B (R.set i c)).length=R.length:=by rw[nV,List.length_set]
 apply List.ext_getElem
 ·simp[hl,nV]
 ·intro j h1 h2;have hj:j<R.length:=by simpa [hl] using h1
  have e1:(outW B (R.set i c))[j]'(by rw[hl]; exact hj)=XP B (R.set i c) j:=by
   have:=zO (B:=B) (R:=R.set i c) (j:=j) (by rw[List.length_set]; exact hj);rw[List.getElem?_eq_getElem (by rw[hl]; exact hj),Option.some.injEq] at this;exact this
  simp only[List.getElem_map,Function.comp,e1];by_cases hji:j=i
  ·subst hji;have e2:((outW B R).set j (V.own N))[j]'(by rw[List.length_set,nV]; exact hj)=V.own N:=List.getElem_set_self ..;rw[e2];have e3:(R.set j c).getD j []=c:=by rw[getD_some (by simpa using hi),List.getElem_set_self]
   rcases rP (B:=B) (j:=j) (R:=R.set j c) with ⟨q,_⟩|⟨_,e⟩
   ·rw[e3] at q; exact absurd q hc
   ·rw[e];show T.own (lY B _ f (B+j))=T.own N;rw[tC,if_pos rfl]
  ·have e2:((outW B R).set i (V.own N))[j]'(by rw[List.length_set,nV]; exact hj)=XP B R j:=by
    rw[List.getElem_set_ne (Ne.symm hji)];have:=zO (B:=B) (R:=R) (j:=j) hj;rw[List.getElem?_eq_getElem (by rw[nV]; exact hj),Option.some.injEq] at this;exact this
   rw[e2];have e3:(R.set i c).getD j []=R.getD j []:=by rw[List.getD_eq_getElem?_getD,List.getElem?_set_ne (Ne.symm hji),<- List.getD_eq_getElem?_getD]
   have e4:XP B (R.set i c) j=XP B R j:=by unfold XP; rw[e3]
   rw[e4];rcases rP (B:=B) (j:=j) (R:=R) with ⟨_,e⟩|⟨_,e⟩<;>rw[e]
   ·rfl
   ·show T.own (lY B _ f (B+j))=T.own (B+j);rw[tC,if_neg hji]
theorem XQ{R:List (List Int)}{nx:Nat}: ∀ o,some o∈fI R->o.good nx=true/\o.Dz=true:=by
 intro o h;obtain⟨r,_,e⟩:=List.mem_map.1 h;cases r with
 |nil=>cases e
 |cons x r=>cases e; exact⟨rfl,rfl⟩
theorem Fv{R:List (List Int)}:(fI R).length=R.length:=List.length_map _
theorem V9{R:List (List Int)}{j:Nat}(h:R.getD j []≠[]):(fI R)[j]? =some (some (iY (R.getD j []))):=by
 have hj:j<R.length:=by
  rcases Nat.lt_or_ge j R.length with q|q
  ·exact q
  ·exact absurd (getD_none q) h
 rw[List.getElem?_map,List.getElem?_eq_getElem hj];rw[getD_some hj] at h ⊢;cases hr:R[j] with
 |nil=>exact absurd hr h
 |cons x r=>rfl
theorem acj{R:List (List Int)}{i:Nat}{c:List Int}: ∀ j o,j≠i->(fI (R.set i c))[j]? =some (some o)->(fI R)[j]? =some (some o):=by
 intro j o hj q;rw[List.getElem?_map,List.getElem?_set_ne (Ne.symm hj)] at q;rw[List.getElem?_map]; exact q
theorem afc{R:List (List Int)}{i:Nat}{c:List Int}{o:OV}(hi:i<R.length)(hc:c≠[])(q:(fI (R.set i c))[i]? =some (some o)):o=iY c:=by
 have e:(R.set i c).getD i []=c:=by rw[getD_some (by simpa using hi),List.getElem_set_self]
 rw[V9 (by rw[e]; exact hc),e] at q;cases q; rfl
theorem ZP{Z:Nat->Prop}{h:Hz}{i B:Nat}{R:List (List Int)}(hi:h.get i=some (aeA B R))(hB: ¬ Z i)(hR: ∀ j,R.getD j []≠[]->Z (B+j)/\h.get (B+j)=some (iY (R.getD j []))) :
  ∃ o',h.get i=some o'/\ ¬ Z i/\o'.au.ty=(fE R).au.ty/\o'.au.k=(fE R).au.k/\T.dA Z h.ay (fE R).au.l o'.au.l/\(fE R).au.l.map T.kd=o'.au.l.map T.kd/\(fE R).au.l.map gB=o'.au.l.map gB:=by
 have hl:(OV.row 24 0 (.bH R) []).au.l=R.map Go.Ab.ints:=by simp[OV.au,Rw.aU,V.aU]
 have hel: ∀ j (hj:j<R.length),(outW B R)[j]'(by rw[nV]; exact hj)=XP B R j:=fun j hj=>by
  have:=zO (B:=B) (R:=R) (j:=j) hj;rw[List.getElem?_eq_getElem (by rw[nV]; exact hj),Option.some.injEq] at this;exact this
 refine⟨_,hi,hB,rfl,rfl,?_,?_,?_⟩
 ·rw[hl];show T.dA _ _ _ (V.aU (outW B R));refine GK (by rw[dU,nV,List.length_map]) fun j t u h1 h2=>?_
  have hj:j<R.length:=by have:=(List.getElem?_eq_some_iff.1 h1).1; simpa using this
  rw[fG,List.getElem?_map,zO hj] at h2;rw[List.getElem?_map,List.getElem?_eq_getElem hj] at h1;cases h1; cases h2;have hRj:R.getD j []=R[j]:=getD_some hj;rcases rP (B:=B) (j:=j) (R:=R) with ⟨q,e⟩|⟨q,e⟩
  ·rw[e]; rw[hRj] at q; rw[q];show T.sub _ _ (.sl 0 false []) (.sl 0 true []);simp[T.sub]
  ·rw[e];have:=aN (hR j q).2;rw[hRj] at this;simp only[V.aH,T.sub];refine⟨trivial,(hR j q).1,?_,by decide,3,?_⟩
   ·rw[fZ]; intro t ht; obtain⟨x,_,rfl⟩:=List.mem_map.1 ht; rfl
   ·rw[this]; simp[OV.au,Rw.aU,V.aU]
 ·rw[hl];show _=List.map T.kd (V.aU (outW B R));rw[fG,List.map_map,List.map_map];apply List.ext_getElem
  ·simp[nV]
  ·intro j h1 h2;have hj:j<R.length:=by simpa using h1
   simp only[List.getElem_map,Function.comp,hel j hj];rcases rP (B:=B) (j:=j) (R:=R) with ⟨_,e⟩|⟨_,e⟩<;>rw[e]<;>rfl
 ·rw[hl];show _=List.map gB (V.aU (outW B R));rw[fG,List.map_map,List.map_map];apply List.ext_getElem
  ·simp[nV]
  ·intro j h1 h2;have hj:j<R.length:=by simpa using h1
   simp only[List.getElem_map,Function.comp,hel j hj];rcases rP (B:=B) (j:=j) (R:=R) with ⟨_,e⟩|⟨_,e⟩<;>rw[e]<;>rfl
theorem L9.fI{B:Nat}(C k:Nat){j:Nat}{R:List (List Int)}{h:Hz}{K:Rw->Hz->Prop}(e:h.drop k=iH B (fI R))(ho:CZ B C (h.take k)=true)(hC:B+R.length<=C)(hj:R.getD j []≠[])
  (hK:K (.ints (R.getD j [])) (h.take k++iH B ((fI R).set j none))):L9 h (B+j) 3 0 K :=
 L9.fam C (show Ar (h.take k) _ h from by rw[Ar,<- e,List.take_append_drop]) ho (by rw[Fv]; exact hC) (V9 hj) hK
theorem acn{B n:Nat}:outW B (List.replicate n [])=List.replicate n (Ew .nil):=by
 apply List.ext_getElem
 ·simp[nV]
 ·intro j h1 h2;have hj:j<n:=by simpa using h2
  have:=zO (B:=B) (R:=List.replicate n []) (j:=j) (by simpa using hj);rw[List.getElem?_eq_getElem h1,Option.some.injEq] at this;rw[this,List.getElem_replicate];unfold XP;rw[getD_some (by simpa using hj),List.getElem_replicate]
theorem aco{n j:Nat}{o:OV}:(fI (List.replicate n []))[j]? ≠some (some o):=by
 intro q;rw[List.getElem?_map,Option.map_eq_some_iff] at q;obtain⟨c,h1,h2⟩:=q;have:=List.mem_of_getElem? h1;rw[List.eq_of_mem_replicate this] at h2;cases h2
def Ea(resp:List Int)(n i:Nat):List (List Int):=(List.range n).map fun t=>mF resp t i
theorem jf{resp:List Int}{n i:Nat}:(Ea resp n i).length=n:=by simp[Ea]
theorem Eb{resp:List Int}{n i t:Nat}(h:t<n):(Ea resp n i).getD t []=mF resp t i:=acg h
theorem Nc{resp:List Int}{n:Nat}:Ea resp n 0=List.replicate n []:=by
 refine Ul [] (by rw[jf]; simp) fun t ht=>?_
 rw[jf] at ht;rw[Eb ht,getD_some (by simpa using ht),List.getElem_replicate]; rfl
theorem aeB{resp:List Int}{n i s:Nat}(hs:s<n)(h:resp.getD i 0=(s:Int)):Ea resp n (i+1)=(Ea resp n i).set s (mF resp s (i+1)):=by
 refine Ul [] (by rw[jf,List.length_set,jf]) fun t ht=>?_
 rw[jf] at ht;rw[Eb ht];by_cases e:t=s
 ·subst e;rw[getD_some (by rw[List.length_set,jf]; exact ht),List.getElem_set_self]
 ·rw[List.getD_eq_getElem?_getD,List.getElem?_set_ne (Ne.symm e),<- List.getD_eq_getElem?_getD,Eb ht,xX,beq_eq_false_iff_ne.2 (by rw[h]; omega)]; rfl
theorem ZQ{resp:List Int}{i s:Nat}(h:resp.getD i 0=(s:Int)):mF resp s (i+1)≠[]:=by
 rw[xX,beq_iff_eq.2 h]; simp
theorem Pm{resp:List Int}{t:Nat}:Kv resp (t:Int)= !(((iq resp t).length:Int)==0):=by
 cases h:Kv resp (t:Int) with
 |true =>
  obtain⟨k,hk,he⟩:=List.getElem_of_mem (JJ.1 h)
  have:(iq resp t)≠[]:=List.ne_nil_of_mem (wO.2 ⟨k,hk,by simp[hk,he],rfl⟩)
  have h2:=List.length_pos_iff.2 this;rw[beq_eq_false_iff_ne.2 (by omega)]; rfl
 |false =>
  have:iq resp t=[]:=by
   rw[List.eq_nil_iff_forall_not_mem];intro x hx;obtain⟨k,hk,he,_⟩:=wO.1 hx;have hm:Kv resp (t:Int)=true:=JJ.2 (by rw[<- he,getD_some hk]; exact List.getElem_mem hk);rw[h] at hm; cases hm
  rw[this]; rfl
def vN(n:Nat)(i:Int):List (List Int):=[(List.replicate n 0).set i.toNat 1]
theorem XR{n:Nat}{i:Int}:vN n i=[aT (List.replicate n 0) i 1]:=by
 have e:(List.replicate n (0:Int)).getD i.toNat 0=0:=by
  rcases Nat.lt_or_ge i.toNat n with h|h
  ·rw[getD_some (by simpa using h),List.getElem_replicate]
  ·exact getD_none (by simpa using h)
 unfold vN aT;rw[e]; rfl
theorem acp{resp need:List Int}{i:Int}(h0:NM need)(hn:need.length=resp.length)(hl:resp.length<=6){t:Nat}(ht:t<=6)(htn:t<=need.length): ∀ c∈lF resp need (vN need.length i) t,c.length=need.length/\ ∀ j,0<=c.getD j 0/\c.getD j 0<=40000000:=by
 intro c hc;have e:lF resp need (vN need.length i) t=(lF resp need (nS need) t).map fun c=>aT c i 1:=by rw[XR]; exact XA (out:=nS need)
 rw[e] at hc;obtain⟨d,hd,rfl⟩:=List.mem_map.1 hc;have hpos: ∀ i,0<=need.getD i 0:=fun i=>(jE h0 i).1
 refine⟨?_,fun j=>?_⟩
 ·rw[y7,Qx (b:=List.replicate need.length 0) (by simp[hn]) hn hpos htn d hd,hn]
 ·have hb:=Hf (i:=i) (d:=1) (M:=1) (B:=(t:Int)*6291456) (Qy h0 hl t d hd) (by decide) j;omega
theorem aeC{nx d ty k b x s:Nat}{y:X}{m:Fm}(h:m.get x=some (.inn (10000+s))):Gz nx ⟨some d,.app ty k b (.t x) y,none,false,[1000001],false,false⟩ m=true:=by
 have e:Nat.ble 10000 (10000+s)=true:=Nat.ble_eq.mpr (by omega);show(true&&((match CS m (.t x) with|some v=>T.newer 10000 v.aH|none=>false)&&true))=true;rw[show CS m (.t x)=some (.inn (10000+s)) from h];show(true&&(Nat.ble 10000 (10000+s)&&true))=true;rw[e]; rfl
abbrev acr(r:Rule)(c:List Int)(R:List (List Int)):List (Nat×OV):=[(0,vM r),(4,iY (cO c r.to)),(20,aeA 10000 R)]
set_option maxHeartbeats 2000000 in
theorem S.qQ(r:Rule)(c:List Int)(f:Bool)(h0:NM c)(hp:oW c.length r)(hk:r.kind=3)(hcl:c.length<=6):ak Tryz.prog 88 [.dat (.rule r),.row 0 f (.ints c)] (.row 0 false (.bH (Dk r c))):=by
 have hpos: ∀ i,0<=c.getD i 0:=fun i=>(jE h0 i).1
 obtain⟨hrl,hrp⟩:=hp.rsp hk;have hds:=hp.dst;have hsr:=hp.src;have hcd:=jE h0 r.to.toNat;have hml:(cO c r.to).length=c.length:=dO;refine ak.of Bd.qQ (by simp) rfl rfl ?_;repeat(refine VC.mk (by first|(first|(simp only[Rw.rng]; omega)|(simp only[okI]; omega))|(simp only[jH,jP,Rw.len]; omega)) ?_; conv=>whnf)
 have hn0:0<c.length:=by omega
 rw[aci hn0];refine .mk (by omega) ?_;refine aA.fam 20000 [1,2,5,6] (fun i:Nat=>[(7,.int i)]) (fun i=>yj (acr r c (Ea r.response c.length i))++iH 10000 (fI (Ea r.response c.length i))) (fun i=>i<=c.length) (fun i=>c.length-i) 0 (lY 10000 (fun j=>10000+j) (iM (acr r c (Ea r.response c.length 0)) [0,4,20])) _ rfl (by decide) (fun _=>rfl) (Nat.zero_le _) (sR rfl) (.inl rfl) ?_ ?_
 ·refine jX.fam (g:=fun j=>10000+j) (acr r c (Ea r.response c.length 0)) [0,4,20] ?_ rfl (Nat.zero_le _) (by rw[Fv,jf]; omega) (fun j o q=>absurd (by rw[Nc] at q; exact q) aco) (fun j _ o _ q=>absurd (by rw[Nc] at q; exact q) aco);refine⟨FH rfl rfl,okF rfl nofun rfl rfl rfl ⟨rfl,rfl⟩ (by unfold cO; rw[Int.max_comm]),okJ rfl (Jc (by rw[jf]; omega)) rfl ⟨rfl,rfl⟩ ?_,trivial⟩;rw[Nc];refine dP.of_eq ?_;show T.bJ _ (V.aU (outW 10000 (List.replicate c.length [])))=V.aU (List.replicate c.length (Ew .nil));rw[acn,zH,fG,List.map_map,List.map_replicate,List.map_replicate]; rfl
 refine⟨(sR rfl),rfl,?_⟩;rintro i hi;have hRl:(Ea r.response c.length i).length=c.length:=jf;have hwo:(outW 10000 (Ea r.response c.length i)).length=c.length:=by rw[nV,hRl]
 refine⟨fun h1=>?_,fun h1=>?_⟩
 ·have hi':i<c.length:=by simpa using h1
  have hq:=hrp (r.response.getD i 0) (by rw[getD_some (by omega)]; exact List.getElem_mem _);obtain⟨s,hs⟩: ∃ s:Nat,r.response.getD i 0=(s:Int):=⟨(r.response.getD i 0).toNat,by omega⟩
  have hsl:s<c.length:=by omega
  have hst:=aeB (n:=c.length) hsl hs;have hps:=ZQ hs;have hgi:(Ea r.response c.length i).getD s []=mF r.response s i:=Eb hsl;have hln:mF r.response s (i+1)=mF r.response s i++[(i:Int)]:=by rw[xX,beq_iff_eq.2 hs]; rfl
  repeat(refine VC.mk (by first|(simp only[Rw.rng,Int.toNat_natCast,hs]; omega)|(simp only[Rw.rng,Int.toNat_natCast]; omega)) ?_; conv=>whnf)
  rw[show r.response.getD ((i:Int)).toNat 0=(s:Int) from hs];refine⟨_,zO (j:=s) (by omega),?_⟩;rcases rP (B:=10000) (j:=s) (R:=Ea r.response c.length i) with ⟨q,e⟩|⟨q,e⟩
  ·rw[show XP 10000 (Ea r.response c.length i) s=Ew .nil from e];repeat(refine VC.mk (by first|(first|(show(0+(0+1))*8<=140737488355328/\0+(0+1)<=1152921504606846976; omega)|(simp only[Int.toNat_natCast]; omega))|(omega)|(simp only[okI] at *; omega)) ?_; conv=>whnf)
   refine qN.VW 20000 (i+1) s 20020 (fI (Ea r.response c.length i)) (fI (Ea r.response c.length (i+1))) (acr r c (Ea r.response c.length (i+1))) [0,4,20] rfl hi' (by omega) ?_ rfl rfl rfl (Nat.zero_le _) (by rw[Fv,jf]; omega) (by rw[Fv,jf]; omega) (by decide) XQ ?_ (by rw[hst]; exact acj) (sR rfl) (sR rfl) ?_
   (repeat' (first|refine bQ.lo rfl ?_|refine bQ.hi rfl ?_|exact bQ.nil))
   ·intro o ho;rw[hst] at ho;rw[afc (by omega) hps ho];refine⟨_,rfl,?_⟩;rw[hln,show mF r.response s i=[] by rw[<- hgi]; exact q]; rfl
   exact⟨FH rfl rfl,FH rfl rfl,okJ rfl (Jc (by rw[jf]; omega)) rfl ⟨rfl,rfl⟩ (by rw[hst]; exact Um (by omega) hps),trivial⟩
  ·rw[show XP 10000 (Ea r.response c.length i) s= .inn (10000+s) from e];have hlb:=zL (resp:=r.response) (t:=s) (i:=i);conv=>whnf
   rw[aeC (s:=s)]
   rotate_left
   ·rfl
   refine L9.fI (B:=10000) (R:=Ea r.response c.length i) 20000 3 rfl rfl (by rw[jf]; omega) q ?_;rw[hgi];repeat(refine VC.mk (by first|(first|(show((mF r.response s i).length+(0+1))*8<=140737488355328/\(mF r.response s i).length+(0+1)<=1152921504606846976; omega)|(simp only[Int.toNat_natCast]; omega))|(omega)|(simp only[okI] at *; omega)) ?_; conv=>whnf)
   refine qN.VW 20000 (i+1) s 20020 ((fI (Ea r.response c.length i)).set s none) (fI (Ea r.response c.length (i+1))) (acr r c (Ea r.response c.length (i+1))) [0,4,20] rfl hi' (by omega) ?_ rfl rfl rfl (Nat.zero_le _) (by rw[Fv,jf]; omega) (by rw[List.length_set,Fv,jf]; omega) (by decide) XQ ?_ (fun j o hj q=>by rw[hst] at q; rw[List.getElem?_set_ne (Ne.symm hj)]; exact acj j o hj q) (sR rfl) (sR rfl) ?_
   (repeat' (first|refine bQ.lo rfl ?_|refine bQ.hi rfl ?_|exact bQ.nil))
   ·intro o ho;rw[hst] at ho;rw[afc (by omega) hps ho];refine⟨_,rfl,?_⟩;rw[hln]
   exact⟨FH rfl rfl,FH rfl rfl,okJ rfl (Jc (by rw[jf]; omega)) rfl ⟨rfl,rfl⟩ (by rw[hst]; exact Um (by omega) hps),trivial⟩
 ·have hi':i=c.length:=by
   have: ¬ i<c.length:=by simpa using h1
   omega
  subst hi';conv=>whnf
  rw[BH hn0];repeat(refine VC.mk (by first|omega|(simp only[Rw.rng,List.length_replicate]; omega)) ?_; conv=>whnf)
  have hall:Ea r.response c.length c.length=(List.range c.length).map (iq r.response):=by
   unfold Ea iq; rw[hrl]; rfl
  have hdc:NM (cO c r.to):=by
   intro x hx;rcases List.mem_or_eq_of_mem_set hx with q|q
   ·exact h0 x q
   ·omega
  have hdp:=Dh (i:=r.to) hpos;refine aA.KG 3 [1] (fun t:Nat=>[(10,.int t),(5,.own 0),(6,.own 1),(9,.own 2)]) (fun _=>[(0,iY (cO c r.to)),(1,fE (Ea r.response c.length c.length)),(2,fE (vN c.length r.fr))]) (fun t=>t<=c.length/\Fa r.response (cO c r.to) t=false) (fun t=>c.length-t) 0 [4,20,20014] [(4,some (iY (cO c r.to))),(20,some (fE (Ea r.response c.length c.length))),(20014,some (fE (vN c.length r.fr)))] rfl (by decide) (fun _=>rfl) ⟨Nat.zero_le _,rfl⟩ ?_ ?_ ?_ ?_
  ·exact(sR rfl)
  ·refine⟨fun j=>10000<=j/\j≠20014,dM (Z:=fun j=>10000<=j/\j≠20014) (i:=4) (o:=iY (cO c r.to)) rfl (by decide),ZP (Z:=fun j=>10000<=j/\j≠20014) (B:=10000) rfl (by decide) (fun j hj=>⟨⟨by omega,?_⟩,?_⟩),DF (Z:=fun j=>10000<=j/\j≠20014) (i:=20014) (j:=20006) (l:=[]) rfl rfl (by decide) (by decide) rfl,trivial⟩
   ·have:j<(Ea r.response c.length c.length).length:=by
     rcases Nat.lt_or_ge j (Ea r.response c.length c.length).length with q|q
     ·exact q
     ·exact absurd (getD_none q) hj
    rw[jf] at this; omega
   ·refine bQ.get (C:=20000) (L:=fI (Ea r.response c.length c.length)) ?_ (by rw[Fv,jf]; omega) (V9 hj)
    (repeat' (first|refine bQ.lo rfl ?_|refine bQ.hi rfl ?_|exact bQ.nil))
  ·exact⟨FH rfl rfl,FH rfl rfl,FH rfl rfl,trivial⟩
  refine⟨(sR rfl),rfl,?_⟩;rintro t ⟨ht,hs⟩;refine⟨fun h2=>?_,fun h2=>?_⟩
  ·have ht':t<c.length:=by simpa using h2
   repeat(refine VC.mk (by first|(first|(simp only[Rw.rng,Int.toNat_natCast]; omega)|(simp only[Rw.rng,Int.toNat_natCast,jf]; omega))|exact fun h=>h|(intro h; (repeat' apply And.intro)<;>first|exact h|omega|(simp only[Rw.qY]; omega)|(simp only[Rw.rng]; omega))) ?_; conv=>whnf)
   have hfT:(Ea r.response c.length c.length).getD ((t:Int)).toNat []=iq r.response t:=by
    rw[Int.toNat_natCast,Eb ht']; unfold mF iq; rw[hrl]
   rw[hfT];refine⟨fun h3=>?_,fun h3=>?_⟩
   ·have hsy:mD r.response (cO c r.to)=true:=by
     refine O5 (i:=t) (by omega) ?_;rw[Pm,Bool.not_not]; exact h3
    have hres:Dk r c=[]:=by unfold Dk; rw[hk,hsy]; rfl
    rw[hres];exact aj.agG rfl
   ·have hsn:Fa r.response (cO c r.to) (t+1)=false:=by
     rw[Jt,hs,Pm,Bool.not_not,Bool.false_or]; exact h3
    refine .mk (by first|(simp only[okI]; omega)|omega) ?_;exact⟨[(0,some (iY (cO c r.to))),(1,some (fE (Ea r.response c.length c.length))),(2,some (fE (vN c.length r.fr)))],t+1,[0,1,2],⟨fun _=>False,dM (Z:=fun _=>False) rfl (fun q=>q),dM (Z:=fun _=>False) rfl (fun q=>q),dM (Z:=fun _=>False) rfl (fun q=>q),trivial⟩,⟨ht',hsn⟩,by omega,(sR rfl),(sR rfl),FH rfl rfl,FH rfl rfl,FH rfl rfl,trivial⟩
  ·have ht':t=c.length:=by have:=of_decide_eq_false h2; omega
   subst ht';have hsy:mD r.response (cO c r.to)=false:=by rw[<- ML,hml]; exact hs
   conv=>whnf
   have hres:Dk r c=Ef 101 r.response (cO c r.to) (vN c.length r.fr) c.length:=by unfold Dk; rw[hk,hsy,XR]; rfl
   rw[hres];refine aA.fz 9 2 0 (.bH (vN c.length r.fr)) rfl rfl (aan rfl rfl) ?_;refine aA.objs 2 [1] (fun t:Nat=>[(11,.int t),(9,.row 0 false (.bH (Ef 101 r.response (cO c r.to) (vN c.length r.fr) t))),(5,.own 0),(6,.own 1)]) (fun _=>[(0,iY (cO c r.to)),(1,fE (Ea r.response c.length c.length))]) (fun t=>t<=c.length) (fun t=>c.length-t) 0 [0,1] rfl (by decide) (fun _=>rfl) (Nat.zero_le _) ?_ ?_ ?_
   ·exact(sR rfl)
   ·exact⟨dL rfl rfl,dL rfl rfl,trivial⟩
   refine⟨(sR rfl),rfl,?_⟩;rintro t ht;refine⟨fun h4=>?_,fun h4=>?_⟩
   ·have ht':t<c.length:=by simpa using h4
    repeat(refine VC.mk (by first|(simp only[Rw.rng,Int.toNat_natCast]; omega)|(simp only[Rw.rng,Int.toNat_natCast,jf]; omega)) ?_; conv=>whnf)
    have hfT:(Ea r.response c.length c.length).getD ((t:Int)).toNat []=iq r.response t:=by
     rw[Int.toNat_natCast,Eb ht']; unfold mF iq; rw[hrl]
    obtain⟨nn,hnn⟩: ∃ nn:Nat,(cO c r.to).getD t 0=(nn:Int):=⟨((cO c r.to).getD t 0).toNat,by have:=hdp t; omega⟩
    have hnb:=jE hdc t;rw[show(cO c r.to).getD ((t:Int)).toNat 0=(nn:Int) from hnn];have hnext:=I4 (m:=101) (resp:=r.response) (need:=cO c r.to) (out:=vN c.length r.fr) (n:=t);refine⟨fun h5=>?_,fun h5=>?_⟩
    ·have hn1:0<nn:=by have:=of_decide_eq_true h5; omega
     have hst:=Au hsy hdp;have hO: ∀ d∈Ef 101 r.response (cO c r.to) (vN c.length r.fr) t,d.length=c.length/\ ∀ j,0<=d.getD j 0/\d.getD j 0+((iq r.response t).length:Int)*2097152<=2^40:=by
      intro d hd;rw[Ko (m:=101) (show(vN c.length r.fr).length<=101 from by unfold vN; simp) hst] at hd;have hd2:=List.mem_of_mem_take hd;rw[<- hml] at hd2;obtain⟨b1,b2⟩:=acp hdc (by omega) (by omega) (t:=t) (by omega) (by omega) d hd2;have hfl:(iq r.response t).length<=r.response.length:=zL;exact⟨by omega,fun j=>by have:=b2 j; omega⟩
     have hlO:(Ef 101 r.response (cO c r.to) (vN c.length r.fr) t).length<=101:=by
      rw[Ko (m:=101) (show(vN c.length r.fr).length<=101 from by unfold vN; simp) hst,List.length_take]; omega
     have hfl:(iq r.response t).length<=r.response.length:=zL;have hfr:qU c.length (iq r.response t):=fun x hx=>by have:=O4 (i:=r.response.length) x hx; omega
     have hres:qI 101 [] ((Ef 101 r.response (cO c r.to) (vN c.length r.fr) t).flatMap fun d=>Bv d (iq r.response t) nn)=Ef 101 r.response (cO c r.to) (vN c.length r.fr) (t+1):=by
      rw[hnext];unfold yt;rw[hnn,beq_eq_false_iff_ne.2 (by omega)]; rfl
     repeat(refine VC.mk (by first|(simp only[Rw.rng,Int.toNat_natCast]; omega)|(simp only[Rw.rng,Int.toNat_natCast,jf]; omega)) ?_; conv=>whnf)
     rw[hfT,show(cO c r.to).getD ((t:Int)).toNat 0=(nn:Int) from hnn];refine ah.pure (S.xZ (Ef 101 r.response (cO c r.to) (vN c.length r.fr) t) (iq r.response t) nn 101 c.length false false (hst t (by omega)) hfr hO (by omega) (by omega) (by omega) (by decide) (by omega)) rfl ?_;rw[hres];refine .mk (by first|(simp only[okI]; omega)|omega) ?_;exact⟨t+1,[0,1],ht',by omega,(sR rfl),(sR rfl),dL rfl rfl,dL rfl rfl,trivial⟩
    ·have hn1:nn=0:=by have:=of_decide_eq_false h5; omega
     have hres:Ef 101 r.response (cO c r.to) (vN c.length r.fr) (t+1)=Ef 101 r.response (cO c r.to) (vN c.length r.fr) t:=by
      rw[hnext];unfold yt;rw[hnn,hn1];show List.take 101 (Ef 101 r.response (cO c r.to) (vN c.length r.fr) t)=_;refine List.take_of_length_le ?_;rw[Ko (m:=101) (show(vN c.length r.fr).length<=101 from by unfold vN; simp) (Au hsy hdp),List.length_take]; omega
     refine .mk (by first|(simp only[okI]; omega)|omega) ?_;refine⟨t+1,[0,1],ht',by omega,⟨⟨_,rfl,.eq rfl⟩,⟨_,rfl,.eq (by rw[hres]; rfl)⟩,⟨_,rfl,.eq rfl⟩,⟨_,rfl,.eq rfl⟩,trivial⟩,(sR rfl),dL rfl rfl,dL rfl rfl,trivial⟩
   ·have ht':t=c.length:=by have:=of_decide_eq_false h4; omega
    subst ht';exact aj.eqv rfl
theorem Wh{r:Rule}{c:List Int}(hp:oW c.length r)(h0:NM c)(hl:c.length<=6): ∀ l∈Dk r c,l.length=c.length:=by
 intro l h;rcases XF hp (fun j=>(jE h0 j).1) with e|⟨_,e⟩<;>rw[e] at h
 ·exact Az hp h0 hl l h
 ·exact Az hp h0 hl l (List.mem_of_mem_take h)
theorem acs{m:Nat}{resp need:List Int}{out:List (List Int)}(h:out.length<=m): ∀ n,(Ef m resp need out n).length<=m:=by
 intro n;cases n with
 |zero=>exact h
 |succ n=>rw[I4,List.length_take]; omega
theorem acu{r:Rule}{c:List Int}(hx:r.ex.length<=100):(Dk r c).length<=101:=by
 unfold Dk cntF;cases r.kind==3 with
 |true =>
  cases mD r.response (cO c r.to) with
  |true=>exact Nat.zero_le _
  |false=>exact acs (by simp) _
 |false =>
  cases r.kind==1 with
  |true =>
   cases qV r (cO c r.to) with
   |true=>exact(by decide:1<=101)
   |false=>simp only[cond_true,cond_false,List.length_map]; omega
  |false=>cases r.kind==2<;>exact(by decide:1<=101)
theorem acv{p:aI}{r:Rule}{v:Int}(hv:p.values.length<2^20):(kL p r v).length<2^21:=by
 unfold kL;cases decide (0<=r.write)&&r.write !=v
 ·cases decide (r.write<0)&&(decide (0<=r.read)&&r.read !=v)
  ·cases decide (0<=r.read)
   ·cases decide (r.write<0)
    ·show((List.range _).map _).length<_;rw[List.length_map,List.length_range]; omega
    ·exact(by decide:(1:Nat)<2^21)
   ·exact(by decide:(1:Nat)<2^21)
  ·exact(by decide:(0:Nat)<2^21)
 ·exact(by decide:(0:Nat)<2^21)
set_option maxHeartbeats 4000000 in
theorem S.vF(p:aI)(i:Nat)(e:Elem)(hp:eU p)(hF:Bh p e)(hi:i<p.rules.length)(ha:(p.rules.getD i default).all=[])(hval: ∀ r∈p.rules,0<=r.write->0<p.values.length):ak Tryz.prog 53 [.dat (.fV p),.int i,.dat (.elem e)] (MS (V5 p (p.rules.getD i default) e)):=by
 have hX:=hF.Ju (r:=p.rules.getD i default) (by rw[getD_some hi]; exact List.getElem_mem hi);have hr:=hp.rule i;have h0:=hF.nums;have hst:=hF.valid.states;have hlen:=hF.len;have hx:=hX.xl;have hsrc:=hX.rf.place.src;have hr0:p.rules.getD i default∈p.rules:=by rw[getD_some hi]; exact List.getElem_mem hi
 generalize hre:p.rules.getD i default=r at hX hr ha hx hr0;generalize hres:MS (V5 p r e)=res;have hvl:(kL p r e.value).length<2^21:=acv hp.values;have hcl:=Wh hX.rf.place h0 (by omega);have hcn:=acu (c:=e.counts) (r:=r) (by omega);have hpos: ∀ i,0<=e.counts.getD i 0:=fun i=>(jE h0 i).1
 refine ak.of Bd.vF (by simp) rfl (by rw[<- hres]; rfl) ?_;refine .mk (by simp only[Rw.rng]; omega) ?_;conv=>whnf
 rw[show p.rules.getD ((i:Int)).toNat default=r from hre];obtain⟨cs,ZR⟩: ∃ cs,cs=Dk r e.counts:=⟨_,rfl⟩
 obtain⟨vs,ahw⟩: ∃ vs,vs=kL p r e.value:=⟨_,rfl⟩
 have hbef:=S.xW p r e.value hp.values (hval r hr0);rw[<- ahw] at hbef hvl;rw[<- ZR] at hcl hcn;have hM:NJ p r e=oI vs cs vs.length 0:=by rw[MR,ahw,ZR]; rfl
 rw[V5,hM] at hres;have hmul:cs.length*vs.length<=101*2^21:=Nat.mul_le_mul hcn (Nat.le_of_lt hvl);rw[Nat.mul_comm] at hmul;have hN: ∀ i,i<=vs.length-> ∀ j,j<=cs.length->(oI vs cs i j).length<=101*2^21+101:=fun i h j k=>by
  rw[MQ h k];have:=Nat.mul_le_mul_right cs.length h;omega
 rcases hX.rf.kind with hk|hk|hk
 case' inl =>
  have hcs:cntF r e.counts=Dk r e.counts:=by unfold Dk; rw[hk]; rfl
  have hloc:=S.zN r e.counts false h0 hX.rf.place hk ha (by omega) (by omega);rw[hcs,<- ZR] at hloc;refine Fork.mk (fun _=>?_) (fun q=>absurd (q.symm.trans (beq_iff_eq.2 hk)) Bool.false_ne_true);refine ah.pure hloc rfl ?_;refine ah.pure hbef rfl ?_;refine aA.nil 11 35 3 (by rfl) rfl rfl rfl ?_;refine aA.objs 3 [3] (fun i:Nat=>[(12,.int i),(9,.row 0 false (.bH cs)),(10,.row 0 false (.ints vs)),(11,.own 2)]) (fun i=>[(0,AA p),(2,aZ (oI vs cs i 0))]) (fun i=>i<=vs.length) (fun i=>vs.length-i) 0 [0,29] rfl (by decide) (fun _=>rfl) (Nat.zero_le _) (sR rfl) ⟨dL rfl rfl,dL rfl rfl,trivial⟩ ?_
 case' inr.inl =>
  have hcs:Dk r e.counts=[jZ r e.counts]:=by unfold Dk cntF; rw[hk]; rfl
  rw[hcs] at ZR;refine Fork.mk (fun q=>absurd (q.symm.trans (beq_eq_false_iff_ne.2 (by omega))).symm Bool.false_ne_true) (fun _=>?_);refine Fork.mk (fun _=>?_) (fun q=>absurd (q.symm.trans (beq_iff_eq.2 hk)) Bool.false_ne_true);refine ah.pure (S.zM r e.counts false (fun j=>by have:=jE h0 j; omega) (by omega) (by omega)) rfl ?_;refine ah.pure hbef rfl ?_;refine aA.fz 9 22 0 (.bH cs) rfl rfl (XO rfl rfl (by rw[ZR]; rfl)) ?_;refine aA.nil 11 35 3 (by rfl) rfl rfl rfl ?_;refine aA.objs 3 [3] (fun i:Nat=>[(12,.int i),(9,.row 0 false (.bH cs)),(10,.row 0 false (.ints vs)),(11,.own 2)]) (fun i=>[(0,AA p),(2,aZ (oI vs cs i 0))]) (fun i=>i<=vs.length) (fun i=>vs.length-i) 0 [0,32] rfl (by decide) (fun _=>rfl) (Nat.zero_le _) (sR rfl) ⟨dL rfl rfl,dL rfl rfl,trivial⟩ ?_
 case' inr.inr =>
  have hbr:=S.qQ r e.counts false h0 hX.rf.place hk (by omega);rw[<- ZR] at hbr;refine Fork.mk (fun q=>absurd (q.symm.trans (beq_eq_false_iff_ne.2 (by omega))).symm Bool.false_ne_true) (fun _=>?_);refine Fork.mk (fun q=>absurd (q.symm.trans (beq_eq_false_iff_ne.2 (by omega))).symm Bool.false_ne_true) (fun _=>?_);refine Fork.mk (fun _=>?_) (fun q=>absurd (q.symm.trans (beq_iff_eq.2 hk)) Bool.false_ne_true);refine ah.pure hbr rfl ?_;refine ah.pure hbef rfl ?_;refine aA.nil 11 35 3 (by rfl) rfl rfl rfl ?_;refine aA.objs 3 [3] (fun i:Nat=>[(12,.int i),(9,.row 0 false (.bH cs)),(10,.row 0 false (.ints vs)),(11,.own 2)]) (fun i=>[(0,AA p),(2,aZ (oI vs cs i 0))]) (fun i=>i<=vs.length) (fun i=>vs.length-i) 0 [0,33] rfl (by decide) (fun _=>rfl) (Nat.zero_le _) (sR rfl) ⟨dL rfl rfl,dL rfl rfl,trivial⟩ ?_
 all_goals
  refine⟨(sR rfl),rfl,?_⟩;rintro i hi;refine⟨fun h4=>?_,fun h4=>?_⟩
  ·have hi':i<vs.length:=by simpa using h4
   refine aA.objs 3 [3] (fun j:Nat=>[(13,.int j),(12,.int i),(9,.row 0 false (.bH cs)),(10,.row 0 false (.ints vs)),(11,.own 2)]) (fun j=>[(0,AA p),(2,aZ (oI vs cs i j))]) (fun j=>j<=cs.length) (fun j=>cs.length-j) 0 [0,2] rfl (by decide) (fun _=>rfl) (Nat.zero_le _) (sR rfl) ⟨dL rfl rfl,dL rfl rfl,trivial⟩ ?_;refine⟨(sR rfl),rfl,?_⟩;rintro j hj;have hNj:=hN i hi j hj;refine⟨fun h5=>?_,fun h5=>?_⟩
   ·have hj':j<cs.length:=by simpa using h5
    have hnx:=O7 (vs:=vs) (i:=i) hj';repeat(refine VC.mk (by first|(first|(simp only[Rw.rng,Int.toNat_natCast]; omega)|(show((oI vs cs i j).length+1)*32<=140737488355328/\(oI vs cs i j).length+1<=1152921504606846976; omega))|(simp only[okI] at *; omega)) ?_)
    exact⟨j+1,[0,18],hj',by omega,(sR rfl),(sR rfl),dL rfl rfl,⟨rfl,nofun,rfl,rfl,rfl,_,rfl,rfl,rfl,dP.of_eq (by rw[hnx]; rfl)⟩,trivial⟩
   ·have hj':j=cs.length:=by have:=of_decide_eq_false h5; omega
    subst hj';rw[<- O8 hi'];repeat(refine VC.mk (by simp only[okI] at *; omega) ?_)
    exact⟨i+1,[0,2],hi',by omega,(sR rfl),(sR rfl),dL rfl rfl,dL rfl rfl,trivial⟩
  ·have hi':i=vs.length:=by have:=of_decide_eq_false h4; omega
   subst hi';have hNv:=hN vs.length (Nat.le_refl _) 0 (Nat.zero_le _);have hsm:vH (oI vs cs vs.length 0):=fun x hx=>by have:=hcl _ (Ub hx); omega
   refine ah.shut (fun c=>c≠0) (h2:=[(0,some (AA p))]) ⟨dM (Z:=fun c=>c≠0) (i:=0) (o:=AA p) rfl (fun q=>q rfl),trivial⟩ (S.kW (oI vs cs vs.length 0) false (by omega) hsm) ⟨BP (by decide) rfl,trivial⟩ ?_;rw[<- Aa];have hml:=uy (oI vs cs vs.length 0);have hms: ∀ x∈aK (oI vs cs vs.length 0),x.counts.length<2^30:=fun x hx=>hsm x (mX hx)
   generalize aK (oI vs cs vs.length 0)=ms at hres hml hms;refine⟨fun h6=>?_,fun h6=>?_⟩
   ·have h6':decide (100<ms.length)=true:=decide_eq_true (by have:=of_decide_eq_true h6; omega);rw[h6',Bool.true_or,cond_true] at hres;rw[<- hres];exact aj.y8
   have h6':decide (100<ms.length)=false:=decide_eq_false (by have:=of_decide_eq_false h6; omega);rw[h6',Bool.false_or] at hres;refine aA.objs 1 [3] (fun i:Nat=>[(14,.int i),(11,.row 3 false (.elems ms))]) (fun _=>[(0,AA p)]) (fun i=>i<=ms.length/\(ms.take i).any (lH p)=false) (fun i=>ms.length-i) 0 [0] rfl (by decide) (fun _=>rfl) ⟨Nat.zero_le _,rfl⟩ (sR rfl) ⟨dL rfl rfl,trivial⟩ ?_;refine⟨(sR rfl),rfl,?_⟩;rintro k ⟨hk1,hk2⟩;refine⟨fun h7=>?_,fun h7=>?_⟩
   ·have hk':k<ms.length:=by simpa using h7
    have hmk:ms.getD k default∈ms:=by rw[getD_some hk']; exact List.getElem_mem hk'
    repeat(refine VC.mk (by first|(simp only[Rw.rng]; omega)|(simp only[Rw.rng]; omega)) ?_)
    refine ah.pure (S.Dt p (ms.getD k default) hp (hms _ hmk)) rfl ?_;refine⟨fun h8=>?_,fun h8=>?_⟩
    ·have h8':lH p (ms.getD k default)=true:=by
      have:(!(!(lH p (ms.getD k default))))=true:=h8
      simpa using this
     have hany:ms.any (lH p)=true:=List.any_eq_true.2 ⟨_,hmk,h8'⟩;rw[hany,cond_true] at hres;rw[<- hres];exact aj.y8
    ·have h8':lH p (ms.getD k default)=false:=by
      have:(!(!(lH p (ms.getD k default))))=false:=h8
      simpa using this
     repeat(refine VC.mk (by simp only[okI] at *; omega) ?_)
     exact⟨k+1,[0],⟨hk',by rw[List.take_succ_eq_append_getElem hk',List.any_append,hk2,<- getD_some (d:=default) hk',List.any_cons,h8']; rfl⟩,by omega,(sR rfl),(sR rfl),dL rfl rfl,trivial⟩
   ·have hk':k=ms.length:=by have:=of_decide_eq_false h7; omega
    rw[hk',List.take_length] at hk2;rw[hk2,cond_false] at hres;rw[<- hres,hk'];exact aj.eqv rfl
theorem agq{p:aI}{e:Elem}(hF:Bh p e): ∀ r∈p.rules,0<=r.write->0<p.values.length:=by
 intro r hr hw;rcases(hF.Ju hr).rf.wr with h|h
 ·simp only[pR,Bool.or_eq_false_iff,decide_eq_false_iff_not] at h; omega
 ·omega
theorem S.QG(p:aI)(i:Nat)(e:Elem)(hp:eU p)(hF:Bh p e)(hi:i<p.rules.length)(ha: ∀ r∈p.rules,r.all=[]):ak Tryz.prog 53 [.dat (.fV p),.int i,.dat (.elem e)] (MS (pO p (p.rules.getD i default) e)):=by
 have hm:p.rules.getD i default∈p.rules:=by rw[getD_some hi]; exact List.getElem_mem hi
 have hX:=hF.Ju hm;have h:=S.vF p i e hp hF hi (ha _ hm) (agq hF);rwa [aej hX.rf.place hX.nd (fun j=>(jE hF.nums j).1) hF.len (Uc hX.rf hF.val)] at h
set_option maxHeartbeats 1000000 in
theorem S.HY(p:aI)(e:Elem)(hp:eU p)(hF:Bh p e)(ha: ∀ r∈p.rules,r.all=[]):ak Tryz.prog 55 [.dat (.fV p),.dat (.elem e)] (MS (jg p e)):=by
 have hpr:=hp.rules;have h6:=hF.valid.states;have h8:=hF.valid.aaf;have h0:=hF.valid.pos;have hl:=hF.len;generalize hres:MS (jg p e)=res;refine ak.of Bd.HY (by simp) rfl (by rw[<- hres]; rfl) ?_;refine aA.nil 6 35 3 (by rfl) rfl rfl rfl ?_;refine aA.objs 3 [2,3] (fun i:Nat=>[(7,.int i),(6,.own 2)]) (fun i=>[(0,.box 27 11 (.dat (.fV p))),(1,.box 35 3 (.dat (.elem e))),(2,aZ (iw p e i))]) (fun i=>i<=p.rules.length/\(p.rules.take i).any (fun r=>(pO p r e).1 !=0)=false) (fun i=>p.rules.length-i) 0 [0,1,6] rfl (by decide) (fun _=>rfl) ⟨Nat.zero_le _,rfl⟩ (sR rfl) ⟨dL rfl rfl,dL rfl rfl,dL rfl rfl,trivial⟩ ?_;refine⟨(sR rfl),rfl,?_⟩;rintro i ⟨hi,hno⟩;have hpl:=MW (p:=p) (e:=e) (i:=i);refine⟨fun h1=>?_,fun h1=>?_⟩
 ·have hi':i<p.rules.length:=by simpa using h1
  have hst:=Jv (e:=e) hi';have hmem:p.rules.getD i default∈p.rules:=by rw[getD_some hi']; exact List.getElem_mem hi'
  have hlen:=@Hr p (p.rules.getD i default) e;refine ah.pure (S.QG p i e hp hF hi' ha) rfl ?_;have herr:=@Ud p (p.rules.getD i default) e;generalize hq:pO p (p.rules.getD i default) e=q at hst hlen herr;refine⟨fun h2=>?_,fun h2=>?_⟩
  ·replace h2:(q.1 !=0)=true:=h2;conv=>whnf
   have h4:q.1=4:=by
    rcases herr with h|h
    ·rw[h] at h2; cases h2
    ·exact h
   have hany:p.rules.any (fun r=>(pO p r e).1 !=0)=true:=List.any_eq_true.2 ⟨_,hmem,by rw[hq]; exact h2⟩;rw[<- hres,jg,hany,h4];exact aj.y8
  ·replace h2:(q.1 !=0)=false:=h2;repeat(refine VC.mk (by first|(show((iw p e i).length+q.2.length)*32<=140737488355328/\(iw p e i).length+q.2.length<=1152921504606846976; omega)|(simp only[okI] at *; omega)) ?_)
   refine⟨i+1,[0,1,21],⟨hi',?_⟩,by omega,(sR rfl),(sR rfl),dL rfl rfl,dL rfl rfl,⟨rfl,nofun,rfl,rfl,rfl,_,rfl,rfl,rfl,dP.of_eq (by rw[hst])⟩,trivial⟩;rw[List.take_succ_eq_append_getElem hi',List.any_append,hno,Bool.false_or,<- getD_some (d:=default) hi'];show((pO p (p.rules.getD i default) e).1 !=0||false)=false;rw[hq,h2]; rfl
 ·have hi':i=p.rules.length:=by have:=of_decide_eq_false h1; omega
  subst hi';rw[List.take_length] at hno;have hX:jg p e=bif decide (100<(aK (iw p e p.rules.length)).length) then(4,[]) else(0,aK (iw p e p.rules.length)):=by unfold jg; rw[hno]; rfl
  refine ah.shut (fun c=>c=2) (h2:=[]) trivial (S.kW (iw p e p.rules.length) false (by omega) (fun x hx=>by have:=QB (Fb hF hx); omega)) ⟨BP rfl rfl,trivial⟩ ?_;rw[<- Aa];generalize aK (iw p e p.rules.length)=M at hX;refine⟨fun h2=>?_,fun h2=>?_⟩
  ·replace h2:decide (100<(M.length:Int))=true:=h2;have:=of_decide_eq_true h2;rw[decide_eq_true (by omega:100<M.length),cond_true] at hX;conv=>whnf
   rw[<- hres,hX];exact aj.y8
  ·replace h2:decide (100<(M.length:Int))=false:=h2;have:=of_decide_eq_false h2;rw[decide_eq_false (by omega: ¬ 100<M.length),cond_false] at hX;conv=>whnf
   rw[<- hres,hX];exact aj.eqv rfl
theorem S.agr(l:List Elem)(f:Bool)(hl:l.length<2^29)(hs:vH l):aP Tryz.prog 90 (V.aU [.row 3 f (.elems l)]) (Hz.ay []) 0 (fun t hp=>t= .own 0/\hp=Hz.ay [(0,some (aZ (yP l)))]):=by
 refine oL.of (nx:=0) (h0:=[]) Bd.kW (by simp) ⟨_,_,rfl,rfl⟩ rfl rfl ?_;refine aA.nil 3 35 3 (by rfl) rfl rfl rfl ?_;refine aA.objs 1 [0,4] (fun i:Nat=>[(5,.int i),(3,.own 0)]) (fun i=>[(0,aZ ((l.take i).foldl oz []))]) (fun i=>i<=l.length) (fun i=>l.length-i) 0 [4] rfl (by decide) (fun _=>rfl) (Nat.zero_le _) ?_ ?_ ?_
 ·exact(sR rfl)
 ·exact⟨dL rfl rfl,trivial⟩
 refine⟨(sR rfl),rfl,?_⟩;rintro i hi;have hal:((l.take i).foldl oz []).length<=i:=by
  have:=Rn (l.take i) [];simp at this; omega
 refine⟨fun h3=>?_,fun h3=>?_⟩
 ·have hi':i<l.length:=by simpa using h3
  refine .mk (by simp only[Rw.rng] at *; omega) ?_;refine ah.heap (S.qX _ _ _ (by decide) (by omega) (N9 hs.e i) (hs.get i)) ?_;have hstep:=ru oz [] (l:=l) default hi';rintro t hp (⟨hf,rfl,rfl⟩|⟨hf,rfl,rfl⟩)
  ·refine⟨.own 0,h1 _,rfl,rfl,?_⟩;refine .mk (by simp only[okI] at *; omega) ?_;refine⟨i+1,[0],by omega,by omega,(sR rfl),(sR rfl),⟨rfl,nofun,rfl,rfl,rfl,_,rfl,rfl,rfl,?_⟩,trivial⟩;rw[Int.toNat_natCast] at hf;rw[hstep,oz,if_pos hf]; exact .refl _
  ·refine⟨.own _,[(_,some (aZ _))],rfl,rfl,?_⟩;refine .mk (by simp only[okI] at *; omega) ?_;refine⟨i+1,[10],by omega,by omega,(sR rfl),(sR rfl),⟨rfl,nofun,rfl,rfl,rfl,_,rfl,rfl,rfl,?_⟩,trivial⟩;rw[hstep]; exact .refl _
 ·have hi':l.length<=i:=by simpa using h3
  have hall:(l.take i).foldl oz []=KR l:=by rw[List.take_of_length_le hi']; rfl
  have hsl:vH (KR l):=fun x hx=>by
   rcases KT _ _ _ hx with h'|h'
   ·cases h'
   ·exact hs x h'
  rw[hall];rw[hall] at hal;generalize hA:KR l=A at hal hsl ⊢;have hrm:yP l=A.foldl fH []:=by rw[yP,hA]
  rw[hrm];clear hall hA hrm h3;refine aA.nil 4 35 3 (by rfl) rfl rfl rfl ?_;refine aA.objs 2 [] (fun i:Nat=>[(6,.int i),(3,.own 0),(4,.own 1)]) (fun i=>[(0,aZ A),(1,aZ ((A.take i).foldl fH []))]) (fun i=>i<=A.length) (fun i=>A.length-i) 0 [0,6] rfl (by decide) (fun _=>rfl) (Nat.zero_le _) ?_ ?_ ?_
  ·exact(sR rfl)
  ·exact⟨dL rfl rfl,dL rfl rfl,trivial⟩
  refine⟨trivial,rfl,?_⟩;rintro j hj;have hkl:((A.take j).foldl fH []).length<=j:=by
   have:=KO (A.take j) [];simp at this; omega
  refine⟨fun h3=>?_,fun h3=>?_⟩
  ·have hj':j<A.length:=by simpa using h3
   have hstep:=ru fH [] (l:=A) default hj';repeat(refine VC.mk (by simp only[Rw.rng] at *; omega) ?_)
   refine ah.lend (S.mW _ (A.getD j default) false (by omega) (zY hsl.e j) (hsl.e.get j)) ⟨BP trivial rfl,aC _,trivial⟩ rfl rfl ?_;refine⟨fun h4=>?_,fun h4=>?_⟩
   ·conv=>whnf
    repeat(refine VC.mk (by first|(show(((A.take j).foldl fH []).length+(0+1))*32<=140737488355328/\((A.take j).foldl fH []).length+(0+1)<=1152921504606846976; omega)|(simp only[okI,Rw.rng] at *; omega)) ?_)
    refine⟨j+1,[0,19],by omega,by omega,(sR rfl),trivial,dL rfl rfl,⟨rfl,nofun,rfl,rfl,rfl,_,rfl,rfl,rfl,dP.of_eq ?_⟩,trivial⟩;rw[hstep,fH,if_neg (by simpa using h4)];show List.map gq _++[]=List.map gq _++[gq _];simp
   ·conv=>whnf
    refine .mk (by simp only[okI] at *; omega) ?_;refine⟨j+1,[0,1],by omega,by omega,(sR rfl),trivial,dL rfl rfl,⟨rfl,nofun,rfl,rfl,rfl,_,rfl,rfl,rfl,dP.of_eq ?_⟩,trivial⟩;have h5:((A.take j).foldl fH []).any (fun b=>kK b (A.getD j default))=true:=by simpa using h4
    rw[hstep,fH,if_pos h5]
  ·conv=>whnf
   have hj':A.length<=j:=by simpa using h3
   have hA:A.take j=A:=List.take_of_length_le hj';rw[hA];exact iP.one (c:=0) (j:=1) (o:=aZ (A.foldl fH [])) (t:=.own 0) rfl rfl rfl nofun (.inr rfl) rfl (.eq rfl) ⟨rfl,rfl⟩
theorem ah.agr{h:Hz}{n:Nat}{l:List Elem}{f:Bool}{K:V->Hz->Prop}{KW:Nat->V->Hz->Prop}(hn:h.get n=none)(hl:l.length<2^29)(hs:vH l)
  (hK:K (.own n) ((n,some (aZ (aK l)))::h)):ah Tryz.prog false none 90 [.row 3 f (.elems l)] h n K KW:=by
 refine ah.Ql [] (S.agr l f hl hs) rfl rfl rfl rfl rfl trivial hn (by simp) ?_;rintro t hp ⟨rfl,rfl⟩;rw[Aa] at hK;exact⟨.own n,[some (aZ (yP l))],rfl,rfl,⟨congrArg some (tq rfl _).symm,trivial⟩,hK⟩
def Wi(O G:List Elem):Prop:=(∀ x∈O,x∈G)/\ ∀ y∈G,O.any (fun x=>kK x y)=true
theorem aeD{O G:List Elem}(h:Wi O G):aK O=aK G:=by
 refine zh (bZ O).1 (bZ G).1 fun x=>?_
 rw[(bZ O).2,(bZ G).2];constructor
 ·rintro⟨h1,h2⟩;refine⟨h.1 x h1,?_⟩;rw[List.any_eq_false] at h2 ⊢;intro g hg hab;obtain⟨o,ho,hle⟩:=List.any_eq_true.1 (h.2 g hg);obtain⟨a1,a2⟩:=nO.1 hab;by_cases e:o=x
  ·subst e;have c1:=FZ hab;have c2:=FY hle;rw[og] at c1;omega
  ·exact h2 o ho (nO.2 ⟨uh hle a1,e⟩)
 ·rintro⟨h1,h2⟩;rw[List.any_eq_false] at h2;obtain⟨o,ho,hle⟩:=List.any_eq_true.1 (h.2 x h1);have e:o=x:=by
   by_cases e:o=x
   ·exact e
   ·exact absurd (nO.2 ⟨hle,e⟩) (h2 o (h.1 o ho))
  subst e;refine⟨ho,?_⟩;rw[List.any_eq_false];exact fun y hy=>h2 y (h.1 y hy)
theorem acw(l:List Elem):Wi (aK l) l:=⟨fun _ h=>mX h,fun y hy=>by rw[Ku]; exact List.any_eq_true.2 ⟨y,hy,yZ y⟩⟩
theorem acy{O G:List Elem}{y:Elem}(h:Wi O G)(hy:O.any (fun x=>kK x y)=true):Wi O (G++[y]):=by
 refine⟨fun x hx=>List.mem_append_left _ (h.1 x hx),fun z hz=>?_⟩;rcases List.mem_append.1 hz with hz|hz
 ·exact h.2 z hz
 ·rw[List.mem_singleton.1 hz]; exact hy
theorem aeE{O G:List Elem}{y:Elem}(hs:SS O)(h:Wi O G):Wi (oz O y) (G++[y]):=by
 have hm:=(EL (e:=y) hs).2;refine⟨fun x hx=>?_,fun z hz=>?_⟩
 ·rcases(hm x).1 hx with rfl|hx
  ·exact List.mem_append_right _ (List.mem_singleton.2 rfl)
  ·exact List.mem_append_left _ (h.1 x hx)
 ·rcases List.mem_append.1 hz with hz|hz
  ·obtain⟨o,ho,hle⟩:=List.any_eq_true.1 (h.2 z hz);exact List.any_eq_true.2 ⟨o,(hm o).2 (.inr ho),hle⟩
  ·rw[List.mem_singleton.1 hz];exact List.any_eq_true.2 ⟨y,(hm y).2 (.inl rfl),yZ y⟩
def Wj(p:aI)(b:List Elem):V:=bif b.any (fun x=>(jg p x).1 !=0) then .dW [.row 3 false (.elems []),.bool false] else .dW [.row 3 false (.elems (aK (gU p b b.length))),.bool (decide ((aK (gU p b b.length)).length<=100))]
theorem ZT{p:aI}{b:List Elem}:(Wj p b).free=true:=by
 unfold Wj;cases b.any (fun x=>(jg p x).1 !=0)<;>rfl
structure Du(p:aI)(b:List Elem)(i j:Nat)(O:List Elem):Prop where
 ss:SS O
 len:O.length<=b.length+i*100+j
 dom:Wi O (gU p b i++(jg p (b.getD i default)).2.take j)
theorem Un{p:aI}{b:List Elem}{i:Nat}(hi:i<b.length){O:List Elem}(h:Du p b i (jg p (b.getD i default)).2.length O):Du p b (i+1) 0 O:=by
 have:=@Dp p (b.getD i default);refine⟨h.ss,by have:=h.len; omega,?_⟩;have:=h.dom;rw[List.take_length,<- Fj hi] at this;rw[List.take_zero,List.append_nil]; exact this
theorem Du.fit{p:aI}{b:List Elem}{i j:Nat}{O:List Elem}(h:Du p b i j O)(hb:yY p b)(hi:j=0\/i<b.length):yY p O:=by
 intro x hx;rcases List.mem_append.1 (h.dom.1 x hx) with hx|hx
 ·exact wR hb x hx
 ·rcases hi with rfl|hi
  ·cases hx
  ·have hF:=hb (b.getD i default) (by rw[getD_some hi]; exact List.getElem_mem hi);exact MV hF (MX hF (List.mem_of_mem_take hx))
theorem Jd{α:Type}{l:List α}{j:Nat}{d:α}(h:j<l.length):l.take (j+1)=l.take j++[l.getD j d]:=by
 rw[List.take_succ_eq_append_getElem h,getD_some h]
theorem Du.ins{p:aI}{b:List Elem}{i j:Nat}{O:List Elem}(h:Du p b i j O)(hj:j<(jg p (b.getD i default)).2.length):Du p b i (j+1) (oz O ((jg p (b.getD i default)).2.getD j default)):=by
 refine⟨(EL h.ss).1,?_,?_⟩
 ·have h1:=h.len;have h2:=@Rl O ((jg p (b.getD i default)).2.getD j default);omega
 ·rw[Jd (d:=default) hj,<- List.append_assoc];exact aeE h.ss h.dom
theorem Du.skip{p:aI}{b:List Elem}{i j:Nat}{O:List Elem}(h:Du p b i j O)(hj:j<(jg p (b.getD i default)).2.length)(hy:O.any (fun x=>kK x ((jg p (b.getD i default)).2.getD j default))=true):Du p b i (j+1) O:=by
 refine⟨h.ss,by have:=h.len; omega,?_⟩;rw[Jd (d:=default) hj,<- List.append_assoc];exact acy h.dom hy
theorem aj.ahx{b:Bool}{k:Nat}{h:Hz}:aj (.dW [.row 3 false (.elems []),.bool b]) (.dW [.row k true .nil,.bool b]) h:=⟨by
  show T.sub _ _ (.dW [.sl 3 false [],(V.bool b).aH]) (.dW [.sl k true [],(V.bool b).aH]);simp only[T.sub,T.dA]
  exact⟨⟨.inl trivial,.inr trivial,fun h=>by cases h⟩,aC _,trivial⟩⟩
theorem uj{p:aI}{l:List Elem}(h:yY p l):vH l:=fun x hx=>by
 have h1:=(h x hx).valid.states;have h2:=(h x hx).len;omega
set_option maxHeartbeats 2000000 in
theorem S.zQ(p:aI)(b:List Elem)(f:Bool)(hp:eU p)(hfit:yY p b)(hb:b.length<=1000)(ha: ∀ r∈p.rules,r.all=[]):ak Tryz.prog 96 [.dat (.fV p),.row 3 f (.elems b)] (Wj p b):=by
 generalize hres:Wj p b=res;refine ak.of Bd.zQ (by simp) rfl (by rw[<- hres]; exact ZT) ?_;refine ah.agr rfl (by omega) (uj hfit) ?_;conv=>whnf
 have hg0:Du p b 0 0 (aK b):=⟨(bZ b).1,by have:=uy b; omega,by rw[List.take_zero,List.append_nil]; exact(by have:=acw b; unfold gU; simpa using this)⟩
 refine aA.objs 3 [1,2] (fun x:Nat×List Elem=>[(7,.int x.1),(6,.own 2)]) (fun x=>[(0,AA p),(2,aZ x.2)]) (fun x=>x.1<=b.length/\Du p b x.1 0 x.2/\(b.take x.1).any (fun x=>(jg p x).1 !=0)=false) (fun x=>b.length-x.1) (0,aK b) [0,4] rfl (by decide) (fun _=>rfl) ⟨Nat.zero_le _,hg0,rfl⟩ (sR rfl) ⟨dL rfl rfl,dL rfl rfl,trivial⟩ ?_;refine⟨(sR rfl),rfl,?_⟩;rintro⟨i,O⟩ ⟨hi,hI,hno⟩;replace hi:i<=b.length:=hi;replace hI:Du p b i 0 O:=hI;replace hno:(b.take i).any (fun x=>(jg p x).1 !=0)=false:=hno;refine⟨fun h1=>?_,fun h1=>?_⟩
 ·have hi':i<b.length:=by simpa using h1
  have hmem:b.getD i default∈b:=by rw[getD_some hi']; exact List.getElem_mem hi'
  have hFx:=hfit _ hmem;have hpre:=S.HY p (b.getD i default) hp hFx ha;have hpl:=@Dp p (b.getD i default);refine .mk (by first|(simp only[Rw.rng]; omega)|(simp only[Rw.rng]; omega)) ?_;refine ah.pure hpre rfl ?_;generalize hq:jg p (b.getD i default)=q at hpl;refine⟨fun h2=>?_,fun h2=>?_⟩
  ·replace h2:(q.1 !=0)=true:=h2;have hany:b.any (fun x=>(jg p x).1 !=0)=true:=List.any_eq_true.2 ⟨_,hmem,by rw[hq]; exact h2⟩;conv=>whnf
   rw[<- hres];unfold Wj;rw[hany];exact aj.ahx
  ·replace h2:(q.1 !=0)=false:=h2;refine aA.objs 3 [1,2] (fun x:Nat×List Elem=>[(10,.int x.1),(8,.row 3 false (.elems q.2)),(7,.int i),(6,.own 2)]) (fun x=>[(0,AA p),(2,aZ x.2)]) (fun x=>x.1<=q.2.length/\Du p b i x.1 x.2) (fun x=>q.2.length-x.1) (0,O) [0,2] rfl (by decide) (fun _=>rfl) ⟨Nat.zero_le _,hI⟩ (sR rfl) ⟨dL rfl rfl,dL rfl rfl,trivial⟩ ?_;refine⟨(sR rfl),rfl,?_⟩;have aia:=hno;clear hI hno;rintro⟨j,O⟩ ⟨hj,hI⟩;replace hj:j<=q.2.length:=hj;replace hI:Du p b i j O:=hI;have hOf:=hI.fit hfit (.inr hi');have hOs:=uj hOf;have hOl:=hI.len;refine⟨fun h3=>?_,fun h3=>?_⟩
   ·have hj':j<q.2.length:=by simpa using h3
    have hym:q.2.getD j default∈(jg p (b.getD i default)).2:=by rw[hq,getD_some hj']; exact List.getElem_mem hj'
    have hyF:=MV hFx (MX hFx hym);have hyl:(q.2.getD j default).counts.length<2^30:=by
     have h1:=hyF.valid.states;have h2:=hyF.len;omega
    refine .mk (by first|(simp only[Rw.rng]; omega)|(simp only[Rw.rng]; omega)) ?_;refine ah.lend (S.mW O (q.2.getD j default) false (by omega) hOs.e (by omega)) ⟨BP trivial rfl,aC _,trivial⟩ rfl rfl ?_;refine⟨fun h4=>?_,fun h4=>?_⟩
    ·have hin:=Du.ins hI (by rw[hq]; exact hj');rw[hq] at hin;refine .mk (by first|(simp only[Rw.rng]; omega)|(simp only[Rw.rng]; omega)) ?_;refine ah.insert (i:=2) rfl rfl (by show O.length<2^30; omega) hOs.e hyl (fun hf=>?_) (fun _=>?_)
     ·replace hf:yM O (q.2.getD j default)=true:=hf;have hsm:oz O (q.2.getD j default)=O:=by rw[oz,if_pos hf]
      refine .mk (by simp only[okI] at *; omega) ?_;exact⟨(j+1,oz O (q.2.getD j default)),[0,2],⟨hj',hin⟩,by show q.2.length-(j+1)<q.2.length-j; omega,(sR rfl),(sR rfl),dL rfl rfl,⟨rfl,nofun,rfl,rfl,rfl,_,rfl,rfl,rfl,dP.of_eq (by show(aZ (oz O (q.2.getD j default))).au.l=(aZ O).au.l; rw[hsm])⟩,trivial⟩
     ·conv=>whnf
      refine .mk (by simp only[okI] at *; omega) ?_;exact⟨(j+1,oz O (q.2.getD j default)),[0,19],⟨hj',hin⟩,by show q.2.length-(j+1)<q.2.length-j; omega,(sR rfl),(sR rfl),dL rfl rfl,dL rfl rfl,trivial⟩
    ·have hsk:=Du.skip hI (by rw[hq]; exact hj') (by rw[hq]; simpa using h4);refine .mk (by simp only[okI] at *; omega) ?_;exact⟨(j+1,O),[0,2],⟨hj',hsk⟩,by show q.2.length-(j+1)<q.2.length-j; omega,(sR rfl),(sR rfl),dL rfl rfl,dL rfl rfl,trivial⟩
   ·have hj':j=q.2.length:=by have:=of_decide_eq_false h3; omega
    subst hj';have hnx:=Un hi' (by rw[hq]; exact hI);refine .mk (by simp only[okI] at *; omega) ?_;refine⟨(i+1,O),[0,2],⟨hi',hnx,?_⟩,by show b.length-(i+1)<b.length-i; omega,(sR rfl),(sR rfl),dL rfl rfl,dL rfl rfl,trivial⟩;show(b.take (i+1)).any _=false;rw[Jd (d:=default) hi',List.any_append,aia,List.any_cons,hq,h2]; rfl
 ·have hi':i=b.length:=by have:=of_decide_eq_false h1; omega
  subst hi';rw[List.take_length] at hno;have hM:aK O=aK (gU p b b.length):=by
   have:=hI.dom;rw[List.take_zero,List.append_nil] at this;exact aeD this
  have hOs:=uj (hI.fit hfit (.inl rfl));have hOl:=hI.len;refine ah.shut (fun c=>c=2) (h2:=[]) trivial (S.kW O false (by omega) hOs) ⟨BP rfl rfl,trivial⟩ ?_;rw[<- Aa,hM];conv=>whnf
  rw[<- hres];unfold Wj;rw[hno];have hdec:decide (((aK (gU p b b.length)).length:Int)<=100)=decide ((aK (gU p b b.length)).length<=100):=by rw[Bool.eq_iff_iff,decide_eq_true_eq,decide_eq_true_eq]; omega
  rw[hdec];exact aj.eqv rfl
def H6(p:aI)(q:Prop')(rounds:Int):Int×List Elem×Int×Bool:=bif dn p q !=0 then(dn p q,[],0,false) else bif decide (100<rounds) then(1,[],0,false) else match wS p q rounds with
 |none=>(4,[],0,false)
 |some (b,k,d)=>(0,b,k,d)
def acz(x:Int×List Elem×Int×Bool):V:=.dW [.agg [.int 0,.row 3 false (.elems x.2.1),.int 0,.int x.2.2.1],.bool x.2.2.2,.int x.1]
theorem aj.Nh{h:Hz}{a c d e f:V}:aj (.dW [.agg [a,.row 3 false (.elems []),c,d],e,f]) (.dW [.agg [a,.row 0 true .nil,c,d],e,f]) h:=⟨by
 show T.sub (fun _=>True) h.ay (.dW [.agg [a.aH,.sl 3 false [],c.aH,d.aH],e.aH,f.aH]) (.dW [.agg [a.aH,.sl 0 true [],c.aH,d.aH],e.aH,f.aH]);simp only[T.sub,T.dA]
 exact⟨⟨aC _,⟨.inl trivial,.inr trivial,fun h=>by cases h⟩,aC _,aC _,trivial⟩,aC _,aC _,trivial⟩⟩
abbrev aib:OV:=.box 59 5 (.agg [.int 0,.row 0 true .nil,.int 0,.int 0])
def Nh(o:Option (List Elem×Nat×Bool)):V:=match o with
 |none=>acz (4,[],0,false)
 |some (b,k,d)=>acz (0,b,k,d)
set_option maxHeartbeats 4000000 in
theorem S.x8(p:aI)(q:Prop')(rounds:Int)(hp:eU p)(hq:kM q):ak Tryz.prog 58 [.dat (.fV p),.dat (.prop q),.int rounds] (acz (H6 p q rounds)):=by
 generalize hres:acz (H6 p q rounds)=res;refine ak.of Bd.x8 (by simp) rfl (by rw[<- hres]; rfl) ?_;refine ah.pure (S.y9 p q hp hq) rfl ?_;refine⟨fun h1=>?_,fun h1=>?_⟩
 ·replace h1:(dn p q !=0)=true:=h1;conv=>whnf
  rw[<- hres,H6,h1];exact aj.Nh
 replace h1:(dn p q !=0)=false:=h1;have hc:=BD h1;refine⟨fun h2=>?_,fun h2=>?_⟩
 ·replace h2:decide (100<rounds)=true:=h2;conv=>whnf
  rw[<- hres,H6,h1,h2];exact aj.Nh
 replace h2:decide (100<rounds)=false:=h2;have hr:=of_decide_eq_false h2;have hX:acz (H6 p q rounds)=Nh (wS p q rounds):=by
  rw[H6,h1,h2];cases wS p q rounds<;>rfl
 have hbf:=QD hc;obtain⟨l1,l2⟩:=BM p q hp;obtain⟨_,b2,b3,b4⟩:=H9 hc;have hv:=KA b3;have v1:=hv.pos; have v2:=hv.states; have v3:=hv.values;have hall:=(X8 b4).2;have hbad:iO p q=lI q p.states.length (max 1 p.values.length):=by rw[iO,h1]; rfl
 refine ah.pure (S.FX p q p.states.length (max 1 p.values.length) hp hq rfl v1 v2 rfl (by omega) b2) rfl ?_;rw[<- hbad];refine⟨fun h3=>?_,fun h3=>?_⟩
 ·have h3':=of_decide_eq_true h3;have hB:wS p q rounds=none:=by unfold wS; rw[decide_eq_true (by omega:100<(iO p q).length)]; rfl
  conv=>whnf
  rw[<- hres,hX,hB];exact aj.Nh
 have h3':=of_decide_eq_false h3;have hB:wS p q rounds=nU p rounds.toNat (iO p q) 0:=by unfold wS; rw[decide_eq_false (by omega: ¬ 100<(iO p q).length)]; rfl
 rw[hX,hB] at hres;conv=>whnf
 rw[show max rounds 0=((rounds.toNat:Nat):Int) by omega];have hRb:rounds.toNat<=100:=by omega
 generalize rounds.toNat=R at hres hRb;refine aA.objs 3 [3,6] (fun x:Nat×List Elem=>[(11,.int x.1),(10,.row 3 false (.elems x.2)),(2,.int R)]) (fun _=>[(0,AA p),(2,aib)]) (fun x=>x.2.length<=100/\yY p x.2/\x.1<=R/\Nh (nU p (R-x.1) x.2 x.1)=res) (fun x=>R-x.1) (0,iO p q) [0,2] rfl (by decide) (fun _=>rfl) ⟨by show(iO p q).length<=100; omega,hbf,Nat.zero_le _,hres⟩ (sR rfl) ⟨dL rfl rfl,dL rfl rfl,trivial⟩ ?_;refine⟨(sR rfl),rfl,?_⟩;clear hres hbf hX hB hbad;rintro⟨k,b⟩ ⟨hb,hfit,hk,hres⟩;replace hb:b.length<=100:=hb;replace hfit:yY p b:=hfit;replace hk:k<=R:=hk;replace hres:Nh (nU p (R-k) b k)=res:=hres;have hgr:=S.zQ p b false hp hfit (by omega) hall;have hgE:growE p b=bif b.any (fun x=>(jg p x).1 !=0) then none else bif decide (100<(aK (gU p b b.length)).length) then none else some (aK (gU p b b.length)):=rfl;have hML:=uy (gU p b b.length);have hGL:=I9 (p:=p) (b:=b) (i:=b.length);have hMs:dK (aK (gU p b b.length)):=(uj (fun x hx=>wR hfit x (mX hx))).e;have hbs:=(uj hfit).e;have hMf:yY p (aK (gU p b b.length)):=fun x hx=>wR hfit x (mX hx)
 unfold Wj at hgr;generalize aK (gU p b b.length)=M at hgE hgr hML hMs hMf;refine⟨fun h4=>?_,fun h4=>?_⟩
 ·have hk':k<R:=by have:=of_decide_eq_true h4; omega
  conv=>whnf
  cases hany:b.any (fun x=>(jg p x).1 !=0) with
  |true =>
   rw[hany,cond_true] at hgr hgE;refine ah.pure hgr rfl ?_;refine Fork.mk (fun _=>?_) (fun q=>absurd (q.symm.trans (rfl)) Bool.false_ne_true);conv=>whnf
   rw[<- hres,pJ hgE];exact aj.Nh
  |false =>
   rw[hany,cond_false] at hgr hgE;refine ah.pure hgr rfl ?_;refine⟨fun h5=>?_,fun h5=>?_⟩
   ·have h5':100<M.length:=by
     replace h5:(!(decide (M.length<=100)))=true:=h5;simpa using h5
    rw[decide_eq_true h5',cond_true] at hgE;conv=>whnf
    rw[<- hres,pJ hgE];exact aj.Nh
   have h5':M.length<=100:=by
    replace h5:(!(decide (M.length<=100)))=false:=h5;simpa using h5
   rw[decide_eq_false (by omega: ¬ 100<M.length),cond_false] at hgE;refine ah.pure (S.uM M b false false (by omega) (by omega) hMs hbs) rfl ?_;refine⟨fun h6=>?_,fun h6=>?_⟩
   ·have h6':M=b:=of_decide_eq_true h6;rw[h6'] at hgE;conv=>whnf
    rw[<- hres,Fg hgE];exact aj.eqv rfl
   ·have h6':M≠b:=of_decide_eq_false h6;rw[show R-k=(R-(k+1))+1 by omega,Fh hgE h6'] at hres;refine .mk (by show okI ((k:Int)+1); simp only[okI]; omega) ?_;exact⟨(k+1,M),[0,2],⟨h5',hMf,hk',hres⟩,by show R-(k+1)<R-k; omega,(sR rfl),(sR rfl),dL rfl rfl,dL rfl rfl,trivial⟩
 ·have hk':k=R:=by have:=of_decide_eq_false h4; omega
  subst hk';rw[Nat.sub_self] at hres;conv=>whnf
  cases hany:b.any (fun x=>(jg p x).1 !=0) with
  |true =>
   rw[hany,cond_true] at hgr hgE;refine ah.pure hgr rfl ?_;refine Fork.mk (fun _=>?_) (fun q=>absurd (q.symm.trans (rfl)) Bool.false_ne_true);conv=>whnf
   rw[<- hres,pJ hgE];exact aj.Nh
  |false =>
   rw[hany,cond_false] at hgr hgE;refine ah.pure hgr rfl ?_;refine⟨fun h5=>?_,fun h5=>?_⟩
   ·have h5':100<M.length:=by
     replace h5:(!(decide (M.length<=100)))=true:=h5;simpa using h5
    rw[decide_eq_true h5',cond_true] at hgE;conv=>whnf
    rw[<- hres,pJ hgE];exact aj.Nh
   have h5':M.length<=100:=by
    replace h5:(!(decide (M.length<=100)))=false:=h5;simpa using h5
   rw[decide_eq_false (by omega: ¬ 100<M.length),cond_false] at hgE;refine ah.pure (S.uM M b false false (by omega) (by omega) hMs hbs) rfl ?_;conv=>whnf
   rw[<- hres];have hfin:nU p 0 b k=some (b,k,decide (M=b)):=by
    rw[nU,hgE]
   rw[hfin];exact aj.eqv rfl
theorem S.rY(p:aI)(q:Prop')(rounds:Int)(hp:eU p)(hq:kM q):ak Tryz.prog 27 [.dat (.fV p),.dat (.prop q),.int rounds] (bkV (X0 p q rounds)):=by
 have hX:X0 p q rounds=((H6 p q rounds).1,(H6 p q rounds).2.1,(H6 p q rounds).2.2.2):=by
  unfold X0 H6;cases dn p q !=0 with
  |true=>rfl
  |false =>
   cases decide (100<rounds) with
   |true=>rfl
   |false=>cases wS p q rounds<;>rfl
 rw[hX];generalize hres:bkV ((H6 p q rounds).1,(H6 p q rounds).2.1,(H6 p q rounds).2.2.2)=res;have hS:=S.x8 p q rounds hp hq;generalize H6 p q rounds=X at hres hS;refine ak.of Bd.rY (by simp) rfl (by rw[<- hres]; rfl) ?_;refine ah.pure hS rfl ?_;conv=>whnf
 rw[<- hres];exact aj.eqv rfl
end Go.Proofs.YtkmldgihhaooaaaGreatDoor
