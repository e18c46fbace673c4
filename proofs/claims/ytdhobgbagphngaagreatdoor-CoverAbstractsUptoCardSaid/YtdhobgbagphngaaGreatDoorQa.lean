/-
 Families of rows of numbers; all ways to divide. No condition.
-/
import Derived.Test.YtdhobgbagphngaaGreatDoorPa
import Derived.Test.YtdhobgbagphngaaGreatDoorGa
import Derived.Test.YtdhobgbagphngaaGreatDoorFa
import Derived.Test.YtdhobgbagphngaaGreatDoorLg
namespace Go.Proofs.YtdhobgbagphngaaGreatDoor
open Go.Ab Go.Proofs
set_option maxRecDepth 100000
theorem getD_some{α:Type}{l:List α}{i:Nat}{d:α}(h:i<l.length):l.getD i d=l[i]:=by simp[h]
abbrev fR(R:List (List Int)):List (Option OV):=R.map fun r=>some (lX r)
abbrev xU(k:Nat):OV:=BN 24 10000 k
theorem gU{R:List (List Int)}:(fR R).length=R.length:=List.length_map _
theorem iV{R:List (List Int)}{nx:Nat}: ∀ o,some o∈fR R->o.good nx=true/\o.Dp=true:=by
 intro o h;obtain⟨r,_,e⟩:=List.mem_map.1 h;cases e;exact⟨rfl,rfl⟩
theorem KN{R:List (List Int)}{j:Nat}(h:j<R.length):(fR R)[j]? =some (some (lX (R.getD j []))):=by
 rw[List.getElem?_map,List.getElem?_eq_getElem h,getD_some h]; rfl
theorem Pn{R:List (List Int)}{r:List Int}{a:Nat}(h:R.length=a):(fR (R++[r]))[a]? =some (some (lX r)):=by
 subst h;rw[List.getElem?_map,List.getElem?_append_right (Nat.le_refl _),Nat.sub_self]; rfl
theorem U5{R:List (List Int)}{r:List Int}{a:Nat}(h:R.length=a): ∀ j o,j≠a->(fR (R++[r]))[j]? =some (some o)->(fR R)[j]? =some (some o):=by
 intro j o hj q;rcases Nat.lt_or_ge j R.length with hl|hl
 ·rw[List.getElem?_map,List.getElem?_append_left hl] at q; rw[List.getElem?_map]; exact q
 ·rw[List.getElem?_map,List.getElem?_eq_none (by rw[List.length_append]; simp only[List.length_singleton]; omega)] at q; cases q
theorem iI.rows{h:Hz}{i:Nat}{R:List (List Int)}{o:OV}{g:Nat->Nat}(hi:h.get i=some o)(e1:o.aA.ty=24)(e2:o.aA.k=0)(e3:o.aA.l=(List.range R.length).map fun j=>T.own (g j))
  (hg: ∀ j,j<R.length->g j≠i/\ ∃ o',h.get (g j)=some o'/\o'.aA=(lX (R.getD j [])).aA):iI (.row 0 false (.dW R)) (.own i) h:=by
 refine iI.nest (R:=R.map Rw.ints) (ty:=3) (k:=0) ?_ ?_ ?_ (by decide) hi e1 e2 (by rw[List.length_map]; exact e3) fun j hj=>?_
 ·show R.map Go.Ab.ints=_;rw[List.map_map]; rfl
 ·rw[iw]; intro t ht; obtain⟨x,_,rfl⟩:=List.mem_map.1 ht; rfl
 ·intro x hx;obtain⟨y,_,rfl⟩:=List.mem_map.1 hx;rw[iw]; intro t ht; obtain⟨x,_,rfl⟩:=List.mem_map.1 ht; rfl
 ·rw[List.length_map] at hj;obtain⟨q1,o',q2,q3⟩:=hg j hj;refine⟨q1,o',_,q2,by rw[List.getElem?_map,List.getElem?_eq_getElem hj]; rfl,?_⟩;rw[q3,getD_some hj];simp[OV.aA,V.aT]
theorem iI.RH{h:Hz}{i:Nat}{R:List (List Int)}(C:Nat)(hi:h.get i=some (xU R.length))(hb:i<10000)(q:dh 10000 C (iL 10000 (fR R)) h)(hC:10000+R.length<=C):iI (.row 0 false (.dW R)) (.own i) h:=by
 refine iI.rows (g:=fun j=>10000+j) hi rfl rfl lD fun j hj=>⟨by omega,_,q.get (by rw[gU]; exact hC) (KN hj),rfl⟩
theorem iI.RI{b:Bool}{k:Nat}{h:Hz}:iI (.dn [.row 0 false (.dW []),.bool b]) (.dn [.row k true .nil,.bool b]) h :=
 ⟨[],⟨fun _=>False,trivial⟩,by
  show T.sub _ _ (.dn [.sl 0 false [],(V.bool b).aG]) (.dn [.sl k true [],(V.bool b).aG]);simp only[T.sub,T.dK]
  exact⟨⟨.inl trivial,.inr trivial,fun h=>by cases h⟩,aI _,trivial⟩⟩
theorem iI.one{h:Hz}{i:Nat}{l:List Int}(hi:h.get i=some (.row 24 0 .nil [.row 0 true (.ints l)])):iI (.row 0 false (.dW [l])) (.own i) h:=by
 have hf:T.bZ [Go.Ab.ints l]=true:=rfl;refine⟨[(i,some (.row 24 0 (.dW [l]) []))],⟨fun c=>c≠i,⟨_,hi,fun h=>h rfl,rfl,rfl,?_,rfl,rfl⟩,trivial⟩,?_⟩
 ·show T.dK _ _ [.sl 0 false (l.map T.int)] [.sl 0 true (l.map T.int)];simp only[T.sub,T.dK];exact⟨⟨.inl trivial,.inl trivial,fun h=>by cases h⟩,trivial⟩
 ·show T.sub _ _ (.sl 0 false [Go.Ab.ints l]) (.own i);simp only[T.sub];exact⟨trivial,trivial,hf,by decide,24,by simp[Hz.au,Hz.get,OV.aA,Rw.aT,V.aT]⟩
def divV(k n:Nat):V:=match divO k n with
 |some L=>.dn [.row 0 false (.dW L),.bool true]
 |none=>.dn [.row 0 false (.dW []),.bool false]
theorem Hw{k n:Nat}:(divV k n).free=true:=by unfold divV; split<;>rfl
theorem Dc{k n:Nat}(h:divO k n=none):divV k n= .dn [.row 0 false (.dW []),.bool false]:=by unfold divV; rw[h]
theorem zu{k n:Nat}(h:(kC k n).length<=100):divV k n= .dn [.row 0 false (.dW (kC k n)),.bool true]:=by unfold divV divO; rw[if_pos h]
set_option maxHeartbeats 1000000 in
theorem S.mF: ∀ (k n:Nat),k<=2^20->n<=2^21->aj Tryz.prog 178 [.int n,.int k] (divV k n):=by
 intro k;induction k using Nat.strongRecOn with
 |ind k ih =>
 intro n hk hn;have hfree:=@Hw k n;match k,ih,hk with
 |0,_,_ =>
  have hres:divV 0 n= .dn [.row 0 false (.dW []),.bool true]:=zu (Nat.zero_le _);rw[hres];refine aj.ofF Bd.mF rfl (by simp) rfl rfl ?_;refine Fork.mk (fun _=>?_) (fun q=>absurd (q.symm.trans (rfl)) Bool.false_ne_true);exact iI.RI
 |1,_,_ =>
  have hres:divV 1 n= .dn [.row 0 false (.dW [[(n:Int)]]),.bool true]:=zu (by simp[kC]);rw[hres];refine aj.ofF Bd.mF rfl (by simp) rfl rfl ?_;refine Fork.mk (fun q=>absurd (q.symm.trans (rfl)).symm Bool.false_ne_true) (fun _=>?_);refine Fork.mk (fun _=>?_) (fun q=>absurd (q.symm.trans (rfl)) Bool.false_ne_true);exact iI.XH (iI.one rfl)
 |k+2,ih,hk =>
  have H:=ih (k+1) (by omega);generalize hr:divV (k+2) n=res;rw[hr] at hfree;refine aj.ofF Bd.mF rfl (by simp) rfl hfree ?_;refine Fork.mk (fun q=>absurd (q.symm.trans (decide_eq_false (by omega))).symm Bool.false_ne_true) (fun _=>?_);refine Fork.mk (fun q=>absurd (q.symm.trans (decide_eq_false (by omega))).symm Bool.false_ne_true) (fun _=>?_);refine aC.nil 6 24 0 (by rfl) rfl rfl rfl ?_;refine aC.fam 20000 [0,1] (fun i:Nat=>[(7,.int i),(6,.own 9)]) (fun i=>wz [(9,xU (rC k n i).length)]++iL 10000 (fR (rC k n i))) (fun i=>i<=n+1/\(rC k n i).length<=100) (fun i=>n+1-i) 0 (nJ 10000 (fun j=>10000+j) (gG [(9,xU 0)] [8])) _ rfl (by decide) (fun _=>rfl) ⟨Nat.zero_le _,Nat.zero_le _⟩ (sR rfl) (.inl rfl) ?_ ?_
  ·refine jX.fam (g:=fun j=>10000+j) [(9,xU 0)] [8] ?_ rfl (Nat.zero_le _) (show 10000+0<=20000 by decide) (fun j o q=>by cases q) (fun j _ o _ q=>by cases q);exact⟨⟨rfl,nofun,rfl,dB (by decide),_,rfl,rfl,rfl,.refl _⟩,trivial⟩
  refine⟨(sR rfl),rfl,?_⟩;rintro i ⟨hi,hL⟩;refine⟨fun h1=>?_,fun h1=>?_⟩
  ·have hi':i<=n:=by have:=of_decide_eq_true h1; omega
   repeat(refine VC.mk (by simp only[okI] at *; first|omega|(simp_all; omega)) ?_)
   rw[show(n:Int)-i=((n-i:Nat):Int) by omega,show((k+2:Nat):Int)-1=((k+1:Nat):Int) by omega];refine ah.pure (H (n-i) (by omega) (by omega)) Hw ?_;by_cases hd:(kC (k+1) (n-i)).length<=100
   ·rw[zu hd];repeat(refine VC.mk (by first|exact id|(intro h; rw[h]; rfl)|(simp only[okI] at *; first|omega|(simp_all; omega))) ?_)
    refine⟨fun h2=>?_,fun h2=>?_⟩
    ·have hf:100<(rC k n i).length+(kC (k+1) (n-i)).length:=by have:=of_decide_eq_true h2; simp only[List.length_map,List.length_range] at this; omega
     conv=>whnf
     rw[<- hr,Dc (aaq (i:=i+1) (by omega) (by rw[Hu,List.length_append,List.length_map]; exact hf))];exact iI.RI
    ·have hf:(rC k n i).length+(kC (k+1) (n-i)).length<=100:=by have:=of_decide_eq_false h2; simp only[List.length_map,List.length_range] at this; omega
     conv=>whnf
     generalize hT:kC (k+1) (n-i)=TL at hf hd;have hP: ∀ j,j<=TL.length->(rC k n i++(TL.take j).map fun t=>(i:Int)::t).length=(rC k n i).length+j:=fun j hj=>by rw[List.length_append,List.length_map,List.length_take,Nat.min_eq_left hj]
     refine aC.fam 20000 [43,44,7,0,1] (fun j:Nat=>[(45,.int j),(6,.own 9)]) (fun j=>wz [(9,xU (rC k n i++(TL.take j).map fun t=>(i:Int)::t).length)]++iL 10000 (fR (rC k n i++(TL.take j).map fun t=>(i:Int)::t))) (fun j=>j<=TL.length) (fun j=>TL.length-j) 0 (nJ 10000 (fun j=>10000+j) (gG [(9,xU (rC k n i++(TL.take 0).map fun t=>(i:Int)::t).length)] [9])) _ rfl (by decide) (fun _=>rfl) (Nat.zero_le _) (sR rfl) (.inl rfl) ?_ ?_
     ·refine jX.VU 20000 [(9,xU (rC k n i++(TL.take 0).map fun t=>(i:Int)::t).length)] [9] ?_ rfl rfl (Nat.zero_le _) (by rw[gU,hP 0 (Nat.zero_le _)]; omega) (by decide) iV ?_
      ·rw[show rC k n i++(TL.take 0).map (fun t=>(i:Int)::t)=rC k n i by simp]
       (repeat' (first|refine dh.lo rfl ?_|refine dh.hi rfl ?_|exact dh.nil))
      ·exact⟨⟨rfl,nofun,rfl,dB (by rw[hP 0 (Nat.zero_le _)]; omega),_,rfl,rfl,rfl,by rw[show rC k n i++(TL.take 0).map (fun t=>(i:Int)::t)=rC k n i by simp]; exact jE⟩,trivial⟩
     refine⟨(sR rfl),rfl,?_⟩;rintro j hj;have hPj:=hP j hj;refine⟨fun h3=>?_,fun h3=>?_⟩
     ·have hj':j<TL.length:=by simpa using h3
      have hg:TL.getD j []∈kC (k+1) (n-i):=by rw[hT,getD_some hj']; exact List.getElem_mem hj'
      have hgl:=FZ hg;have hst:(TL.take (j+1)).map (fun t=>(i:Int)::t)=(TL.take j).map (fun t=>(i:Int)::t)++[(i:Int)::TL.getD j []]:=by rw[getD_some hj',List.take_succ_eq_append_getElem hj',List.map_append]; rfl
      refine .mk (by simp only[Rw.rng] at *; first|omega|(simp_all; omega)) ?_;refine ab3.one ⟨.inr ?_,?_⟩ ?_
      ·show 0<(TL.getD j []).length; omega
      ·show(1+(TL.getD j []).length)*8<=140737488355328/\1+(TL.getD j []).length<=1152921504606846976; omega
      repeat(refine VC.mk (by first|(show((ru 10000 _).length+(0+1))*24<=140737488355328/\(ru 10000 _).length+(0+1)<=1152921504606846976; rw[oG,hPj]; omega)|(simp only[okI] at *; first|omega|(simp_all; omega))) ?_)
      have hP1:=hP (j+1) hj';rw[hst,<- List.append_assoc] at hP1;refine sH.Z5 20000 (j+1) ((rC k n i).length+j) 20008 (fR (rC k n i++(TL.take j).map fun t=>(i:Int)::t)) (fR ((rC k n i++(TL.take j).map fun t=>(i:Int)::t)++[(i:Int)::TL.getD j []])) [(9,xU ((rC k n i).length+j+1))] [20010] (by rw[hst,<- List.append_assoc,hP1]; rfl) hj' (by omega) ?_ rfl rfl rfl (Nat.zero_le _) (by rw[gU,hP1]; omega) (by rw[gU,hPj]; omega) (by decide) iV ?_ (U5 hPj) (sR rfl) (sR rfl) ?_
      (repeat' (first|refine dh.lo rfl ?_|refine dh.hi rfl ?_|exact dh.nil))
      ·intro o ho;rw[Pn hPj] at ho;cases ho;exact⟨_,rfl,rfl⟩
      ·exact⟨⟨rfl,nofun,rfl,dB (by omega),_,rfl,rfl,rfl,by rw[hPj]; exact Ht⟩,trivial⟩
     ·have hj':j=TL.length:=by have:=of_decide_eq_false h3; omega
      subst hj';rw[List.take_length] at hPj ⊢;have hst:rC k n (i+1)=rC k n i++TL.map fun t=>(i:Int)::t:=by rw[Hu,hT]
      refine .mk (by simp only[okI] at *; first|omega|(simp_all; omega)) ?_;refine sH.FU 20000 (i+1) (fR (rC k n i++TL.map fun t=>(i:Int)::t)) [(9,xU (rC k n i++TL.map fun t=>(i:Int)::t).length)] [9] (by rw[hst]) ⟨by omega,by rw[hst,hPj]; omega⟩ (by omega) ?_ rfl rfl (Nat.zero_le _) (by rw[gU,hPj]; omega) (by decide) iV (sR rfl) (sR rfl) ?_
      (repeat' (first|refine dh.lo rfl ?_|refine dh.hi rfl ?_|exact dh.nil))
      ·exact⟨⟨rfl,nofun,rfl,dB (by rw[hPj]; omega),_,rfl,rfl,rfl,jE⟩,trivial⟩
   ·have hnone:divO (k+1) (n-i)=none:=by unfold divO; rw[if_neg hd]
    rw[Dc hnone];repeat(refine VC.mk (by first|exact id|(intro h; rw[h]; rfl)|(intro h; simp_all; done)) ?_)
    refine Fork.mk (fun _=>?_) (fun q=>absurd (q.symm.trans (rfl)) Bool.false_ne_true);conv=>whnf
    rw[<- hr,Dc (X0 hi' hnone)];exact iI.RI
  ·have hi':i=n+1:=by have:=of_decide_eq_false h1; omega
   subst hi';rw[RG] at hL;conv=>whnf
   rw[<- hr,zu hL];refine iI.XH (iI.RH 20000 rfl (by decide) ?_ (by omega))
   (repeat' (first|refine dh.lo rfl ?_|refine dh.hi rfl ?_|exact dh.nil))
def Po(n:Nat):List Int:=(List.range n).map fun x:Nat=>(x:Int)
theorem X3{n:Nat}:Po (n+1)=Po n++[(n:Int)]:=by simp[Po,List.range_succ]
theorem aar{n:Nat}:(Po n).length=n:=by simp[Po]
theorem ak.af4{h:Hz}{k:Nat}{l:List Int}(e:l=[]):ak (.row 0 false (.ints l)) (.row k true .nil) h:=⟨by
 subst e;show T.sub (fun _=>True) h.au (.sl 0 false []) (.sl k true [])
 simp[T.sub]⟩
theorem S.jG(p:aH)(r:Rule)(v:Int)(hv:p.values.length<2^20):aj Tryz.prog 144 [.dat (.fK p),.dat (.rule r),.int v] (.row 0 false (.ints (qE p r v))):=by
 refine aj.of Bd.jG (by simp) rfl rfl ?_;repeat(refine VC.mk (by first|exact id|exact fun h=>⟨h,h⟩) ?_)
 refine⟨fun h1=>?_,fun h1=>?_⟩
 ·conv=>whnf
  exact ak.af4 (by unfold qE; rw[h1]; rfl)
 repeat(refine VC.mk (by first|exact id|exact fun h=>⟨h,h⟩) ?_)
 refine⟨fun h2=>?_,fun h2=>?_⟩
 ·rw[Bool.and_assoc] at h2;exact ak.af4 (by unfold qE; rw[h1,h2]; rfl)
 rw[Bool.and_assoc] at h2;refine⟨fun h3=>?_,fun h3=>?_⟩
 ·conv=>whnf
  exact ak.row (by unfold qE; rw[h1,h2,h3]; rfl)
 refine⟨fun h4=>?_,fun h4=>?_⟩
 ·conv=>whnf
  exact ak.row (by unfold qE; rw[h1,h2,h3,h4]; rfl)
 have hV:qE p r v=Po (max 1 p.values.length):=by unfold qE; rw[h1,h2,h3,h4]; rfl
 rw[hV];refine aC.nil 7 3 0 (by rfl) rfl rfl rfl ?_;refine aC.objs 3 [46] (fun i:Nat=>[(47,.int i),(7,.own 2)]) (fun i=>[(2,lX (Po i))]) (fun i=>i<=max 1 p.values.length) (fun i=>max 1 p.values.length-i) 0 [38] rfl (by decide) (fun _=>rfl) (Nat.zero_le _) (sR rfl) ⟨iQ rfl rfl,trivial⟩ ?_;refine⟨(sR rfl),rfl,?_⟩;rintro i hi;have hl:=@aar i;refine⟨fun h5=>?_,fun h5=>?_⟩
 ·have hi':i<max 1 p.values.length:=by have:=of_decide_eq_true h5; omega
  repeat(refine VC.mk (by first|(show((Po i).length+(0+1))*8<=140737488355328/\(Po i).length+(0+1)<=1152921504606846976; omega)|(simp only[okI] at *; omega)) ?_)
  exact⟨i+1,[9],hi',by omega,(sR rfl),(sR rfl),⟨rfl,nofun,rfl,rfl,rfl,_,rfl,rfl,rfl,dQ.of_eq (by rw[X3])⟩,trivial⟩
 ·have hi':i=max 1 p.values.length:=by have:=of_decide_eq_false h5; omega
  subst hi';exact ak.afb rfl
theorem adw:XG V.own:=⟨fun _ _=>rfl,fun _=>rfl⟩
theorem aas(b:Bool):XG fun n=>.dn [.own n,.bool b]:=⟨fun _ _=>rfl,fun _=>⟨rfl,trivial,trivial⟩⟩
theorem Jj{R:List (List Int)}: ∀ o∈R.map lX,o.Dp=true/\o.good 0=true:=by
 intro o ho;obtain⟨c,_,rfl⟩:=List.mem_map.1 ho;exact⟨rfl,rfl⟩
theorem RJ{R:List (List Int)}:(R.map lX).map some=fR R:=by rw[List.map_map]; rfl
theorem Pj.fam{tv:Nat->V}{h:Hz}{i:Nat}{R:List (List Int)}(C:Nat)(hi:h.get i=some (xU R.length))(hb:i<10000)(q:dh 10000 C (iL 10000 (fR R)) h)(hC:10000+R.length<=C):Pj tv 24 (R.map lX) (tv i) h :=
 ⟨i,fun j=>10000+j,_,rfl,hi,rfl,rfl,by rw[List.length_map]; exact lD,fun j hj=>by
  rw[List.length_map] at hj
  exact⟨by show 10000+j≠i; omega,_,lX (R.getD j []),q.get (by rw[gU]; exact hC) (KN hj),by rw[List.getElem?_map,List.getElem?_eq_getElem hj,getD_some hj]; rfl,rfl⟩,fun i j _ _ e=>by replace e:10000+i=10000+j:=e; omega⟩
theorem vC{c:List Int}(h:TB c)(j:Nat):0<=c.getD j 0/\c.getD j 0<=1048576:=by
 rcases Nat.lt_or_ge j c.length with hj|hj
 ·rw[getD_some hj]; exact h _ (List.getElem_mem hj)
 ·simp[List.getD_eq_getElem?_getD,List.getElem?_eq_none hj]
theorem S.Pq(r:Rule)(c:List Int)(hr:uV r)(hc:c.length<2^30)(h:zH r c=true):aQ Tryz.prog 167 (V.aT [.dat (.rule r),.own 0]) (Hz.au [(0,some (lX c))]) 1 (fun t hp=>t= .own 1/\hp=Hz.au [(0,some (lX c)),(1,some (.gen 24 0 [.inn 0]))]):=by
 refine qH.of (h0:=[(0,some (lX c))]) (nx:=1) Bd.nT (by simp) ⟨_,_,rfl,rfl⟩ rfl rfl ?_;refine ah.lend (S.ng r c false hr (by omega)) ⟨aI _,EH trivial rfl,trivial⟩ rfl rfl ?_;refine Fork.mk (fun _=>?_) (fun q=>absurd (q.symm.trans (h)) Bool.false_ne_true);exact jv.wrap rfl rfl rfl rfl (by decide) rfl rfl rfl ⟨rfl,rfl⟩
def KO(r:Rule)(c:List Int)(i:Nat):List (List Int):=(r.ex.take i).map fun x=>dH c x 1
theorem RN{r:Rule}{c:List Int}{i:Nat}(h:i<=r.ex.length):(KO r c i).length=i:=by simp[KO,Nat.min_eq_left h]
theorem X4{r:Rule}{c:List Int}{i:Nat}(h:i<r.ex.length):KO r c (i+1)=KO r c i++[dH c (r.ex.getD i 0) 1]:=by
 unfold KO;rw[List.take_succ_eq_append_getElem h,List.map_append,getD_some h]; rfl
theorem S.Pv(r:Rule)(c:List Int)(f:Bool)(hr:uV r)(hc:c.length<2^30)(hx:zG c.length r.ex)(hl:r.ex.length<=100)(h0:TB c)(h:zH r c=false):BO Tryz.prog 167 [.dat (.rule r),.row 0 f (.ints c)] V.own 24 ((r.ex.map fun x=>dH c x 1).map lX):=by
 refine BO.of Bd.nT (by simp) rfl adw Jj ?_;refine ah.pure (S.ng r c f hr (by omega)) rfl ?_;refine Fork.mk (fun q=>absurd (q.symm.trans (h)).symm Bool.false_ne_true) (fun _=>?_);refine aC.nil 5 24 0 (by rfl) rfl rfl rfl ?_;refine aC.fam 20000 [15,16,1] (fun i:Nat=>[(17,.int i),(5,.own 9)]) (fun i=>wz [(9,xU (KO r c i).length)]++iL 10000 (fR (KO r c i))) (fun i=>i<=r.ex.length) (fun i=>r.ex.length-i) 0 (nJ 10000 (fun j=>10000+j) (gG [(9,xU 0)] [10])) _ rfl (by decide) (fun _=>rfl) (Nat.zero_le _) (sR rfl) (.inl rfl) ?_ ?_
 ·refine jX.fam (g:=fun j=>10000+j) [(9,xU 0)] [10] ?_ rfl (Nat.zero_le _) (show 10000+0<=20000 by decide) (fun j o q=>by cases q) (fun j _ o _ q=>by cases q);exact⟨⟨rfl,nofun,rfl,dB (by decide),_,rfl,rfl,rfl,.refl _⟩,trivial⟩
 refine⟨(sR rfl),rfl,?_⟩;rintro i hi;have hw:=RN (c:=c) hi;refine⟨fun h1=>?_,fun h1=>?_⟩
 ·have hi':i<r.ex.length:=by simpa using h1
  have hpl:=hx (r.ex.getD i 0) (by rw[getD_some hi']; exact List.getElem_mem hi');have hst:=X4 (c:=c) hi';have hP1:=RN (c:=c) hi';have hv:=vC h0 (r.ex.getD ((i:Int)).toNat 0).toNat;repeat(refine VC.mk (by first|(first|(simp only[Rw.rng]; omega)|(simp only[mJ,nP,Rw.len]; omega)|(simp only[okI]; omega)|(show((ru 10000 _).length+(0+1))*24<=140737488355328/\(ru 10000 _).length+(0+1)<=1152921504606846976; rw[oG,hw]; omega))|(simp only[Rw.rng] at *; first|omega|(simp_all; done)|(simp_all; omega))) ?_)
  refine sH.Z5 20000 (i+1) i 20005 (fR (KO r c i)) (fR (KO r c i++[dH c (r.ex.getD i 0) 1])) [(9,xU (i+1))] [20017] (by rw[hP1,hst]) hi' (by omega) ?_ rfl rfl rfl (Nat.zero_le _) (by rw[gU,<- hst,hP1]; omega) (by rw[gU,hw]; omega) (by decide) iV ?_ (U5 hw) (sR rfl) (sR rfl) ?_
  (repeat' (first|refine dh.lo rfl ?_|refine dh.hi rfl ?_|exact dh.nil))
  ·intro o ho;rw[Pn hw] at ho;cases ho;exact⟨_,rfl,rfl⟩
  ·exact⟨⟨rfl,nofun,rfl,dB (by omega),_,rfl,rfl,rfl,by rw[hw]; exact Ht⟩,trivial⟩
 ·have hi':i=r.ex.length:=by have:=of_decide_eq_false h1; omega
  subst hi';have hall:KO r c r.ex.length=r.ex.map fun x=>dH c x 1:=by unfold KO; rw[List.take_length]
  conv=>whnf
  rw[hall] at hw ⊢;refine Pj.fam 20000 rfl (by decide) ?_ (by omega)
  (repeat' (first|refine dh.lo rfl ?_|refine dh.hi rfl ?_|exact dh.nil))
end Go.Proofs.YtdhobgbagphngaaGreatDoor
