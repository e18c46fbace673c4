/-
 Families of rows of numbers; all ways to divide. No condition.
-/
import Derived.Test.YtdloaandiobgdaaGreatDoorPa
import Derived.Test.YtdloaandiobgdaaGreatDoorGa
import Derived.Test.YtdloaandiobgdaaGreatDoorFa
import Derived.Test.YtdloaandiobgdaaGreatDoorLg
namespace Go.Proofs.YtdloaandiobgdaaGreatDoor
open Go.Ab Go.Proofs
set_option maxRecDepth 100000
theorem getD_some{α:Type}{l:List α}{i:Nat}{d:α}(h:i<l.length):l.getD i d=l[i]:=by simp[h]
abbrev fR(R:List (List Int)):List (Option OV):=R.map fun r=>some (lq r)
abbrev Ap(k:Nat):OV:=Fv 24 10000 k
theorem jw{R:List (List Int)}:(fR R).length=R.length:=bL _
theorem kW{R:List (List Int)}{nx:Nat}: ∀ o,some o∈fR R->o.good nx=true/\o.zn=true:=by
 intro o h;obtain⟨r,_,e⟩:=ax.1 h;cases e;exact⟨rfl,rfl⟩
theorem PD{R:List (List Int)}{j:Nat}(h:j<R.length):(fR R)[j]? =some (some (lq (R.getD j []))):=by
 rw[cM,bS h,getD_some h]; rfl
theorem UA{R:List (List Int)}{r:List Int}{a:Nat}(h:R.length=a):(fR (R++[r]))[a]? =some (some (lq r)):=by
 subst h;rw[cM,ck (ba _),eN]; rfl
theorem Zc{R:List (List Int)}{r:List Int}{a:Nat}(h:R.length=a): ∀ j o,j≠a->(fR (R++[r]))[j]? =some (some o)->(fR R)[j]? =some (some o):=by
 intro j o hj q;rcases eR j R.length with hl|hl
 ·rw[cM,co hl] at q; rw[cM]; exact q
 ·rw[cM,cv (by rw[aL]; simp only[List.length_singleton]; omega)] at q; cases q
theorem kF.rows{h:Hz}{i:Nat}{R:List (List Int)}{o:OV}{g:Nat->Nat}(hi:h.get i=some o)(e1:o.au.ty=24)(e2:o.au.k=0)(e3:o.au.l=(List.range R.length).map fun j=>T.own (g j))
  (hg: ∀ j,j<R.length->g j≠i/\ ∃ o',h.get (g j)=some o'/\o'.au=(lq (R.getD j [])).au):kF (.row 0 false (.eF R)) (.own i) h:=by
 refine kF.nest (R:=R.map Rw.ints) (ty:=3) (k:=0) ?_ ?_ ?_ (by decide) hi e1 e2 (by rw[bL]; exact e3) fun j hj=>?_
 ·show R.map Go.Ab.ints=_;rw[cy]; rfl
 ·rw[iO]; intro t ht; obtain⟨x,_,rfl⟩:=ax.1 ht; rfl
 ·intro x hx;obtain⟨y,_,rfl⟩:=ax.1 hx;rw[iO]; intro t ht; obtain⟨x,_,rfl⟩:=ax.1 ht; rfl
 ·rw[bL] at hj;obtain⟨q1,o',q2,q3⟩:=hg j hj;refine⟨q1,o',_,q2,by rw[cM,bS hj]; rfl,?_⟩;rw[q3,getD_some hj];simp[OV.au,V.aS]
theorem kF.WY{h:Hz}{i:Nat}{R:List (List Int)}(C:Nat)(hi:h.get i=some (Ap R.length))(hb:i<10000)(q:dP 10000 C (kJ 10000 (fR R)) h)(hC:10000+R.length<=C):kF (.row 0 false (.eF R)) (.own i) h:=by
 refine kF.rows (g:=fun j=>10000+j) hi rfl rfl pJ fun j hj=>⟨by omega,_,q.get (by rw[jw]; exact hC) (PD hj),rfl⟩
theorem kF.WZ{b:Bool}{k:Nat}{h:Hz}:kF (.dD [.row 0 false (.eF []),.bool b]) (.dD [.row k true .nil,.bool b]) h :=
 ⟨[],⟨fun _=>False,trivial⟩,by
  show T.sub _ _ (.dD [.sl 0 false [],(V.bool b).aI]) (.dD [.sl k true [],(V.bool b).aI]);simp only[T.sub,T.dY]
  exact⟨⟨.inl trivial,.inr trivial,fun h=>by cases h⟩,aH _,trivial⟩⟩
theorem kF.one{h:Hz}{i:Nat}{l:List Int}(hi:h.get i=some (.row 24 0 .nil [.row 0 true (.ints l)])):kF (.row 0 false (.eF [l])) (.own i) h:=by
 have hf:T.bn [Go.Ab.ints l]=true:=rfl;refine⟨[(i,some (.row 24 0 (.eF [l]) []))],⟨fun c=>c≠i,⟨_,hi,fun h=>h rfl,rfl,rfl,?_,rfl,rfl⟩,trivial⟩,?_⟩
 ·show T.dY _ _ [.sl 0 false (l.map T.int)] [.sl 0 true (l.map T.int)];simp only[T.sub,T.dY];exact⟨⟨.inl trivial,.inl trivial,fun h=>by cases h⟩,trivial⟩
 ·show T.sub _ _ (.sl 0 false [Go.Ab.ints l]) (.own i);simp only[T.sub];exact⟨trivial,trivial,hf,by decide,24,by simp[Hz.aj,Hz.get,OV.au,Rw.aS,V.aS]⟩
def divV(k n:Nat):V:=match divO k n with
 |some L=>.dD [.row 0 false (.eF L),.bool true]
 |none=>.dD [.row 0 false (.eF []),.bool false]
theorem LJ{k n:Nat}:(divV k n).free=true:=by unfold divV; split<;>rfl
theorem Gi{k n:Nat}(h:divO k n=none):divV k n= .dD [.row 0 false (.eF []),.bool false]:=by unfold divV; rw[h]
theorem CZ{k n:Nat}(h:(lN k n).length<=100):divV k n= .dD [.row 0 false (.eF (lN k n)),.bool true]:=by unfold divV divO; rw[bc h]
set_option maxHeartbeats 1000000 in
theorem S.mD: ∀ (k n:Nat),k<=2^20->n<=2^21->ak Tryz.prog 158 [.int n,.int k] (divV k n):=by
 intro k;induction k using Nat.strongRecOn with
 |ind k ih =>
 intro n hk hn;have hfree:=@LJ k n;match k,ih,hk with
 |0,_,_ =>
  have hres:divV 0 n= .dD [.row 0 false (.eF []),.bool true]:=CZ (ao _);rw[hres];refine ak.ofF Bd.mD rfl (by simp) rfl rfl ?_;refine Fork.mk (fun _=>?_) (fun q=>absurd (q.symm.trans (rfl)) aR);exact kF.WZ
 |1,_,_ =>
  have hres:divV 1 n= .dD [.row 0 false (.eF [[(n:Int)]]),.bool true]:=CZ (by simp[lN]);rw[hres];refine ak.ofF Bd.mD rfl (by simp) rfl rfl ?_;refine Fork.mk (fun q=>absurd (q.symm.trans (rfl)).symm aR) (fun _=>?_);refine Fork.mk (fun _=>?_) (fun q=>absurd (q.symm.trans (rfl)) aR);exact kF.ab8 (kF.one rfl)
 |k+2,ih,hk =>
  have H:=ih (k+1) (by omega);generalize hr:divV (k+2) n=res;rw[hr] at hfree;refine ak.ofF Bd.mD rfl (by simp) rfl hfree ?_;refine Fork.mk (fun q=>absurd (q.symm.trans (cB (by omega))).symm aR) (fun _=>?_);refine Fork.mk (fun q=>absurd (q.symm.trans (cB (by omega))).symm aR) (fun _=>?_);refine aG.nil 6 24 0 (by rfl) rfl rfl rfl ?_;refine aG.fam 20000 [0,1] (fun i:Nat=>[(7,.int i),(6,.own 9)]) (fun i=>rD [(9,Ap (vV k n i).length)]++kJ 10000 (fR (vV k n i))) (fun i=>i<=n+1/\(vV k n i).length<=100) (fun i=>n+1-i) 0 (qW 10000 (fun j=>10000+j) (gU [(9,Ap 0)] [8])) _ rfl (by decide) (fun _=>rfl) ⟨ao _,ao _⟩ (sR rfl) (.inl rfl) ?_ ?_
  ·refine nU.fam (g:=fun j=>10000+j) [(9,Ap 0)] [8] ?_ rfl (ao _) (show 10000+0<=20000 by decide) (fun j o q=>by cases q) (fun j _ o _ q=>by cases q);exact⟨⟨rfl,nofun,rfl,dS (by decide),_,rfl,rfl,rfl,.refl _⟩,trivial⟩
  refine⟨(sR rfl),rfl,?_⟩;rintro i ⟨hi,hL⟩;refine⟨fun h1=>?_,fun h1=>?_⟩
  ·have hi':i<=n:=by have:=ag h1; omega
   repeat(refine VC.mk (by simp only[okI] at *; first|omega|(simp_all; omega)) ?_)
   rw[show(n:Int)-i=((n-i:Nat):Int) by omega,show((k+2:Nat):Int)-1=((k+1:Nat):Int) by omega];refine ah.pure (H (n-i) (by omega) (by omega)) LJ ?_;by_cases hd:(lN (k+1) (n-i)).length<=100
   ·rw[CZ hd];repeat(refine VC.mk (by first|exact id|(intro h; rw[h]; rfl)|(simp only[okI] at *; first|omega|(simp_all; omega))) ?_)
    refine⟨fun h2=>?_,fun h2=>?_⟩
    ·have hf:100<(vV k n i).length+(lN (k+1) (n-i)).length:=by have:=ag h2; simp only[bL,gC] at this; omega
     conv=>whnf
     rw[<- hr,Gi (afl (i:=i+1) (by omega) (by rw[LH,aL,bL]; exact hf))];exact kF.WZ
    ·have hf:(vV k n i).length+(lN (k+1) (n-i)).length<=100:=by have:=aM h2; simp only[bL,gC] at this; omega
     conv=>whnf
     generalize hT:lN (k+1) (n-i)=TL at hf hd;have hP: ∀ j,j<=TL.length->(vV k n i++(TL.take j).map fun t=>(i:Int)::t).length=(vV k n i).length+j:=fun j hj=>by rw[aL,bL,bR,em hj]
     refine aG.fam 20000 [43,44,7,0,1] (fun j:Nat=>[(45,.int j),(6,.own 9)]) (fun j=>rD [(9,Ap (vV k n i++(TL.take j).map fun t=>(i:Int)::t).length)]++kJ 10000 (fR (vV k n i++(TL.take j).map fun t=>(i:Int)::t))) (fun j=>j<=TL.length) (fun j=>TL.length-j) 0 (qW 10000 (fun j=>10000+j) (gU [(9,Ap (vV k n i++(TL.take 0).map fun t=>(i:Int)::t).length)] [9])) _ rfl (by decide) (fun _=>rfl) (ao _) (sR rfl) (.inl rfl) ?_ ?_
     ·refine nU.aaq 20000 [(9,Ap (vV k n i++(TL.take 0).map fun t=>(i:Int)::t).length)] [9] ?_ rfl rfl (ao _) (by rw[jw,hP 0 (ao _)]; omega) (by decide) kW ?_
      ·rw[show vV k n i++(TL.take 0).map (fun t=>(i:Int)::t)=vV k n i by simp]
       (repeat' (first|refine dP.lo rfl ?_|refine dP.hi rfl ?_|exact dP.nil))
      ·exact⟨⟨rfl,nofun,rfl,dS (by rw[hP 0 (ao _)]; omega),_,rfl,rfl,rfl,by rw[show vV k n i++(TL.take 0).map (fun t=>(i:Int)::t)=vV k n i by simp]; exact nC⟩,trivial⟩
     refine⟨(sR rfl),rfl,?_⟩;rintro j hj;have hPj:=hP j hj;refine⟨fun h3=>?_,fun h3=>?_⟩
     ·have hj':j<TL.length:=by simpa using h3
      have hg:TL.getD j []∈lN (k+1) (n-i):=by rw[hT,getD_some hj']; exact bh hj'
      have hgl:=Du hg;have hst:(TL.take (j+1)).map (fun t=>(i:Int)::t)=(TL.take j).map (fun t=>(i:Int)::t)++[(i:Int)::TL.getD j []]:=by rw[getD_some hj',bw hj',cP]; rfl
      refine .mk (by simp only[Rw.rng] at *; first|omega|(simp_all; omega)) ?_;refine aeJ.one ⟨.inr ?_,?_⟩ ?_
      ·show 0<(TL.getD j []).length; omega
      ·show(1+(TL.getD j []).length)*8<=140737488355328/\1+(TL.getD j []).length<=1152921504606846976; omega
      repeat(refine VC.mk (by first|(show((vU 10000 _).length+(0+1))*24<=140737488355328/\(vU 10000 _).length+(0+1)<=1152921504606846976; rw[rY,hPj]; omega)|(simp only[okI] at *; first|omega|(simp_all; omega))) ?_)
      have hP1:=hP (j+1) hj';rw[hst,<- bO] at hP1;refine wI.aeS 20000 (j+1) ((vV k n i).length+j) 20008 (fR (vV k n i++(TL.take j).map fun t=>(i:Int)::t)) (fR ((vV k n i++(TL.take j).map fun t=>(i:Int)::t)++[(i:Int)::TL.getD j []])) [(9,Ap ((vV k n i).length+j+1))] [20010] (by rw[hst,<- bO,hP1]; rfl) hj' (by omega) ?_ rfl rfl rfl (ao _) (by rw[jw,hP1]; omega) (by rw[jw,hPj]; omega) (by decide) kW ?_ (Zc hPj) (sR rfl) (sR rfl) ?_
      (repeat' (first|refine dP.lo rfl ?_|refine dP.hi rfl ?_|exact dP.nil))
      ·intro o ho;rw[UA hPj] at ho;cases ho;exact⟨_,rfl,rfl⟩
      ·exact⟨⟨rfl,nofun,rfl,dS (by omega),_,rfl,rfl,rfl,by rw[hPj]; exact Ls⟩,trivial⟩
     ·have hj':j=TL.length:=by have:=aM h3; omega
      subst hj';rw[bx] at hPj ⊢;have hst:vV k n (i+1)=vV k n i++TL.map fun t=>(i:Int)::t:=by rw[LH,hT]
      refine .mk (by simp only[okI] at *; first|omega|(simp_all; omega)) ?_;refine wI.JF 20000 (i+1) (fR (vV k n i++TL.map fun t=>(i:Int)::t)) [(9,Ap (vV k n i++TL.map fun t=>(i:Int)::t).length)] [9] (by rw[hst]) ⟨by omega,by rw[hst,hPj]; omega⟩ (by omega) ?_ rfl rfl (ao _) (by rw[jw,hPj]; omega) (by decide) kW (sR rfl) (sR rfl) ?_
      (repeat' (first|refine dP.lo rfl ?_|refine dP.hi rfl ?_|exact dP.nil))
      ·exact⟨⟨rfl,nofun,rfl,dS (by rw[hPj]; omega),_,rfl,rfl,rfl,nC⟩,trivial⟩
   ·have hnone:divO (k+1) (n-i)=none:=by unfold divO; rw[bB hd]
    rw[Gi hnone];repeat(refine VC.mk (by first|exact id|(intro h; rw[h]; rfl)|(intro h; simp_all; done)) ?_)
    refine Fork.mk (fun _=>?_) (fun q=>absurd (q.symm.trans (rfl)) aR);conv=>whnf
    rw[<- hr,Gi (acC hi' hnone)];exact kF.WZ
  ·have hi':i=n+1:=by have:=aM h1; omega
   subst hi';rw[WX] at hL;conv=>whnf
   rw[<- hr,CZ hL];refine kF.ab8 (kF.WY 20000 rfl (by decide) ?_ (by omega))
   (repeat' (first|refine dP.lo rfl ?_|refine dP.hi rfl ?_|exact dP.nil))
def UC(n:Nat):List Int:=(List.range n).map fun x:Nat=>(x:Int)
theorem acD{n:Nat}:UC (n+1)=UC n++[(n:Int)]:=by simp[UC,List.range_succ]
theorem afm{n:Nat}:(UC n).length=n:=by simp[UC]
theorem ay.amF{h:Hz}{k:Nat}{l:List Int}(e:l=[]):ay (.row 0 false (.ints l)) (.row k true .nil) h:=⟨by
 subst e;show T.sub (fun _=>True) h.aj (.sl 0 false []) (.sl k true [])
 simp[T.sub]⟩
theorem S.je(p:aF)(r:Rule)(v:Int)(hv:p.values.length<2^20):ak Tryz.prog 87 [.dat (.fM p),.dat (.rule r),.int v] (.row 0 false (.ints (sK p r v))):=by
 refine ak.of Bd.je (by simp) rfl rfl ?_;repeat(refine VC.mk (by first|exact id|exact fun h=>⟨h,h⟩) ?_)
 refine⟨fun h1=>?_,fun h1=>?_⟩
 ·conv=>whnf
  exact ay.amF (by unfold sK; rw[h1]; rfl)
 repeat(refine VC.mk (by first|exact id|exact fun h=>⟨h,h⟩) ?_)
 refine⟨fun h2=>?_,fun h2=>?_⟩
 ·rw[Bool.and_assoc] at h2;exact ay.amF (by unfold sK; rw[h1,h2]; rfl)
 rw[Bool.and_assoc] at h2;refine⟨fun h3=>?_,fun h3=>?_⟩
 ·conv=>whnf
  exact ay.row (by unfold sK; rw[h1,h2,h3]; rfl)
 refine⟨fun h4=>?_,fun h4=>?_⟩
 ·conv=>whnf
  exact ay.row (by unfold sK; rw[h1,h2,h3,h4]; rfl)
 have hV:sK p r v=UC (max 1 p.values.length):=by unfold sK; rw[h1,h2,h3,h4]; rfl
 rw[hV];refine aG.nil 7 3 0 (by rfl) rfl rfl rfl ?_;refine aG.objs 3 [46] (fun i:Nat=>[(47,.int i),(7,.own 2)]) (fun i=>[(2,lq (UC i))]) (fun i=>i<=max 1 p.values.length) (fun i=>max 1 p.values.length-i) 0 [38] rfl (by decide) (fun _=>rfl) (ao _) (sR rfl) ⟨mV rfl rfl,trivial⟩ ?_;refine⟨(sR rfl),rfl,?_⟩;rintro i hi;have hl:=@afm i;refine⟨fun h5=>?_,fun h5=>?_⟩
 ·have hi':i<max 1 p.values.length:=by have:=ag h5; omega
  repeat(refine VC.mk (by first|(show((UC i).length+(0+1))*8<=140737488355328/\(UC i).length+(0+1)<=1152921504606846976; omega)|(simp only[okI] at *; omega)) ?_)
  exact⟨i+1,[9],hi',by omega,(sR rfl),(sR rfl),⟨rfl,nofun,rfl,rfl,rfl,_,rfl,rfl,rfl,dB.of_eq (by rw[acD])⟩,trivial⟩
 ·have hi':i=max 1 p.values.length:=by have:=aM h5; omega
  subst hi';exact ay.ajN rfl
theorem ajC:ab7 V.own:=⟨fun _ _=>rfl,fun _=>rfl⟩
theorem afn(b:Bool):ab7 fun n=>.dD [.own n,.bool b]:=⟨fun _ _=>rfl,fun _=>⟨rfl,trivial,trivial⟩⟩
theorem NR{R:List (List Int)}: ∀ o∈R.map lq,o.zn=true/\o.good 0=true:=by
 intro o ho;obtain⟨c,_,rfl⟩:=ax.1 ho;exact⟨rfl,rfl⟩
theorem W9{R:List (List Int)}:(R.map lq).map some=fR R:=by rw[cy]; rfl
theorem Uw.fam{tv:Nat->V}{h:Hz}{i:Nat}{R:List (List Int)}(C:Nat)(hi:h.get i=some (Ap R.length))(hb:i<10000)(q:dP 10000 C (kJ 10000 (fR R)) h)(hC:10000+R.length<=C):Uw tv 24 (R.map lq) (tv i) h :=
 ⟨i,fun j=>10000+j,_,rfl,hi,rfl,rfl,by rw[bL]; exact pJ,fun j hj=>by
  rw[bL] at hj
  exact⟨by show 10000+j≠i; omega,_,lq (R.getD j []),q.get (by rw[jw]; exact hC) (PD hj),by rw[cM,bS hj,getD_some hj]; rfl,rfl⟩,fun i j _ _ e=>by replace e:10000+i=10000+j:=e; omega⟩
theorem uG{c:List Int}(h:X0 c)(j:Nat):0<=c.getD j 0/\c.getD j 0<=1048576:=by
 rcases eR j c.length with hj|hj
 ·rw[getD_some hj]; exact h _ (bh hj)
 ·simp[List.getD_eq_getElem?_getD,List.getElem?_eq_none hj]
theorem S.UD(r:Rule)(c:List Int)(hr:wS r)(hc:c.length<2^30)(h:oW r c=true):aP Tryz.prog 122 (V.aS [.dat (.rule r),.own 0]) (Hz.aj [(0,some (lq c))]) 1 (fun t hp=>t= .own 1/\hp=Hz.aj [(0,some (lq c)),(1,some (.gen 24 0 [.inn 0]))]):=by
 refine nT.of (h0:=[(0,some (lq c))]) (nx:=1) Bd.kX (by simp) ⟨_,_,rfl,rfl⟩ rfl rfl ?_;refine ah.lend (S.mJ r c false hr (by omega)) ⟨aH _,zl trivial rfl,trivial⟩ rfl rfl ?_;refine Fork.mk (fun _=>?_) (fun q=>absurd (q.symm.trans (h)) aR);exact gq.wrap rfl rfl rfl rfl (by decide) rfl rfl rfl ⟨rfl,rfl⟩
def PE(r:Rule)(c:List Int)(i:Nat):List (List Int):=(r.ex.take i).map fun x=>aV c x 1
theorem Xa{r:Rule}{c:List Int}{i:Nat}(h:i<=r.ex.length):(PE r c i).length=i:=by simp[PE,Nat.min_eq_left h]
theorem acE{r:Rule}{c:List Int}{i:Nat}(h:i<r.ex.length):PE r c (i+1)=PE r c i++[aV c (r.ex.getD i 0) 1]:=by
 unfold PE;rw[bw h,cP,getD_some h]; rfl
theorem S.UE(r:Rule)(c:List Int)(f:Bool)(hr:wS r)(hc:c.length<2^30)(hx:vX c.length r.ex)(hl:r.ex.length<=100)(h0:X0 c)(h:oW r c=false):Fz Tryz.prog 122 [.dat (.rule r),.row 0 f (.ints c)] V.own 24 ((r.ex.map fun x=>aV c x 1).map lq):=by
 refine Fz.of Bd.kX (by simp) rfl ajC NR ?_;refine ah.pure (S.mJ r c f hr (by omega)) rfl ?_;refine Fork.mk (fun q=>absurd (q.symm.trans (h)).symm aR) (fun _=>?_);refine aG.nil 5 24 0 (by rfl) rfl rfl rfl ?_;refine aG.fam 20000 [15,16,1] (fun i:Nat=>[(17,.int i),(5,.own 9)]) (fun i=>rD [(9,Ap (PE r c i).length)]++kJ 10000 (fR (PE r c i))) (fun i=>i<=r.ex.length) (fun i=>r.ex.length-i) 0 (qW 10000 (fun j=>10000+j) (gU [(9,Ap 0)] [10])) _ rfl (by decide) (fun _=>rfl) (ao _) (sR rfl) (.inl rfl) ?_ ?_
 ·refine nU.fam (g:=fun j=>10000+j) [(9,Ap 0)] [10] ?_ rfl (ao _) (show 10000+0<=20000 by decide) (fun j o q=>by cases q) (fun j _ o _ q=>by cases q);exact⟨⟨rfl,nofun,rfl,dS (by decide),_,rfl,rfl,rfl,.refl _⟩,trivial⟩
 refine⟨(sR rfl),rfl,?_⟩;rintro i hi;have hw:=Xa (c:=c) hi;refine⟨fun h1=>?_,fun h1=>?_⟩
 ·have hi':i<r.ex.length:=by simpa using h1
  have hpl:=hx (r.ex.getD i 0) (by rw[getD_some hi']; exact bh hi');have hst:=acE (c:=c) hi';have hP1:=Xa (c:=c) hi';have hv:=uG h0 (r.ex.getD ((i:Int)).toNat 0).toNat;repeat(refine VC.mk (by first|(first|(simp only[Rw.rng]; omega)|(simp only[kT,qX,Rw.len]; omega)|(simp only[okI]; omega)|(show((vU 10000 _).length+(0+1))*24<=140737488355328/\(vU 10000 _).length+(0+1)<=1152921504606846976; rw[rY,hw]; omega))|(simp only[Rw.rng] at *; first|omega|(simp_all; done)|(simp_all; omega))) ?_)
  refine wI.aeS 20000 (i+1) i 20005 (fR (PE r c i)) (fR (PE r c i++[aV c (r.ex.getD i 0) 1])) [(9,Ap (i+1))] [20017] (by rw[hP1,hst]) hi' (by omega) ?_ rfl rfl rfl (ao _) (by rw[jw,<- hst,hP1]; omega) (by rw[jw,hw]; omega) (by decide) kW ?_ (Zc hw) (sR rfl) (sR rfl) ?_
  (repeat' (first|refine dP.lo rfl ?_|refine dP.hi rfl ?_|exact dP.nil))
  ·intro o ho;rw[UA hw] at ho;cases ho;exact⟨_,rfl,rfl⟩
  ·exact⟨⟨rfl,nofun,rfl,dS (by omega),_,rfl,rfl,rfl,by rw[hw]; exact Ls⟩,trivial⟩
 ·have hi':i=r.ex.length:=by have:=aM h1; omega
  subst hi';have hall:PE r c r.ex.length=r.ex.map fun x=>aV c x 1:=by unfold PE; rw[bx]
  conv=>whnf
  rw[hall] at hw ⊢;refine Uw.fam 20000 rfl (by decide) ?_ (by omega)
  (repeat' (first|refine dP.lo rfl ?_|refine dP.hi rfl ?_|exact dP.nil))
end Go.Proofs.YtdloaandiobgdaaGreatDoor
