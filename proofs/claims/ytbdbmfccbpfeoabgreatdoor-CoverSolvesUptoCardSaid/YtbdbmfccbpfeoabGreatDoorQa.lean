/-
 Families of rows of numbers; all ways to divide. No condition.
-/
import Derived.Test.YtbdbmfccbpfeoabGreatDoorPa
import Derived.Test.YtbdbmfccbpfeoabGreatDoorGa
import Derived.Test.YtbdbmfccbpfeoabGreatDoorFa
import Derived.Test.YtbdbmfccbpfeoabGreatDoorLg
namespace Go.Proofs.YtbdbmfccbpfeoabGreatDoor
open Go.Ab Go.Proofs
set_option maxRecDepth 100000
theorem getD_some{α:Type}{l:List α}{i:Nat}{d:α}(h:i<l.length):l.getD i d=l[i]:=by simp[h]
abbrev fR(R:List (List Int)):List (Option OV):=R.map fun r=>some (je r)
abbrev yL(k:Nat):OV:=Dw 24 10000 k
theorem iw{R:List (List Int)}:(fR R).length=R.length:=bc _
theorem jD{R:List (List Int)}{nx:Nat}: ∀ o,some o∈fR R->o.good nx=true/\o.DX=true:=by
 intro o h;obtain⟨r,_,e⟩:=av.1 h;cases e;exact⟨rfl,rfl⟩
theorem Nl{R:List (List Int)}{j:Nat}(h:j<R.length):(fR R)[j]? =some (some (je (R.getD j []))):=by
 rw[cE,bN h,getD_some h]; rfl
theorem Q5{R:List (List Int)}{r:List Int}{a:Nat}(h:R.length=a):(fR (R++[r]))[a]? =some (some (je r)):=by
 subst h;rw[cE,ct (ba _),fp]; rfl
theorem WZ{R:List (List Int)}{r:List Int}{a:Nat}(h:R.length=a): ∀ j o,j≠a->(fR (R++[r]))[j]? =some (some o)->(fR R)[j]? =some (some o):=by
 intro j o hj q;rcases db j R.length with hl|hl
 ·rw[cE,cn hl] at q; rw[cE]; exact q
 ·rw[cE,dT (by rw[aM]; simp only[List.length_singleton]; omega)] at q; cases q
theorem jd.rows{h:Hz}{i:Nat}{R:List (List Int)}{o:OV}{g:Nat->Nat}(hi:h.get i=some o)(e1:o.au.ty=24)(e2:o.au.k=0)(e3:o.au.l=(List.range R.length).map fun j=>T.own (g j))
  (hg: ∀ j,j<R.length->g j≠i/\ ∃ o',h.get (g j)=some o'/\o'.au=(je (R.getD j [])).au):jd (.row 0 false (.bI R)) (.own i) h:=by
 refine jd.nest (R:=R.map Rw.ints) (ty:=3) (k:=0) ?_ ?_ ?_ (by decide) hi e1 e2 (by rw[bc]; exact e3) fun j hj=>?_
 ·show R.map Go.Ab.ints=_;rw[cT]; rfl
 ·rw[gq]; intro t ht; obtain⟨x,_,rfl⟩:=av.1 ht; rfl
 ·intro x hx;obtain⟨y,_,rfl⟩:=av.1 hx;rw[gq]; intro t ht; obtain⟨x,_,rfl⟩:=av.1 ht; rfl
 ·rw[bc] at hj;obtain⟨q1,o',q2,q3⟩:=hg j hj;refine⟨q1,o',_,q2,by rw[cE,bN hj]; rfl,?_⟩;rw[q3,getD_some hj];simp[OV.au,V.aU]
theorem jd.UA{h:Hz}{i:Nat}{R:List (List Int)}(C:Nat)(hi:h.get i=some (yL R.length))(hb:i<10000)(q:bQ 10000 C (iJ 10000 (fR R)) h)(hC:10000+R.length<=C):jd (.row 0 false (.bI R)) (.own i) h:=by
 refine jd.rows (g:=fun j=>10000+j) hi rfl rfl lY fun j hj=>⟨by omega,_,q.get (by rw[iw]; exact hC) (Nl hj),rfl⟩
theorem jd.UC{b:Bool}{k:Nat}{h:Hz}:jd (.dQ [.row 0 false (.bI []),.bool b]) (.dQ [.row k true .nil,.bool b]) h :=
 ⟨[],⟨fun _=>False,trivial⟩,by
  show T.sub _ _ (.dQ [.sl 0 false [],(V.bool b).aH]) (.dQ [.sl k true [],(V.bool b).aH]);simp only[T.sub,T.dF]
  exact⟨⟨.inl trivial,.inr trivial,fun h=>by cases h⟩,aC _,trivial⟩⟩
theorem jd.one{h:Hz}{i:Nat}{l:List Int}(hi:h.get i=some (.row 24 0 .nil [.row 0 true (.ints l)])):jd (.row 0 false (.bI [l])) (.own i) h:=by
 have hf:T.bW [Go.Ab.ints l]=true:=rfl;refine⟨[(i,some (.row 24 0 (.bI [l]) []))],⟨fun c=>c≠i,⟨_,hi,fun h=>h rfl,rfl,rfl,?_,rfl,rfl⟩,trivial⟩,?_⟩
 ·show T.dF _ _ [.sl 0 false (l.map T.int)] [.sl 0 true (l.map T.int)];simp only[T.sub,T.dF];exact⟨⟨.inl trivial,.inl trivial,fun h=>by cases h⟩,trivial⟩
 ·show T.sub _ _ (.sl 0 false [Go.Ab.ints l]) (.own i);simp only[T.sub];exact⟨trivial,trivial,hf,by decide,24,by simp[Hz.ay,Hz.get,OV.au,Rw.aU,V.aU]⟩
def divV(k n:Nat):V:=match divO k n with
 |some L=>.dQ [.row 0 false (.bI L),.bool true]
 |none=>.dQ [.row 0 false (.bI []),.bool false]
theorem Jm{k n:Nat}:(divV k n).free=true:=by unfold divV; split<;>rfl
theorem Em{k n:Nat}(h:divO k n=none):divV k n= .dQ [.row 0 false (.bI []),.bool false]:=by unfold divV; rw[h]
theorem Aa{k n:Nat}(h:(kN k n).length<=100):divV k n= .dQ [.row 0 false (.bI (kN k n)),.bool true]:=by unfold divV divO; rw[bk h]
set_option maxHeartbeats 1000000 in
theorem S.ng: ∀ (k n:Nat),k<=2^20->n<=2^21->aj Tryz.prog 135 [.int n,.int k] (divV k n):=by
 intro k;induction k using Nat.strongRecOn with
 |ind k ih =>
 intro n hk hn;have hfree:=@Jm k n;match k,ih,hk with
 |0,_,_ =>
  have hres:divV 0 n= .dQ [.row 0 false (.bI []),.bool true]:=Aa (ab _);rw[hres];refine aj.ofF Bd.ng rfl (by simp) rfl rfl ?_;refine Fork.mk (fun _=>?_) (fun q=>absurd (q.symm.trans (rfl)) aq);exact jd.UC
 |1,_,_ =>
  have hres:divV 1 n= .dQ [.row 0 false (.bI [[(n:Int)]]),.bool true]:=Aa (by simp[kN]);rw[hres];refine aj.ofF Bd.ng rfl (by simp) rfl rfl ?_;refine Fork.mk (fun q=>absurd (q.symm.trans (rfl)).symm aq) (fun _=>?_);refine Fork.mk (fun _=>?_) (fun q=>absurd (q.symm.trans (rfl)) aq);exact jd.ZC (jd.one rfl)
 |k+2,ih,hk =>
  have H:=ih (k+1) (by omega);generalize hr:divV (k+2) n=res;rw[hr] at hfree;refine aj.ofF Bd.ng rfl (by simp) rfl hfree ?_;refine Fork.mk (fun q=>absurd (q.symm.trans (cF (by omega))).symm aq) (fun _=>?_);refine Fork.mk (fun q=>absurd (q.symm.trans (cF (by omega))).symm aq) (fun _=>?_);refine aA.nil 6 24 0 (by rfl) rfl rfl rfl ?_;refine aA.fam 20000 [0,1] (fun i:Nat=>[(7,.int i),(6,.own 9)]) (fun i=>yJ [(9,yL (sH k n i).length)]++iJ 10000 (fR (sH k n i))) (fun i=>i<=n+1/\(sH k n i).length<=100) (fun i=>n+1-i) 0 (lX 10000 (fun j=>10000+j) (iQ [(9,yL 0)] [8])) _ rfl (by decide) (fun _=>rfl) ⟨ab _,ab _⟩ (sR rfl) (.inl rfl) ?_ ?_
  ·refine jY.fam (g:=fun j=>10000+j) [(9,yL 0)] [8] ?_ rfl (ab _) (show 10000+0<=20000 by decide) (fun j o q=>by cases q) (fun j _ o _ q=>by cases q);exact⟨⟨rfl,nofun,rfl,dD (by decide),_,rfl,rfl,rfl,.refl _⟩,trivial⟩
  refine⟨(sR rfl),rfl,?_⟩;rintro i ⟨hi,hL⟩;refine⟨fun h1=>?_,fun h1=>?_⟩
  ·have hi':i<=n:=by have:=ai h1; omega
   repeat(refine VC.mk (by simp only[okI] at *; first|omega|(simp_all; omega)) ?_)
   rw[show(n:Int)-i=((n-i:Nat):Int) by omega,show((k+2:Nat):Int)-1=((k+1:Nat):Int) by omega];refine ah.pure (H (n-i) (by omega) (by omega)) Jm ?_;by_cases hd:(kN (k+1) (n-i)).length<=100
   ·rw[Aa hd];repeat(refine VC.mk (by first|exact id|(intro h; rw[h]; rfl)|(simp only[okI] at *; first|omega|(simp_all; omega))) ?_)
    refine⟨fun h2=>?_,fun h2=>?_⟩
    ·have hf:100<(sH k n i).length+(kN (k+1) (n-i)).length:=by have:=ai h2; simp only[bc,ef] at this; omega
     conv=>whnf
     rw[<- hr,Em (acC (i:=i+1) (by omega) (by rw[Jl,aM,bc]; exact hf))];exact jd.UC
    ·have hf:(sH k n i).length+(kN (k+1) (n-i)).length<=100:=by have:=aL h2; simp only[bc,ef] at this; omega
     conv=>whnf
     generalize hT:kN (k+1) (n-i)=TL at hf hd;have hP: ∀ j,j<=TL.length->(sH k n i++(TL.take j).map fun t=>(i:Int)::t).length=(sH k n i).length+j:=fun j hj=>by rw[aM,bc,bE,en hj]
     refine aA.fam 20000 [43,44,7,0,1] (fun j:Nat=>[(45,.int j),(6,.own 9)]) (fun j=>yJ [(9,yL (sH k n i++(TL.take j).map fun t=>(i:Int)::t).length)]++iJ 10000 (fR (sH k n i++(TL.take j).map fun t=>(i:Int)::t))) (fun j=>j<=TL.length) (fun j=>TL.length-j) 0 (lX 10000 (fun j=>10000+j) (iQ [(9,yL (sH k n i++(TL.take 0).map fun t=>(i:Int)::t).length)] [9])) _ rfl (by decide) (fun _=>rfl) (ab _) (sR rfl) (.inl rfl) ?_ ?_
     ·refine jY.X9 20000 [(9,yL (sH k n i++(TL.take 0).map fun t=>(i:Int)::t).length)] [9] ?_ rfl rfl (ab _) (by rw[iw,hP 0 (ab _)]; omega) (by decide) jD ?_
      ·rw[show sH k n i++(TL.take 0).map (fun t=>(i:Int)::t)=sH k n i by simp]
       (repeat' (first|refine bQ.lo rfl ?_|refine bQ.hi rfl ?_|exact bQ.nil))
      ·exact⟨⟨rfl,nofun,rfl,dD (by rw[hP 0 (ab _)]; omega),_,rfl,rfl,rfl,by rw[show sH k n i++(TL.take 0).map (fun t=>(i:Int)::t)=sH k n i by simp]; exact jZ⟩,trivial⟩
     refine⟨(sR rfl),rfl,?_⟩;rintro j hj;have hPj:=hP j hj;refine⟨fun h3=>?_,fun h3=>?_⟩
     ·have hj':j<TL.length:=by simpa using h3
      have hg:TL.getD j []∈kN (k+1) (n-i):=by rw[hT,getD_some hj']; exact be hj'
      have hgl:=H8 hg;have hst:(TL.take (j+1)).map (fun t=>(i:Int)::t)=(TL.take j).map (fun t=>(i:Int)::t)++[(i:Int)::TL.getD j []]:=by rw[getD_some hj',bj hj',cm]; rfl
      refine .mk (by simp only[Rw.rng] at *; first|omega|(simp_all; omega)) ?_;refine ael.one ⟨.inr ?_,?_⟩ ?_
      ·show 0<(TL.getD j []).length; omega
      ·show(1+(TL.getD j []).length)*8<=140737488355328/\1+(TL.getD j []).length<=1152921504606846976; omega
      repeat(refine VC.mk (by first|(show((sG 10000 _).length+(0+1))*24<=140737488355328/\(sG 10000 _).length+(0+1)<=1152921504606846976; rw[pF,hPj]; omega)|(simp only[okI] at *; first|omega|(simp_all; omega))) ?_)
      have hP1:=hP (j+1) hj';rw[hst,<- ax] at hP1;refine qR.WR 20000 (j+1) ((sH k n i).length+j) 20008 (fR (sH k n i++(TL.take j).map fun t=>(i:Int)::t)) (fR ((sH k n i++(TL.take j).map fun t=>(i:Int)::t)++[(i:Int)::TL.getD j []])) [(9,yL ((sH k n i).length+j+1))] [20010] (by rw[hst,<- ax,hP1]; rfl) hj' (by omega) ?_ rfl rfl rfl (ab _) (by rw[iw,hP1]; omega) (by rw[iw,hPj]; omega) (by decide) jD ?_ (WZ hPj) (sR rfl) (sR rfl) ?_
      (repeat' (first|refine bQ.lo rfl ?_|refine bQ.hi rfl ?_|exact bQ.nil))
      ·intro o ho;rw[Q5 hPj] at ho;cases ho;exact⟨_,rfl,rfl⟩
      ·exact⟨⟨rfl,nofun,rfl,dD (by omega),_,rfl,rfl,rfl,by rw[hPj]; exact Jh⟩,trivial⟩
     ·have hj':j=TL.length:=by have:=aL h3; omega
      subst hj';rw[bp] at hPj ⊢;have hst:sH k n (i+1)=sH k n i++TL.map fun t=>(i:Int)::t:=by rw[Jl,hT]
      refine .mk (by simp only[okI] at *; first|omega|(simp_all; omega)) ?_;refine qR.Ht 20000 (i+1) (fR (sH k n i++TL.map fun t=>(i:Int)::t)) [(9,yL (sH k n i++TL.map fun t=>(i:Int)::t).length)] [9] (by rw[hst]) ⟨by omega,by rw[hst,hPj]; omega⟩ (by omega) ?_ rfl rfl (ab _) (by rw[iw,hPj]; omega) (by decide) jD (sR rfl) (sR rfl) ?_
      (repeat' (first|refine bQ.lo rfl ?_|refine bQ.hi rfl ?_|exact bQ.nil))
      ·exact⟨⟨rfl,nofun,rfl,dD (by rw[hPj]; omega),_,rfl,rfl,rfl,jZ⟩,trivial⟩
   ·have hnone:divO (k+1) (n-i)=none:=by unfold divO; rw[bX hd]
    rw[Em hnone];repeat(refine VC.mk (by first|exact id|(intro h; rw[h]; rfl)|(intro h; simp_all; done)) ?_)
    refine Fork.mk (fun _=>?_) (fun q=>absurd (q.symm.trans (rfl)) aq);conv=>whnf
    rw[<- hr,Em (Z4 hi' hnone)];exact jd.UC
  ·have hi':i=n+1:=by have:=aL h1; omega
   subst hi';rw[Uy] at hL;conv=>whnf
   rw[<- hr,Aa hL];refine jd.ZC (jd.UA 20000 rfl (by decide) ?_ (by omega))
   (repeat' (first|refine bQ.lo rfl ?_|refine bQ.hi rfl ?_|exact bQ.nil))
def H9(n:Nat):List Int:=(List.range n).map fun x:Nat=>(x:Int)
theorem PK{n:Nat}:H9 (n+1)=H9 n++[(n:Int)]:=by simp[H9,List.range_succ]
theorem UD{n:Nat}:(H9 n).length=n:=by simp[H9]
theorem ak.agO{h:Hz}{k:Nat}{l:List Int}(e:l=[]):ak (.row 0 false (.ints l)) (.row k true .nil) h:=⟨by
 subst e;show T.sub (fun _=>True) h.ay (.sl 0 false []) (.sl k true [])
 simp[T.sub]⟩
theorem S.kC(p:aI)(r:Rule)(v:Int)(hv:p.values.length<2^20):aj Tryz.prog 78 [.dat (.fQ p),.dat (.rule r),.int v] (.row 0 false (.ints (kM p r v))):=by
 refine aj.of Bd.kC (by simp) rfl rfl ?_;repeat(refine VC.mk (by first|exact id|exact fun h=>⟨h,h⟩) ?_)
 refine⟨fun h1=>?_,fun h1=>?_⟩
 ·conv=>whnf
  exact ak.agO (by unfold kM; rw[h1]; rfl)
 repeat(refine VC.mk (by first|exact id|exact fun h=>⟨h,h⟩) ?_)
 refine⟨fun h2=>?_,fun h2=>?_⟩
 ·rw[Bool.and_assoc] at h2;exact ak.agO (by unfold kM; rw[h1,h2]; rfl)
 rw[Bool.and_assoc] at h2;refine⟨fun h3=>?_,fun h3=>?_⟩
 ·conv=>whnf
  exact ak.row (by unfold kM; rw[h1,h2,h3]; rfl)
 refine⟨fun h4=>?_,fun h4=>?_⟩
 ·conv=>whnf
  exact ak.row (by unfold kM; rw[h1,h2,h3,h4]; rfl)
 have hV:kM p r v=H9 (max 1 p.values.length):=by unfold kM; rw[h1,h2,h3,h4]; rfl
 rw[hV];refine aA.nil 7 3 0 (by rfl) rfl rfl rfl ?_;refine aA.objs 3 [46] (fun i:Nat=>[(47,.int i),(7,.own 2)]) (fun i=>[(2,je (H9 i))]) (fun i=>i<=max 1 p.values.length) (fun i=>max 1 p.values.length-i) 0 [38] rfl (by decide) (fun _=>rfl) (ab _) (sR rfl) ⟨dA rfl rfl,trivial⟩ ?_;refine⟨(sR rfl),rfl,?_⟩;rintro i hi;have hl:=@UD i;refine⟨fun h5=>?_,fun h5=>?_⟩
 ·have hi':i<max 1 p.values.length:=by have:=ai h5; omega
  repeat(refine VC.mk (by first|(show((H9 i).length+(0+1))*8<=140737488355328/\(H9 i).length+(0+1)<=1152921504606846976; omega)|(simp only[okI] at *; omega)) ?_)
  exact⟨i+1,[9],hi',by omega,(sR rfl),(sR rfl),⟨rfl,nofun,rfl,rfl,rfl,_,rfl,rfl,rfl,dJ.of_eq (by rw[PK])⟩,trivial⟩
 ·have hi':i=max 1 p.values.length:=by have:=aL h5; omega
  subst hi';exact ak.aaL rfl
theorem S.yt(p:aI)(r:Rule)(v:Int)(hv:p.values.length<2^20)(hw:0<=r.write->0<p.values.length):aj Tryz.prog 126 [.dat (.fQ p),.dat (.rule r),.int v] (.row 0 false (.ints (kM p r v))):=by
 refine aj.of Bd.yt (by simp) rfl rfl ?_;repeat(refine VC.mk (by first|exact id|exact fun h=>⟨h,h⟩|(intro h; rw[h]; rfl)|(intro h; simp_all; done)) ?_)
 refine⟨fun h1=>?_,fun h1=>?_⟩
 ·conv=>whnf
  exact ak.agO (by
   unfold kM;replace h1:((decide (0<=r.write)&&r.write !=v)||(decide (r.write<0)&&decide (0<=r.read)&&r.read !=v))=true:=h1;rw[Bool.and_assoc (decide (r.write<0)),cS] at h1;rcases h1 with h1|h1
   ·rw[h1]; rfl
   ·rw[h1]; cases (decide (0<=r.write)&&r.write !=v)<;>rfl)
 replace h1:((decide (0<=r.write)&&r.write !=v)||(decide (r.write<0)&&decide (0<=r.read)&&r.read !=v))=false:=h1;rw[Bool.and_assoc (decide (r.write<0)),bm] at h1;obtain⟨h1,h2⟩:=h1;refine⟨fun h3=>?_,fun h3=>?_⟩
 ·conv=>whnf
  exact ak.row (by unfold kM; rw[h1,h2,h3]; rfl)
 refine⟨fun h4=>?_,fun h4=>?_⟩
 ·conv=>whnf
  exact ak.row (by unfold kM; rw[h1,h2,h3,h4]; rfl)
 have hp:=hw (by have:=aL h4; omega);have hV:kM p r v=H9 p.values.length:=by unfold kM; rw[h1,h2,h3,h4]; show H9 (max 1 p.values.length)=_; rw[show max 1 p.values.length=p.values.length by omega]
 rw[hV];refine aA.nil 7 3 0 (by rfl) rfl rfl rfl ?_;refine aA.objs 3 [3] (fun i:Nat=>[(8,.int i),(7,.own 2)]) (fun i=>[(0,.box 27 11 (.dat (.fQ p))),(2,je (H9 i))]) (fun i=>i<=p.values.length) (fun i=>p.values.length-i) 0 [0,36] rfl (by decide) (fun _=>rfl) (ab _) (sR rfl) ⟨dA rfl rfl,dA rfl rfl,trivial⟩ ?_;refine⟨(sR rfl),rfl,?_⟩;rintro i hi;have hl:=@UD i;refine⟨fun h5=>?_,fun h5=>?_⟩
 ·have hi':i<p.values.length:=by simpa using h5
  repeat(refine VC.mk (by first|(show((H9 i).length+(0+1))*8<=140737488355328/\(H9 i).length+(0+1)<=1152921504606846976; omega)|(simp only[okI] at *; omega)) ?_)
  exact⟨i+1,[0,11],hi',by omega,(sR rfl),(sR rfl),dA rfl rfl,⟨rfl,nofun,rfl,rfl,rfl,_,rfl,rfl,rfl,dJ.of_eq (by rw[PK])⟩,trivial⟩
 ·have hi':i=p.values.length:=by have:=aL h5; omega
  subst hi';exact ak.aaL rfl
theorem afF:ZB V.own:=⟨fun _ _=>rfl,fun _=>rfl⟩
theorem acD(b:Bool):ZB fun n=>.dQ [.own n,.bool b]:=⟨fun _ _=>rfl,fun _=>⟨rfl,trivial,trivial⟩⟩
theorem KJ{R:List (List Int)}: ∀ o∈R.map je,o.DX=true/\o.good 0=true:=by
 intro o ho;obtain⟨c,_,rfl⟩:=av.1 ho;exact⟨rfl,rfl⟩
theorem UE{R:List (List Int)}:(R.map je).map some=fR R:=by rw[cT]; rfl
theorem QW.fam{tv:Nat->V}{h:Hz}{i:Nat}{R:List (List Int)}(C:Nat)(hi:h.get i=some (yL R.length))(hb:i<10000)(q:bQ 10000 C (iJ 10000 (fR R)) h)(hC:10000+R.length<=C):QW tv 24 (R.map je) (tv i) h :=
 ⟨i,fun j=>10000+j,_,rfl,hi,rfl,rfl,by rw[bc]; exact lY,fun j hj=>by
  rw[bc] at hj
  exact⟨by show 10000+j≠i; omega,_,je (R.getD j []),q.get (by rw[iw]; exact hC) (Nl hj),by rw[cE,bN hj,getD_some hj]; rfl,rfl⟩,fun i j _ _ e=>by replace e:10000+i=10000+j:=e; omega⟩
theorem jH{c:List Int}(h:Oj c)(j:Nat):0<=c.getD j 0/\c.getD j 0<=1048576:=by
 rcases db j c.length with hj|hj
 ·rw[getD_some hj]; exact h _ (be hj)
 ·simp[List.getD_eq_getElem?_getD,List.getElem?_eq_none hj]
theorem S.Q7(r:Rule)(c:List Int)(hr:vK r)(hc:c.length<2^30)(h:qZ r c=true):aP Tryz.prog 111 (V.aU [.dat (.rule r),.own 0]) (Hz.ay [(0,some (je c))]) 1 (fun t hp=>t= .own 1/\hp=Hz.ay [(0,some (je c)),(1,some (.gen 24 0 [.inn 0]))]):=by
 refine oJ.of (h0:=[(0,some (je c))]) (nx:=1) Bd.oL (by simp) ⟨_,_,rfl,rfl⟩ rfl rfl ?_;refine ah.lend (S.nT r c false hr (by omega)) ⟨aC _,BA trivial rfl,trivial⟩ rfl rfl ?_;refine Fork.mk (fun _=>?_) (fun q=>absurd (q.symm.trans (h)) aq);exact iT.wrap rfl rfl rfl rfl (by decide) rfl rfl rfl ⟨rfl,rfl⟩
def DJ(r:Rule)(c:List Int)(i:Nat):List (List Int):=(r.ex.take i).map fun x=>aS c x 1
theorem Np{r:Rule}{c:List Int}{i:Nat}(h:i<=r.ex.length):(DJ r c i).length=i:=by simp[DJ,Nat.min_eq_left h]
theorem PL{r:Rule}{c:List Int}{i:Nat}(h:i<r.ex.length):DJ r c (i+1)=DJ r c i++[aS c (r.ex.getD i 0) 1]:=by
 unfold DJ;rw[bj h,cm,getD_some h]; rfl
theorem S.Q8(r:Rule)(c:List Int)(f:Bool)(hr:vK r)(hc:c.length<2^30)(hx:qY c.length r.ex)(hl:r.ex.length<=100)(h0:Oj c)(h:qZ r c=false):Dx Tryz.prog 111 [.dat (.rule r),.row 0 f (.ints c)] V.own 24 ((r.ex.map fun x=>aS c x 1).map je):=by
 refine Dx.of Bd.oL (by simp) rfl afF KJ ?_;refine ah.pure (S.nT r c f hr (by omega)) rfl ?_;refine Fork.mk (fun q=>absurd (q.symm.trans (h)).symm aq) (fun _=>?_);refine aA.nil 5 24 0 (by rfl) rfl rfl rfl ?_;refine aA.fam 20000 [15,16,1] (fun i:Nat=>[(17,.int i),(5,.own 9)]) (fun i=>yJ [(9,yL (DJ r c i).length)]++iJ 10000 (fR (DJ r c i))) (fun i=>i<=r.ex.length) (fun i=>r.ex.length-i) 0 (lX 10000 (fun j=>10000+j) (iQ [(9,yL 0)] [10])) _ rfl (by decide) (fun _=>rfl) (ab _) (sR rfl) (.inl rfl) ?_ ?_
 ·refine jY.fam (g:=fun j=>10000+j) [(9,yL 0)] [10] ?_ rfl (ab _) (show 10000+0<=20000 by decide) (fun j o q=>by cases q) (fun j _ o _ q=>by cases q);exact⟨⟨rfl,nofun,rfl,dD (by decide),_,rfl,rfl,rfl,.refl _⟩,trivial⟩
 refine⟨(sR rfl),rfl,?_⟩;rintro i hi;have hw:=Np (c:=c) hi;refine⟨fun h1=>?_,fun h1=>?_⟩
 ·have hi':i<r.ex.length:=by simpa using h1
  have hpl:=hx (r.ex.getD i 0) (by rw[getD_some hi']; exact be hi');have hst:=PL (c:=c) hi';have hP1:=Np (c:=c) hi';have hv:=jH h0 (r.ex.getD ((i:Int)).toNat 0).toNat;repeat(refine VC.mk (by first|(first|(simp only[Rw.rng]; omega)|(simp only[jy,jK,Rw.len]; omega)|(simp only[okI]; omega)|(show((sG 10000 _).length+(0+1))*24<=140737488355328/\(sG 10000 _).length+(0+1)<=1152921504606846976; rw[pF,hw]; omega))|(simp only[Rw.rng] at *; first|omega|(simp_all; done)|(simp_all; omega))) ?_)
  refine qR.WR 20000 (i+1) i 20005 (fR (DJ r c i)) (fR (DJ r c i++[aS c (r.ex.getD i 0) 1])) [(9,yL (i+1))] [20017] (by rw[hP1,hst]) hi' (by omega) ?_ rfl rfl rfl (ab _) (by rw[iw,<- hst,hP1]; omega) (by rw[iw,hw]; omega) (by decide) jD ?_ (WZ hw) (sR rfl) (sR rfl) ?_
  (repeat' (first|refine bQ.lo rfl ?_|refine bQ.hi rfl ?_|exact bQ.nil))
  ·intro o ho;rw[Q5 hw] at ho;cases ho;exact⟨_,rfl,rfl⟩
  ·exact⟨⟨rfl,nofun,rfl,dD (by omega),_,rfl,rfl,rfl,by rw[hw]; exact Jh⟩,trivial⟩
 ·have hi':i=r.ex.length:=by have:=aL h1; omega
  subst hi';have hall:DJ r c r.ex.length=r.ex.map fun x=>aS c x 1:=by unfold DJ; rw[bp]
  conv=>whnf
  rw[hall] at hw ⊢;refine QW.fam 20000 rfl (by decide) ?_ (by omega)
  (repeat' (first|refine bQ.lo rfl ?_|refine bQ.hi rfl ?_|exact bQ.nil))
end Go.Proofs.YtbdbmfccbpfeoabGreatDoor
