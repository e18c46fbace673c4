/-
 Families of rows of numbers; all ways to divide. No condition.
-/
import Derived.Test.YtbdbmfccbpfeoaaGreatDoorPa
import Derived.Test.YtbdbmfccbpfeoaaGreatDoorGa
import Derived.Test.YtbdbmfccbpfeoaaGreatDoorFa
import Derived.Test.YtbdbmfccbpfeoaaGreatDoorLg
namespace Go.Proofs.YtbdbmfccbpfeoaaGreatDoor
open Go.Ab Go.Proofs
set_option maxRecDepth 100000
theorem getD_some{α:Type}{l:List α}{i:Nat}{d:α}(h:i<l.length):l.getD i d=l[i]:=by simp[h]
abbrev fR(R:List (List Int)):List (Option OV):=R.map fun r=>some (jI r)
abbrev zh(k:Nat):OV:=DF 24 10000 k
theorem iC{R:List (List Int)}:(fR R).length=R.length:=bh _
theorem jl{R:List (List Int)}{nx:Nat}: ∀ o,some o∈fR R->o.good nx=true/\o.Ce=true:=by
 intro o h;obtain⟨r,_,e⟩:=bA.1 h;cases e;exact⟨rfl,rfl⟩
theorem Nj{R:List (List Int)}{j:Nat}(h:j<R.length):(fR R)[j]? =some (some (jI (R.getD j []))):=by
 rw[cM,bE h,getD_some h]; rfl
theorem QZ{R:List (List Int)}{r:List Int}{a:Nat}(h:R.length=a):(fR (R++[r]))[a]? =some (some (jI r)):=by
 subst h;rw[cM,ci (bO _),fe]; rfl
theorem WZ{R:List (List Int)}{r:List Int}{a:Nat}(h:R.length=a): ∀ j o,j≠a->(fR (R++[r]))[j]? =some (some o)->(fR R)[j]? =some (some o):=by
 intro j o hj q;rcases ee j R.length with hl|hl
 ·rw[cM,cX hl] at q; rw[cM]; exact q
 ·rw[cM,cq (by rw[aL]; simp only[List.length_singleton]; omega)] at q; cases q
theorem iT.rows{h:Hz}{i:Nat}{R:List (List Int)}{o:OV}{g:Nat->Nat}(hi:h.get i=some o)(e1:o.ay.ty=24)(e2:o.ay.k=0)(e3:o.ay.l=(List.range R.length).map fun j=>T.own (g j))
  (hg: ∀ j,j<R.length->g j≠i/\ ∃ o',h.get (g j)=some o'/\o'.ay=(jI (R.getD j [])).ay):iT (.row 0 false (.dV R)) (.own i) h:=by
 refine iT.nest (R:=R.map Rw.ints) (ty:=3) (k:=0) ?_ ?_ ?_ (by decide) hi e1 e2 (by rw[bh]; exact e3) fun j hj=>?_
 ·show R.map Go.Ab.ints=_;rw[cp]; rfl
 ·rw[ig]; intro t ht; obtain⟨x,_,rfl⟩:=bA.1 ht; rfl
 ·intro x hx;obtain⟨y,_,rfl⟩:=bA.1 hx;rw[ig]; intro t ht; obtain⟨x,_,rfl⟩:=bA.1 ht; rfl
 ·rw[bh] at hj;obtain⟨q1,o',q2,q3⟩:=hg j hj;refine⟨q1,o',_,q2,by rw[cM,bE hj]; rfl,?_⟩;rw[q3,getD_some hj];simp[OV.ay,V.aQ]
theorem iT.Uo{h:Hz}{i:Nat}{R:List (List Int)}(C:Nat)(hi:h.get i=some (zh R.length))(hb:i<10000)(q:dB 10000 C (iY 10000 (fR R)) h)(hC:10000+R.length<=C):iT (.row 0 false (.dV R)) (.own i) h:=by
 refine iT.rows (g:=fun j=>10000+j) hi rfl rfl lN fun j hj=>⟨by omega,_,q.get (by rw[iC]; exact hC) (Nj hj),rfl⟩
theorem iT.Ov{b:Bool}{k:Nat}{h:Hz}:iT (.bU [.row 0 false (.dV []),.bool b]) (.bU [.row k true .nil,.bool b]) h :=
 ⟨[],⟨fun _=>False,trivial⟩,by
  show T.sub _ _ (.bU [.sl 0 false [],(V.bool b).aI]) (.bU [.sl k true [],(V.bool b).aI]);simp only[T.sub,T.dG]
  exact⟨⟨.inl trivial,.inr trivial,fun h=>by cases h⟩,aG _,trivial⟩⟩
theorem iT.one{h:Hz}{i:Nat}{l:List Int}(hi:h.get i=some (.row 24 0 .nil [.row 0 true (.ints l)])):iT (.row 0 false (.dV [l])) (.own i) h:=by
 have hf:T.bG [Go.Ab.ints l]=true:=rfl;refine⟨[(i,some (.row 24 0 (.dV [l]) []))],⟨fun c=>c≠i,⟨_,hi,fun h=>h rfl,rfl,rfl,?_,rfl,rfl⟩,trivial⟩,?_⟩
 ·show T.dG _ _ [.sl 0 false (l.map T.int)] [.sl 0 true (l.map T.int)];simp only[T.sub,T.dG];exact⟨⟨.inl trivial,.inl trivial,fun h=>by cases h⟩,trivial⟩
 ·show T.sub _ _ (.sl 0 false [Go.Ab.ints l]) (.own i);simp only[T.sub];exact⟨trivial,trivial,hf,by decide,24,by simp[Hz.au,Hz.get,OV.ay,Rw.aQ,V.aQ]⟩
def divV(k n:Nat):V:=match divO k n with
 |some L=>.bU [.row 0 false (.dV L),.bool true]
 |none=>.bU [.row 0 false (.dV []),.bool false]
theorem Jl{k n:Nat}:(divV k n).free=true:=by unfold divV; split<;>rfl
theorem EC{k n:Nat}(h:divO k n=none):divV k n= .bU [.row 0 false (.dV []),.bool false]:=by unfold divV; rw[h]
theorem AA{k n:Nat}(h:(kK k n).length<=100):divV k n= .bU [.row 0 false (.dV (kK k n)),.bool true]:=by unfold divV divO; rw[ba h]
set_option maxHeartbeats 1000000 in
theorem S.mP: ∀ (k n:Nat),k<=2^20->n<=2^21->aj Tryz.prog 166 [.int n,.int k] (divV k n):=by
 intro k;induction k using Nat.strongRecOn with
 |ind k ih =>
 intro n hk hn;have hfree:=@Jl k n;match k,ih,hk with
 |0,_,_ =>
  have hres:divV 0 n= .bU [.row 0 false (.dV []),.bool true]:=AA (ap _);rw[hres];refine aj.ofF Bd.mP rfl (by simp) rfl rfl ?_;refine Fork.mk (fun _=>?_) (fun q=>absurd (q.symm.trans (rfl)) aM);exact iT.Ov
 |1,_,_ =>
  have hres:divV 1 n= .bU [.row 0 false (.dV [[(n:Int)]]),.bool true]:=AA (by simp[kK]);rw[hres];refine aj.ofF Bd.mP rfl (by simp) rfl rfl ?_;refine Fork.mk (fun q=>absurd (q.symm.trans (rfl)).symm aM) (fun _=>?_);refine Fork.mk (fun _=>?_) (fun q=>absurd (q.symm.trans (rfl)) aM);exact iT.ZP (iT.one rfl)
 |k+2,ih,hk =>
  have H:=ih (k+1) (by omega);generalize hr:divV (k+2) n=res;rw[hr] at hfree;refine aj.ofF Bd.mP rfl (by simp) rfl hfree ?_;refine Fork.mk (fun q=>absurd (q.symm.trans (cH (by omega))).symm aM) (fun _=>?_);refine Fork.mk (fun q=>absurd (q.symm.trans (cH (by omega))).symm aM) (fun _=>?_);refine aF.nil 6 24 0 (by rfl) rfl rfl rfl ?_;refine aF.fam 20000 [0,1] (fun i:Nat=>[(7,.int i),(6,.own 9)]) (fun i=>uG [(9,zh (sK k n i).length)]++iY 10000 (fR (sK k n i))) (fun i=>i<=n+1/\(sK k n i).length<=100) (fun i=>n+1-i) 0 (nS 10000 (fun j=>10000+j) (fZ [(9,zh 0)] [8])) _ rfl (by decide) (fun _=>rfl) ⟨ap _,ap _⟩ (sR rfl) (.inl rfl) ?_ ?_
  ·refine kH.fam (g:=fun j=>10000+j) [(9,zh 0)] [8] ?_ rfl (ap _) (show 10000+0<=20000 by decide) (fun j o q=>by cases q) (fun j _ o _ q=>by cases q);exact⟨⟨rfl,nofun,rfl,dF (by decide),_,rfl,rfl,rfl,.refl _⟩,trivial⟩
  refine⟨(sR rfl),rfl,?_⟩;rintro i ⟨hi,hL⟩;refine⟨fun h1=>?_,fun h1=>?_⟩
  ·have hi':i<=n:=by have:=aq h1; omega
   repeat(refine VC.mk (by simp only[okI] at *; first|omega|(simp_all; omega)) ?_)
   rw[show(n:Int)-i=((n-i:Nat):Int) by omega,show((k+2:Nat):Int)-1=((k+1:Nat):Int) by omega];refine ah.pure (H (n-i) (by omega) (by omega)) Jl ?_;by_cases hd:(kK (k+1) (n-i)).length<=100
   ·rw[AA hd];repeat(refine VC.mk (by first|exact id|(intro h; rw[h]; rfl)|(simp only[okI] at *; first|omega|(simp_all; omega))) ?_)
    refine⟨fun h2=>?_,fun h2=>?_⟩
    ·have hf:100<(sK k n i).length+(kK (k+1) (n-i)).length:=by have:=aq h2; simp only[bh,ff] at this; omega
     conv=>whnf
     rw[<- hr,EC (acM (i:=i+1) (by omega) (by rw[Jk,aL,bh]; exact hf))];exact iT.Ov
    ·have hf:(sK k n i).length+(kK (k+1) (n-i)).length<=100:=by have:=aR h2; simp only[bh,ff] at this; omega
     conv=>whnf
     generalize hT:kK (k+1) (n-i)=TL at hf hd;have hP: ∀ j,j<=TL.length->(sK k n i++(TL.take j).map fun t=>(i:Int)::t).length=(sK k n i).length+j:=fun j hj=>by rw[aL,bh,bL,ep hj]
     refine aF.fam 20000 [43,44,7,0,1] (fun j:Nat=>[(45,.int j),(6,.own 9)]) (fun j=>uG [(9,zh (sK k n i++(TL.take j).map fun t=>(i:Int)::t).length)]++iY 10000 (fR (sK k n i++(TL.take j).map fun t=>(i:Int)::t))) (fun j=>j<=TL.length) (fun j=>TL.length-j) 0 (nS 10000 (fun j=>10000+j) (fZ [(9,zh (sK k n i++(TL.take 0).map fun t=>(i:Int)::t).length)] [9])) _ rfl (by decide) (fun _=>rfl) (ap _) (sR rfl) (.inl rfl) ?_ ?_
     ·refine kH.Ya 20000 [(9,zh (sK k n i++(TL.take 0).map fun t=>(i:Int)::t).length)] [9] ?_ rfl rfl (ap _) (by rw[iC,hP 0 (ap _)]; omega) (by decide) jl ?_
      ·rw[show sK k n i++(TL.take 0).map (fun t=>(i:Int)::t)=sK k n i by simp]
       (repeat' (first|refine dB.lo rfl ?_|refine dB.hi rfl ?_|exact dB.nil))
      ·exact⟨⟨rfl,nofun,rfl,dF (by rw[hP 0 (ap _)]; omega),_,rfl,rfl,rfl,by rw[show sK k n i++(TL.take 0).map (fun t=>(i:Int)::t)=sK k n i by simp]; exact jQ⟩,trivial⟩
     refine⟨(sR rfl),rfl,?_⟩;rintro j hj;have hPj:=hP j hj;refine⟨fun h3=>?_,fun h3=>?_⟩
     ·have hj':j<TL.length:=by simpa using h3
      have hg:TL.getD j []∈kK (k+1) (n-i):=by rw[hT,getD_some hj']; exact bR hj'
      have hgl:=Ic hg;have hst:(TL.take (j+1)).map (fun t=>(i:Int)::t)=(TL.take j).map (fun t=>(i:Int)::t)++[(i:Int)::TL.getD j []]:=by rw[getD_some hj',bq hj',cx]; rfl
      refine .mk (by simp only[Rw.rng] at *; first|omega|(simp_all; omega)) ?_;refine aeI.one ⟨.inr ?_,?_⟩ ?_
      ·show 0<(TL.getD j []).length; omega
      ·show(1+(TL.getD j []).length)*8<=140737488355328/\1+(TL.getD j []).length<=1152921504606846976; omega
      repeat(refine VC.mk (by first|(show((sJ 10000 _).length+(0+1))*24<=140737488355328/\(sJ 10000 _).length+(0+1)<=1152921504606846976; rw[oV,hPj]; omega)|(simp only[okI] at *; first|omega|(simp_all; omega))) ?_)
      have hP1:=hP (j+1) hj';rw[hst,<- ax] at hP1;refine tZ.acd 20000 (j+1) ((sK k n i).length+j) 20008 (fR (sK k n i++(TL.take j).map fun t=>(i:Int)::t)) (fR ((sK k n i++(TL.take j).map fun t=>(i:Int)::t)++[(i:Int)::TL.getD j []])) [(9,zh ((sK k n i).length+j+1))] [20010] (by rw[hst,<- ax,hP1]; rfl) hj' (by omega) ?_ rfl rfl rfl (ap _) (by rw[iC,hP1]; omega) (by rw[iC,hPj]; omega) (by decide) jl ?_ (WZ hPj) (sR rfl) (sR rfl) ?_
      (repeat' (first|refine dB.lo rfl ?_|refine dB.hi rfl ?_|exact dB.nil))
      ·intro o ho;rw[QZ hPj] at ho;cases ho;exact⟨_,rfl,rfl⟩
      ·exact⟨⟨rfl,nofun,rfl,dF (by omega),_,rfl,rfl,rfl,by rw[hPj]; exact Jh⟩,trivial⟩
     ·have hj':j=TL.length:=by have:=aR h3; omega
      subst hj';rw[cB] at hPj ⊢;have hst:sK k n (i+1)=sK k n i++TL.map fun t=>(i:Int)::t:=by rw[Jk,hT]
      refine .mk (by simp only[okI] at *; first|omega|(simp_all; omega)) ?_;refine tZ.H7 20000 (i+1) (fR (sK k n i++TL.map fun t=>(i:Int)::t)) [(9,zh (sK k n i++TL.map fun t=>(i:Int)::t).length)] [9] (by rw[hst]) ⟨by omega,by rw[hst,hPj]; omega⟩ (by omega) ?_ rfl rfl (ap _) (by rw[iC,hPj]; omega) (by decide) jl (sR rfl) (sR rfl) ?_
      (repeat' (first|refine dB.lo rfl ?_|refine dB.hi rfl ?_|exact dB.nil))
      ·exact⟨⟨rfl,nofun,rfl,dF (by rw[hPj]; omega),_,rfl,rfl,rfl,jQ⟩,trivial⟩
   ·have hnone:divO (k+1) (n-i)=none:=by unfold divO; rw[av hd]
    rw[EC hnone];repeat(refine VC.mk (by first|exact id|(intro h; rw[h]; rfl)|(intro h; simp_all; done)) ?_)
    refine Fork.mk (fun _=>?_) (fun q=>absurd (q.symm.trans (rfl)) aM);conv=>whnf
    rw[<- hr,EC (aak hi' hnone)];exact iT.Ov
  ·have hi':i=n+1:=by have:=aR h1; omega
   subst hi';rw[Un] at hL;conv=>whnf
   rw[<- hr,AA hL];refine iT.ZP (iT.Uo 20000 rfl (by decide) ?_ (by omega))
   (repeat' (first|refine dB.lo rfl ?_|refine dB.hi rfl ?_|exact dB.nil))
def Q5(n:Nat):List Int:=(List.range n).map fun x:Nat=>(x:Int)
theorem aal{n:Nat}:Q5 (n+1)=Q5 n++[(n:Int)]:=by simp[Q5,List.range_succ]
theorem acN{n:Nat}:(Q5 n).length=n:=by simp[Q5]
theorem ak.aiG{h:Hz}{k:Nat}{l:List Int}(e:l=[]):ak (.row 0 false (.ints l)) (.row k true .nil) h:=⟨by
 subst e;show T.sub (fun _=>True) h.au (.sl 0 false []) (.sl k true [])
 simp[T.sub]⟩
theorem S.jS(p:aB)(r:Rule)(v:Int)(hv:p.values.length<2^20):aj Tryz.prog 132 [.dat (.fM p),.dat (.rule r),.int v] (.row 0 false (.ints (rG p r v))):=by
 refine aj.of Bd.jS (by simp) rfl rfl ?_;repeat(refine VC.mk (by first|exact id|exact fun h=>⟨h,h⟩) ?_)
 refine⟨fun h1=>?_,fun h1=>?_⟩
 ·conv=>whnf
  exact ak.aiG (by unfold rG; rw[h1]; rfl)
 repeat(refine VC.mk (by first|exact id|exact fun h=>⟨h,h⟩) ?_)
 refine⟨fun h2=>?_,fun h2=>?_⟩
 ·rw[Bool.and_assoc] at h2;exact ak.aiG (by unfold rG; rw[h1,h2]; rfl)
 rw[Bool.and_assoc] at h2;refine⟨fun h3=>?_,fun h3=>?_⟩
 ·conv=>whnf
  exact ak.row (by unfold rG; rw[h1,h2,h3]; rfl)
 refine⟨fun h4=>?_,fun h4=>?_⟩
 ·conv=>whnf
  exact ak.row (by unfold rG; rw[h1,h2,h3,h4]; rfl)
 have hV:rG p r v=Q5 (max 1 p.values.length):=by unfold rG; rw[h1,h2,h3,h4]; rfl
 rw[hV];refine aF.nil 7 3 0 (by rfl) rfl rfl rfl ?_;refine aF.objs 3 [46] (fun i:Nat=>[(47,.int i),(7,.own 2)]) (fun i=>[(2,jI (Q5 i))]) (fun i=>i<=max 1 p.values.length) (fun i=>max 1 p.values.length-i) 0 [38] rfl (by decide) (fun _=>rfl) (ap _) (sR rfl) ⟨gK rfl rfl,trivial⟩ ?_;refine⟨(sR rfl),rfl,?_⟩;rintro i hi;have hl:=@acN i;refine⟨fun h5=>?_,fun h5=>?_⟩
 ·have hi':i<max 1 p.values.length:=by have:=aq h5; omega
  repeat(refine VC.mk (by first|(show((Q5 i).length+(0+1))*8<=140737488355328/\(Q5 i).length+(0+1)<=1152921504606846976; omega)|(simp only[okI] at *; omega)) ?_)
  exact⟨i+1,[9],hi',by omega,(sR rfl),(sR rfl),⟨rfl,nofun,rfl,rfl,rfl,_,rfl,rfl,rfl,dH.of_eq (by rw[aal])⟩,trivial⟩
 ·have hi':i=max 1 p.values.length:=by have:=aR h5; omega
  subst hi';exact ak.ahR rfl
theorem agj:ZO V.own:=⟨fun _ _=>rfl,fun _=>rfl⟩
theorem acO(b:Bool):ZO fun n=>.bU [.own n,.bool b]:=⟨fun _ _=>rfl,fun _=>⟨rfl,trivial,trivial⟩⟩
theorem KL{R:List (List Int)}: ∀ o∈R.map jI,o.Ce=true/\o.good 0=true:=by
 intro o ho;obtain⟨c,_,rfl⟩:=bA.1 ho;exact⟨rfl,rfl⟩
theorem Ur{R:List (List Int)}:(R.map jI).map some=fR R:=by rw[cp]; rfl
theorem QU.fam{tv:Nat->V}{h:Hz}{i:Nat}{R:List (List Int)}(C:Nat)(hi:h.get i=some (zh R.length))(hb:i<10000)(q:dB 10000 C (iY 10000 (fR R)) h)(hC:10000+R.length<=C):QU tv 24 (R.map jI) (tv i) h :=
 ⟨i,fun j=>10000+j,_,rfl,hi,rfl,rfl,by rw[bh]; exact lN,fun j hj=>by
  rw[bh] at hj
  exact⟨by show 10000+j≠i; omega,_,jI (R.getD j []),q.get (by rw[iC]; exact hC) (Nj hj),by rw[cM,bE hj,getD_some hj]; rfl,rfl⟩,fun i j _ _ e=>by replace e:10000+i=10000+j:=e; omega⟩
theorem wO{c:List Int}(h:OG c)(j:Nat):0<=c.getD j 0/\c.getD j 0<=1048576:=by
 rcases ee j c.length with hj|hj
 ·rw[getD_some hj]; exact h _ (bR hj)
 ·simp[List.getD_eq_getElem?_getD,List.getElem?_eq_none hj]
theorem S.Q7(r:Rule)(c:List Int)(hr:sN r)(hc:c.length<2^30)(h:qU r c=true):aO Tryz.prog 155 (V.aQ [.dat (.rule r),.own 0]) (Hz.au [(0,some (jI c))]) 1 (fun t hp=>t= .own 1/\hp=Hz.au [(0,some (jI c)),(1,some (.gen 24 0 [.inn 0]))]):=by
 refine og.of (h0:=[(0,some (jI c))]) (nx:=1) Bd.ou (by simp) ⟨_,_,rfl,rfl⟩ rfl rfl ?_;refine ah.lend (S.kU r c false hr (by omega)) ⟨aG _,xK trivial rfl,trivial⟩ rfl rfl ?_;refine Fork.mk (fun _=>?_) (fun q=>absurd (q.symm.trans (h)) aM);exact gG.wrap rfl rfl rfl rfl (by decide) rfl rfl rfl ⟨rfl,rfl⟩
def Nk(r:Rule)(c:List Int)(i:Nat):List (List Int):=(r.ex.take i).map fun x=>aZ c x 1
theorem Us{r:Rule}{c:List Int}{i:Nat}(h:i<=r.ex.length):(Nk r c i).length=i:=by simp[Nk,Nat.min_eq_left h]
theorem aam{r:Rule}{c:List Int}{i:Nat}(h:i<r.ex.length):Nk r c (i+1)=Nk r c i++[aZ c (r.ex.getD i 0) 1]:=by
 unfold Nk;rw[bq h,cx,getD_some h]; rfl
theorem S.Q8(r:Rule)(c:List Int)(f:Bool)(hr:sN r)(hc:c.length<2^30)(hx:xJ c.length r.ex)(hl:r.ex.length<=100)(h0:OG c)(h:qU r c=false):DI Tryz.prog 155 [.dat (.rule r),.row 0 f (.ints c)] V.own 24 ((r.ex.map fun x=>aZ c x 1).map jI):=by
 refine DI.of Bd.ou (by simp) rfl agj KL ?_;refine ah.pure (S.kU r c f hr (by omega)) rfl ?_;refine Fork.mk (fun q=>absurd (q.symm.trans (h)).symm aM) (fun _=>?_);refine aF.nil 5 24 0 (by rfl) rfl rfl rfl ?_;refine aF.fam 20000 [15,16,1] (fun i:Nat=>[(17,.int i),(5,.own 9)]) (fun i=>uG [(9,zh (Nk r c i).length)]++iY 10000 (fR (Nk r c i))) (fun i=>i<=r.ex.length) (fun i=>r.ex.length-i) 0 (nS 10000 (fun j=>10000+j) (fZ [(9,zh 0)] [10])) _ rfl (by decide) (fun _=>rfl) (ap _) (sR rfl) (.inl rfl) ?_ ?_
 ·refine kH.fam (g:=fun j=>10000+j) [(9,zh 0)] [10] ?_ rfl (ap _) (show 10000+0<=20000 by decide) (fun j o q=>by cases q) (fun j _ o _ q=>by cases q);exact⟨⟨rfl,nofun,rfl,dF (by decide),_,rfl,rfl,rfl,.refl _⟩,trivial⟩
 refine⟨(sR rfl),rfl,?_⟩;rintro i hi;have hw:=Us (c:=c) hi;refine⟨fun h1=>?_,fun h1=>?_⟩
 ·have hi':i<r.ex.length:=by simpa using h1
  have hpl:=hx (r.ex.getD i 0) (by rw[getD_some hi']; exact bR hi');have hst:=aam (c:=c) hi';have hP1:=Us (c:=c) hi';have hv:=wO h0 (r.ex.getD ((i:Int)).toNat 0).toNat;repeat(refine VC.mk (by first|(first|(simp only[Rw.rng]; omega)|(simp only[mD,mV,Rw.len]; omega)|(simp only[okI]; omega)|(show((sJ 10000 _).length+(0+1))*24<=140737488355328/\(sJ 10000 _).length+(0+1)<=1152921504606846976; rw[oV,hw]; omega))|(simp only[Rw.rng] at *; first|omega|(simp_all; done)|(simp_all; omega))) ?_)
  refine tZ.acd 20000 (i+1) i 20005 (fR (Nk r c i)) (fR (Nk r c i++[aZ c (r.ex.getD i 0) 1])) [(9,zh (i+1))] [20017] (by rw[hP1,hst]) hi' (by omega) ?_ rfl rfl rfl (ap _) (by rw[iC,<- hst,hP1]; omega) (by rw[iC,hw]; omega) (by decide) jl ?_ (WZ hw) (sR rfl) (sR rfl) ?_
  (repeat' (first|refine dB.lo rfl ?_|refine dB.hi rfl ?_|exact dB.nil))
  ·intro o ho;rw[QZ hw] at ho;cases ho;exact⟨_,rfl,rfl⟩
  ·exact⟨⟨rfl,nofun,rfl,dF (by omega),_,rfl,rfl,rfl,by rw[hw]; exact Jh⟩,trivial⟩
 ·have hi':i=r.ex.length:=by have:=aR h1; omega
  subst hi';have hall:Nk r c r.ex.length=r.ex.map fun x=>aZ c x 1:=by unfold Nk; rw[cB]
  conv=>whnf
  rw[hall] at hw ⊢;refine QU.fam 20000 rfl (by decide) ?_ (by omega)
  (repeat' (first|refine dB.lo rfl ?_|refine dB.hi rfl ?_|exact dB.nil))
end Go.Proofs.YtbdbmfccbpfeoaaGreatDoor
