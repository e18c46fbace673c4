/-
 Families of rows of numbers; all ways to divide. No condition.
-/
import Derived.Test.YtkmldgihhaooaaaGreatDoorPa
import Derived.Test.YtkmldgihhaooaaaGreatDoorGa
import Derived.Test.YtkmldgihhaooaaaGreatDoorFa
import Derived.Test.YtkmldgihhaooaaaGreatDoorLg
namespace Go.Proofs.YtkmldgihhaooaaaGreatDoor
open Go.Ab Go.Proofs
set_option maxRecDepth 100000
theorem getD_some{α:Type}{l:List α}{i:Nat}{d:α}(h:i<l.length):l.getD i d=l[i]:=by simp[h]
abbrev fR(R:List (List Int)):List (Option OV):=R.map fun r=>some (iY r)
abbrev yu(k:Nat):OV:=C9 24 10000 k
theorem gZ{R:List (List Int)}:(fR R).length=R.length:=List.length_map _
theorem jA{R:List (List Int)}{nx:Nat}: ∀ o,some o∈fR R->o.good nx=true/\o.Dz=true:=by
 intro o h;obtain⟨r,_,e⟩:=List.mem_map.1 h;cases e;exact⟨rfl,rfl⟩
theorem MJ{R:List (List Int)}{j:Nat}(h:j<R.length):(fR R)[j]? =some (some (iY (R.getD j []))):=by
 rw[List.getElem?_map,List.getElem?_eq_getElem h,getD_some h]; rfl
theorem Qs{R:List (List Int)}{r:List Int}{a:Nat}(h:R.length=a):(fR (R++[r]))[a]? =some (some (iY r)):=by
 subst h;rw[List.getElem?_map,List.getElem?_append_right (Nat.le_refl _),Nat.sub_self]; rfl
theorem V7{R:List (List Int)}{r:List Int}{a:Nat}(h:R.length=a): ∀ j o,j≠a->(fR (R++[r]))[j]? =some (some o)->(fR R)[j]? =some (some o):=by
 intro j o hj q;rcases Nat.lt_or_ge j R.length with hl|hl
 ·rw[List.getElem?_map,List.getElem?_append_left hl] at q; rw[List.getElem?_map]; exact q
 ·rw[List.getElem?_map,List.getElem?_eq_none (by rw[List.length_append]; simp only[List.length_singleton]; omega)] at q; cases q
theorem iW.rows{h:Hz}{i:Nat}{R:List (List Int)}{o:OV}{g:Nat->Nat}(hi:h.get i=some o)(e1:o.au.ty=24)(e2:o.au.k=0)(e3:o.au.l=(List.range R.length).map fun j=>T.own (g j))
  (hg: ∀ j,j<R.length->g j≠i/\ ∃ o',h.get (g j)=some o'/\o'.au=(iY (R.getD j [])).au):iW (.row 0 false (.bH R)) (.own i) h:=by
 refine iW.nest (R:=R.map Rw.ints) (ty:=3) (k:=0) ?_ ?_ ?_ (by decide) hi e1 e2 (by rw[List.length_map]; exact e3) fun j hj=>?_
 ·show R.map Go.Ab.ints=_;rw[List.map_map]; rfl
 ·rw[fZ]; intro t ht; obtain⟨x,_,rfl⟩:=List.mem_map.1 ht; rfl
 ·intro x hx;obtain⟨y,_,rfl⟩:=List.mem_map.1 hx;rw[fZ]; intro t ht; obtain⟨x,_,rfl⟩:=List.mem_map.1 ht; rfl
 ·rw[List.length_map] at hj;obtain⟨q1,o',q2,q3⟩:=hg j hj;refine⟨q1,o',_,q2,by rw[List.getElem?_map,List.getElem?_eq_getElem hj]; rfl,?_⟩;rw[q3,getD_some hj];simp[OV.au,V.aU]
theorem iW.TT{h:Hz}{i:Nat}{R:List (List Int)}(C:Nat)(hi:h.get i=some (yu R.length))(hb:i<10000)(q:bQ 10000 C (iH 10000 (fR R)) h)(hC:10000+R.length<=C):iW (.row 0 false (.bH R)) (.own i) h:=by
 refine iW.rows (g:=fun j=>10000+j) hi rfl rfl lZ fun j hj=>⟨by omega,_,q.get (by rw[gZ]; exact hC) (MJ hj),rfl⟩
theorem iW.TU{b:Bool}{k:Nat}{h:Hz}:iW (.dW [.row 0 false (.bH []),.bool b]) (.dW [.row k true .nil,.bool b]) h :=
 ⟨[],⟨fun _=>False,trivial⟩,by
  show T.sub _ _ (.dW [.sl 0 false [],(V.bool b).aH]) (.dW [.sl k true [],(V.bool b).aH]);simp only[T.sub,T.dA]
  exact⟨⟨.inl trivial,.inr trivial,fun h=>by cases h⟩,aC _,trivial⟩⟩
theorem iW.one{h:Hz}{i:Nat}{l:List Int}(hi:h.get i=some (.row 24 0 .nil [.row 0 true (.ints l)])):iW (.row 0 false (.bH [l])) (.own i) h:=by
 have hf:T.bW [Go.Ab.ints l]=true:=rfl;refine⟨[(i,some (.row 24 0 (.bH [l]) []))],⟨fun c=>c≠i,⟨_,hi,fun h=>h rfl,rfl,rfl,?_,rfl,rfl⟩,trivial⟩,?_⟩
 ·show T.dA _ _ [.sl 0 false (l.map T.int)] [.sl 0 true (l.map T.int)];simp only[T.sub,T.dA];exact⟨⟨.inl trivial,.inl trivial,fun h=>by cases h⟩,trivial⟩
 ·show T.sub _ _ (.sl 0 false [Go.Ab.ints l]) (.own i);simp only[T.sub];exact⟨trivial,trivial,hf,by decide,24,by simp[Hz.ay,Hz.get,OV.au,Rw.aU,V.aU]⟩
def divV(k n:Nat):V:=match divO k n with
 |some L=>.dW [.row 0 false (.bH L),.bool true]
 |none=>.dW [.row 0 false (.bH []),.bool false]
theorem I7{k n:Nat}:(divV k n).free=true:=by unfold divV; split<;>rfl
theorem D8{k n:Nat}(h:divO k n=none):divV k n= .dW [.row 0 false (.bH []),.bool false]:=by unfold divV; rw[h]
theorem zK{k n:Nat}(h:(kN k n).length<=100):divV k n= .dW [.row 0 false (.bH (kN k n)),.bool true]:=by unfold divV divO; rw[if_pos h]
set_option maxHeartbeats 1000000 in
theorem S.nH: ∀ (k n:Nat),k<=2^20->n<=2^21->ak Tryz.prog 139 [.int n,.int k] (divV k n):=by
 intro k;induction k using Nat.strongRecOn with
 |ind k ih =>
 intro n hk hn;have hfree:=@I7 k n;match k,ih,hk with
 |0,_,_ =>
  have hres:divV 0 n= .dW [.row 0 false (.bH []),.bool true]:=zK (Nat.zero_le _);rw[hres];refine ak.ofF Bd.nH rfl (by simp) rfl rfl ?_;refine Fork.mk (fun _=>?_) (fun q=>absurd (q.symm.trans (rfl)) Bool.false_ne_true);exact iW.TU
 |1,_,_ =>
  have hres:divV 1 n= .dW [.row 0 false (.bH [[(n:Int)]]),.bool true]:=zK (by simp[kN]);rw[hres];refine ak.ofF Bd.nH rfl (by simp) rfl rfl ?_;refine Fork.mk (fun q=>absurd (q.symm.trans (rfl)).symm Bool.false_ne_true) (fun _=>?_);refine Fork.mk (fun _=>?_) (fun q=>absurd (q.symm.trans (rfl)) Bool.false_ne_true);exact iW.Y7 (iW.one rfl)
 |k+2,ih,hk =>
  have H:=ih (k+1) (by omega);generalize hr:divV (k+2) n=res;rw[hr] at hfree;refine ak.ofF Bd.nH rfl (by simp) rfl hfree ?_;refine Fork.mk (fun q=>absurd (q.symm.trans (decide_eq_false (by omega))).symm Bool.false_ne_true) (fun _=>?_);refine Fork.mk (fun q=>absurd (q.symm.trans (decide_eq_false (by omega))).symm Bool.false_ne_true) (fun _=>?_);refine aA.nil 6 24 0 (by rfl) rfl rfl rfl ?_;refine aA.fam 20000 [0,1] (fun i:Nat=>[(7,.int i),(6,.own 9)]) (fun i=>yj [(9,yu (rW k n i).length)]++iH 10000 (fR (rW k n i))) (fun i=>i<=n+1/\(rW k n i).length<=100) (fun i=>n+1-i) 0 (lY 10000 (fun j=>10000+j) (iM [(9,yu 0)] [8])) _ rfl (by decide) (fun _=>rfl) ⟨Nat.zero_le _,Nat.zero_le _⟩ (sR rfl) (.inl rfl) ?_ ?_
  ·refine jX.fam (g:=fun j=>10000+j) [(9,yu 0)] [8] ?_ rfl (Nat.zero_le _) (show 10000+0<=20000 by decide) (fun j o q=>by cases q) (fun j _ o _ q=>by cases q);exact⟨⟨rfl,nofun,rfl,dD (by decide),_,rfl,rfl,rfl,.refl _⟩,trivial⟩
  refine⟨(sR rfl),rfl,?_⟩;rintro i ⟨hi,hL⟩;refine⟨fun h1=>?_,fun h1=>?_⟩
  ·have hi':i<=n:=by have:=of_decide_eq_true h1; omega
   repeat(refine VC.mk (by simp only[okI] at *; first|omega|(simp_all; omega)) ?_)
   rw[show(n:Int)-i=((n-i:Nat):Int) by omega,show((k+2:Nat):Int)-1=((k+1:Nat):Int) by omega];refine ah.pure (H (n-i) (by omega) (by omega)) I7 ?_;by_cases hd:(kN (k+1) (n-i)).length<=100
   ·rw[zK hd];repeat(refine VC.mk (by first|exact id|(intro h; rw[h]; rfl)|(simp only[okI] at *; first|omega|(simp_all; omega))) ?_)
    refine⟨fun h2=>?_,fun h2=>?_⟩
    ·have hf:100<(rW k n i).length+(kN (k+1) (n-i)).length:=by have:=of_decide_eq_true h2; simp only[List.length_map,List.length_range] at this; omega
     conv=>whnf
     rw[<- hr,D8 (abV (i:=i+1) (by omega) (by rw[I5,List.length_append,List.length_map]; exact hf))];exact iW.TU
    ·have hf:(rW k n i).length+(kN (k+1) (n-i)).length<=100:=by have:=of_decide_eq_false h2; simp only[List.length_map,List.length_range] at this; omega
     conv=>whnf
     generalize hT:kN (k+1) (n-i)=TL at hf hd;have hP: ∀ j,j<=TL.length->(rW k n i++(TL.take j).map fun t=>(i:Int)::t).length=(rW k n i).length+j:=fun j hj=>by rw[List.length_append,List.length_map,List.length_take,Nat.min_eq_left hj]
     refine aA.fam 20000 [43,44,7,0,1] (fun j:Nat=>[(45,.int j),(6,.own 9)]) (fun j=>yj [(9,yu (rW k n i++(TL.take j).map fun t=>(i:Int)::t).length)]++iH 10000 (fR (rW k n i++(TL.take j).map fun t=>(i:Int)::t))) (fun j=>j<=TL.length) (fun j=>TL.length-j) 0 (lY 10000 (fun j=>10000+j) (iM [(9,yu (rW k n i++(TL.take 0).map fun t=>(i:Int)::t).length)] [9])) _ rfl (by decide) (fun _=>rfl) (Nat.zero_le _) (sR rfl) (.inl rfl) ?_ ?_
     ·refine jX.Xx 20000 [(9,yu (rW k n i++(TL.take 0).map fun t=>(i:Int)::t).length)] [9] ?_ rfl rfl (Nat.zero_le _) (by rw[gZ,hP 0 (Nat.zero_le _)]; omega) (by decide) jA ?_
      ·rw[show rW k n i++(TL.take 0).map (fun t=>(i:Int)::t)=rW k n i by simp]
       (repeat' (first|refine bQ.lo rfl ?_|refine bQ.hi rfl ?_|exact bQ.nil))
      ·exact⟨⟨rfl,nofun,rfl,dD (by rw[hP 0 (Nat.zero_le _)]; omega),_,rfl,rfl,rfl,by rw[show rW k n i++(TL.take 0).map (fun t=>(i:Int)::t)=rW k n i by simp]; exact jY⟩,trivial⟩
     refine⟨(sR rfl),rfl,?_⟩;rintro j hj;have hPj:=hP j hj;refine⟨fun h3=>?_,fun h3=>?_⟩
     ·have hj':j<TL.length:=by simpa using h3
      have hg:TL.getD j []∈kN (k+1) (n-i):=by rw[hT,getD_some hj']; exact List.getElem_mem hj'
      have hgl:=G9 hg;have hst:(TL.take (j+1)).map (fun t=>(i:Int)::t)=(TL.take j).map (fun t=>(i:Int)::t)++[(i:Int)::TL.getD j []]:=by rw[getD_some hj',List.take_succ_eq_append_getElem hj',List.map_append]; rfl
      refine .mk (by simp only[Rw.rng] at *; first|omega|(simp_all; omega)) ?_;refine adN.one ⟨.inr ?_,?_⟩ ?_
      ·show 0<(TL.getD j []).length; omega
      ·show(1+(TL.getD j []).length)*8<=140737488355328/\1+(TL.getD j []).length<=1152921504606846976; omega
      repeat(refine VC.mk (by first|(show((rV 10000 _).length+(0+1))*24<=140737488355328/\(rV 10000 _).length+(0+1)<=1152921504606846976; rw[pG,hPj]; omega)|(simp only[okI] at *; first|omega|(simp_all; omega))) ?_)
      have hP1:=hP (j+1) hj';rw[hst,<- List.append_assoc] at hP1;refine qN.VW 20000 (j+1) ((rW k n i).length+j) 20008 (fR (rW k n i++(TL.take j).map fun t=>(i:Int)::t)) (fR ((rW k n i++(TL.take j).map fun t=>(i:Int)::t)++[(i:Int)::TL.getD j []])) [(9,yu ((rW k n i).length+j+1))] [20010] (by rw[hst,<- List.append_assoc,hP1]; rfl) hj' (by omega) ?_ rfl rfl rfl (Nat.zero_le _) (by rw[gZ,hP1]; omega) (by rw[gZ,hPj]; omega) (by decide) jA ?_ (V7 hPj) (sR rfl) (sR rfl) ?_
      (repeat' (first|refine bQ.lo rfl ?_|refine bQ.hi rfl ?_|exact bQ.nil))
      ·intro o ho;rw[Qs hPj] at ho;cases ho;exact⟨_,rfl,rfl⟩
      ·exact⟨⟨rfl,nofun,rfl,dD (by omega),_,rfl,rfl,rfl,by rw[hPj]; exact IX⟩,trivial⟩
     ·have hj':j=TL.length:=by have:=of_decide_eq_false h3; omega
      subst hj';rw[List.take_length] at hPj ⊢;have hst:rW k n (i+1)=rW k n i++TL.map fun t=>(i:Int)::t:=by rw[I5,hT]
      refine .mk (by simp only[okI] at *; first|omega|(simp_all; omega)) ?_;refine qN.GY 20000 (i+1) (fR (rW k n i++TL.map fun t=>(i:Int)::t)) [(9,yu (rW k n i++TL.map fun t=>(i:Int)::t).length)] [9] (by rw[hst]) ⟨by omega,by rw[hst,hPj]; omega⟩ (by omega) ?_ rfl rfl (Nat.zero_le _) (by rw[gZ,hPj]; omega) (by decide) jA (sR rfl) (sR rfl) ?_
      (repeat' (first|refine bQ.lo rfl ?_|refine bQ.hi rfl ?_|exact bQ.nil))
      ·exact⟨⟨rfl,nofun,rfl,dD (by rw[hPj]; omega),_,rfl,rfl,rfl,jY⟩,trivial⟩
   ·have hnone:divO (k+1) (n-i)=none:=by unfold divO; rw[if_neg hd]
    rw[D8 hnone];repeat(refine VC.mk (by first|exact id|(intro h; rw[h]; rfl)|(intro h; simp_all; done)) ?_)
    refine Fork.mk (fun _=>?_) (fun q=>absurd (q.symm.trans (rfl)) Bool.false_ne_true);conv=>whnf
    rw[<- hr,D8 (Zt hi' hnone)];exact iW.TU
  ·have hi':i=n+1:=by have:=of_decide_eq_false h1; omega
   subst hi';rw[TR] at hL;conv=>whnf
   rw[<- hr,zK hL];refine iW.Y7 (iW.TT 20000 rfl (by decide) ?_ (by omega))
   (repeat' (first|refine bQ.lo rfl ?_|refine bQ.hi rfl ?_|exact bQ.nil))
def He(n:Nat):List Int:=(List.range n).map fun x:Nat=>(x:Int)
theorem OZ{n:Nat}:He (n+1)=He n++[(n:Int)]:=by simp[He,List.range_succ]
theorem TV{n:Nat}:(He n).length=n:=by simp[He]
theorem aj.agh{h:Hz}{k:Nat}{l:List Int}(e:l=[]):aj (.row 0 false (.ints l)) (.row k true .nil) h:=⟨by
 subst e;show T.sub (fun _=>True) h.ay (.sl 0 false []) (.sl k true [])
 simp[T.sub]⟩
theorem S.ku(p:aI)(r:Rule)(v:Int)(hv:p.values.length<2^20):ak Tryz.prog 84 [.dat (.fV p),.dat (.rule r),.int v] (.row 0 false (.ints (kL p r v))):=by
 refine ak.of Bd.ku (by simp) rfl rfl ?_;repeat(refine VC.mk (by first|exact id|exact fun h=>⟨h,h⟩) ?_)
 refine⟨fun h1=>?_,fun h1=>?_⟩
 ·conv=>whnf
  exact aj.agh (by unfold kL; rw[h1]; rfl)
 repeat(refine VC.mk (by first|exact id|exact fun h=>⟨h,h⟩) ?_)
 refine⟨fun h2=>?_,fun h2=>?_⟩
 ·rw[Bool.and_assoc] at h2;exact aj.agh (by unfold kL; rw[h1,h2]; rfl)
 rw[Bool.and_assoc] at h2;refine⟨fun h3=>?_,fun h3=>?_⟩
 ·conv=>whnf
  exact aj.row (by unfold kL; rw[h1,h2,h3]; rfl)
 refine⟨fun h4=>?_,fun h4=>?_⟩
 ·conv=>whnf
  exact aj.row (by unfold kL; rw[h1,h2,h3,h4]; rfl)
 have hV:kL p r v=He (max 1 p.values.length):=by unfold kL; rw[h1,h2,h3,h4]; rfl
 rw[hV];refine aA.nil 7 3 0 (by rfl) rfl rfl rfl ?_;refine aA.objs 3 [46] (fun i:Nat=>[(47,.int i),(7,.own 2)]) (fun i=>[(2,iY (He i))]) (fun i=>i<=max 1 p.values.length) (fun i=>max 1 p.values.length-i) 0 [38] rfl (by decide) (fun _=>rfl) (Nat.zero_le _) (sR rfl) ⟨dL rfl rfl,trivial⟩ ?_;refine⟨(sR rfl),rfl,?_⟩;rintro i hi;have hl:=@TV i;refine⟨fun h5=>?_,fun h5=>?_⟩
 ·have hi':i<max 1 p.values.length:=by have:=of_decide_eq_true h5; omega
  repeat(refine VC.mk (by first|(show((He i).length+(0+1))*8<=140737488355328/\(He i).length+(0+1)<=1152921504606846976; omega)|(simp only[okI] at *; omega)) ?_)
  exact⟨i+1,[9],hi',by omega,(sR rfl),(sR rfl),⟨rfl,nofun,rfl,rfl,rfl,_,rfl,rfl,rfl,dP.of_eq (by rw[OZ])⟩,trivial⟩
 ·have hi':i=max 1 p.values.length:=by have:=of_decide_eq_false h5; omega
  subst hi';exact aj.acY rfl
theorem S.xW(p:aI)(r:Rule)(v:Int)(hv:p.values.length<2^20)(hw:0<=r.write->0<p.values.length):ak Tryz.prog 89 [.dat (.fV p),.dat (.rule r),.int v] (.row 0 false (.ints (kL p r v))):=by
 refine ak.of Bd.xW (by simp) rfl rfl ?_;repeat(refine VC.mk (by first|exact id|exact fun h=>⟨h,h⟩|(intro h; rw[h]; rfl)|(intro h; simp_all; done)) ?_)
 refine⟨fun h1=>?_,fun h1=>?_⟩
 ·conv=>whnf
  exact aj.agh (by
   unfold kL;replace h1:((decide (0<=r.write)&&r.write !=v)||(decide (r.write<0)&&decide (0<=r.read)&&r.read !=v))=true:=h1;rw[Bool.and_assoc (decide (r.write<0)),Bool.or_eq_true] at h1;rcases h1 with h1|h1
   ·rw[h1]; rfl
   ·rw[h1]; cases (decide (0<=r.write)&&r.write !=v)<;>rfl)
 replace h1:((decide (0<=r.write)&&r.write !=v)||(decide (r.write<0)&&decide (0<=r.read)&&r.read !=v))=false:=h1;rw[Bool.and_assoc (decide (r.write<0)),Bool.or_eq_false_iff] at h1;obtain⟨h1,h2⟩:=h1;refine⟨fun h3=>?_,fun h3=>?_⟩
 ·conv=>whnf
  exact aj.row (by unfold kL; rw[h1,h2,h3]; rfl)
 refine⟨fun h4=>?_,fun h4=>?_⟩
 ·conv=>whnf
  exact aj.row (by unfold kL; rw[h1,h2,h3,h4]; rfl)
 have hp:=hw (by have:=of_decide_eq_false h4; omega);have hV:kL p r v=He p.values.length:=by unfold kL; rw[h1,h2,h3,h4]; show He (max 1 p.values.length)=_; rw[show max 1 p.values.length=p.values.length by omega]
 rw[hV];refine aA.nil 7 3 0 (by rfl) rfl rfl rfl ?_;refine aA.objs 3 [3] (fun i:Nat=>[(8,.int i),(7,.own 2)]) (fun i=>[(0,.box 27 11 (.dat (.fV p))),(2,iY (He i))]) (fun i=>i<=p.values.length) (fun i=>p.values.length-i) 0 [0,36] rfl (by decide) (fun _=>rfl) (Nat.zero_le _) (sR rfl) ⟨dL rfl rfl,dL rfl rfl,trivial⟩ ?_;refine⟨(sR rfl),rfl,?_⟩;rintro i hi;have hl:=@TV i;refine⟨fun h5=>?_,fun h5=>?_⟩
 ·have hi':i<p.values.length:=by simpa using h5
  repeat(refine VC.mk (by first|(show((He i).length+(0+1))*8<=140737488355328/\(He i).length+(0+1)<=1152921504606846976; omega)|(simp only[okI] at *; omega)) ?_)
  exact⟨i+1,[0,11],hi',by omega,(sR rfl),(sR rfl),dL rfl rfl,⟨rfl,nofun,rfl,rfl,rfl,_,rfl,rfl,rfl,dP.of_eq (by rw[OZ])⟩,trivial⟩
 ·have hi':i=p.values.length:=by have:=of_decide_eq_false h5; omega
  subst hi';exact aj.acY rfl
theorem ae8:Y6 V.own:=⟨fun _ _=>rfl,fun _=>rfl⟩
theorem abW(b:Bool):Y6 fun n=>.dW [.own n,.bool b]:=⟨fun _ _=>rfl,fun _=>⟨rfl,trivial,trivial⟩⟩
theorem Kq{R:List (List Int)}: ∀ o∈R.map iY,o.Dz=true/\o.good 0=true:=by
 intro o ho;obtain⟨c,_,rfl⟩:=List.mem_map.1 ho;exact⟨rfl,rfl⟩
theorem TW{R:List (List Int)}:(R.map iY).map some=fR R:=by rw[List.map_map]; rfl
theorem Qq.fam{tv:Nat->V}{h:Hz}{i:Nat}{R:List (List Int)}(C:Nat)(hi:h.get i=some (yu R.length))(hb:i<10000)(q:bQ 10000 C (iH 10000 (fR R)) h)(hC:10000+R.length<=C):Qq tv 24 (R.map iY) (tv i) h :=
 ⟨i,fun j=>10000+j,_,rfl,hi,rfl,rfl,by rw[List.length_map]; exact lZ,fun j hj=>by
  rw[List.length_map] at hj
  exact⟨by show 10000+j≠i; omega,_,iY (R.getD j []),q.get (by rw[gZ]; exact hC) (MJ hj),by rw[List.getElem?_map,List.getElem?_eq_getElem hj,getD_some hj]; rfl,rfl⟩,fun i j _ _ e=>by replace e:10000+i=10000+j:=e; omega⟩
theorem jE{c:List Int}(h:NM c)(j:Nat):0<=c.getD j 0/\c.getD j 0<=1048576:=by
 rcases Nat.lt_or_ge j c.length with hj|hj
 ·rw[getD_some hj]; exact h _ (List.getElem_mem hj)
 ·simp[List.getD_eq_getElem?_getD,List.getElem?_eq_none hj]
theorem S.Qu(r:Rule)(c:List Int)(hr:vG r)(hc:c.length<2^30)(h:qV r c=true):aP Tryz.prog 120 (V.aU [.dat (.rule r),.own 0]) (Hz.ay [(0,some (iY c))]) 1 (fun t hp=>t= .own 1/\hp=Hz.ay [(0,some (iY c)),(1,some (.gen 24 0 [.inn 0]))]):=by
 refine oL.of (h0:=[(0,some (iY c))]) (nx:=1) Bd.oO (by simp) ⟨_,_,rfl,rfl⟩ rfl rfl ?_;refine ah.lend (S.nY r c false hr (by omega)) ⟨aC _,AX trivial rfl,trivial⟩ rfl rfl ?_;refine Fork.mk (fun _=>?_) (fun q=>absurd (q.symm.trans (h)) Bool.false_ne_true);exact iP.wrap rfl rfl rfl rfl (by decide) rfl rfl rfl ⟨rfl,rfl⟩
def Dl(r:Rule)(c:List Int)(i:Nat):List (List Int):=(r.ex.take i).map fun x=>aT c x 1
theorem MK{r:Rule}{c:List Int}{i:Nat}(h:i<=r.ex.length):(Dl r c i).length=i:=by simp[Dl,Nat.min_eq_left h]
theorem O1{r:Rule}{c:List Int}{i:Nat}(h:i<r.ex.length):Dl r c (i+1)=Dl r c i++[aT c (r.ex.getD i 0) 1]:=by
 unfold Dl;rw[List.take_succ_eq_append_getElem h,List.map_append,getD_some h]; rfl
theorem S.Qv(r:Rule)(c:List Int)(f:Bool)(hr:vG r)(hc:c.length<2^30)(hx:qU c.length r.ex)(hl:r.ex.length<=100)(h0:NM c)(h:qV r c=false):Dc Tryz.prog 120 [.dat (.rule r),.row 0 f (.ints c)] V.own 24 ((r.ex.map fun x=>aT c x 1).map iY):=by
 refine Dc.of Bd.oO (by simp) rfl ae8 Kq ?_;refine ah.pure (S.nY r c f hr (by omega)) rfl ?_;refine Fork.mk (fun q=>absurd (q.symm.trans (h)).symm Bool.false_ne_true) (fun _=>?_);refine aA.nil 5 24 0 (by rfl) rfl rfl rfl ?_;refine aA.fam 20000 [15,16,1] (fun i:Nat=>[(17,.int i),(5,.own 9)]) (fun i=>yj [(9,yu (Dl r c i).length)]++iH 10000 (fR (Dl r c i))) (fun i=>i<=r.ex.length) (fun i=>r.ex.length-i) 0 (lY 10000 (fun j=>10000+j) (iM [(9,yu 0)] [10])) _ rfl (by decide) (fun _=>rfl) (Nat.zero_le _) (sR rfl) (.inl rfl) ?_ ?_
 ·refine jX.fam (g:=fun j=>10000+j) [(9,yu 0)] [10] ?_ rfl (Nat.zero_le _) (show 10000+0<=20000 by decide) (fun j o q=>by cases q) (fun j _ o _ q=>by cases q);exact⟨⟨rfl,nofun,rfl,dD (by decide),_,rfl,rfl,rfl,.refl _⟩,trivial⟩
 refine⟨(sR rfl),rfl,?_⟩;rintro i hi;have hw:=MK (c:=c) hi;refine⟨fun h1=>?_,fun h1=>?_⟩
 ·have hi':i<r.ex.length:=by simpa using h1
  have hpl:=hx (r.ex.getD i 0) (by rw[getD_some hi']; exact List.getElem_mem hi');have hst:=O1 (c:=c) hi';have hP1:=MK (c:=c) hi';have hv:=jE h0 (r.ex.getD ((i:Int)).toNat 0).toNat;repeat(refine VC.mk (by first|(first|(simp only[Rw.rng]; omega)|(simp only[jH,jP,Rw.len]; omega)|(simp only[okI]; omega)|(show((rV 10000 _).length+(0+1))*24<=140737488355328/\(rV 10000 _).length+(0+1)<=1152921504606846976; rw[pG,hw]; omega))|(simp only[Rw.rng] at *; first|omega|(simp_all; done)|(simp_all; omega))) ?_)
  refine qN.VW 20000 (i+1) i 20005 (fR (Dl r c i)) (fR (Dl r c i++[aT c (r.ex.getD i 0) 1])) [(9,yu (i+1))] [20017] (by rw[hP1,hst]) hi' (by omega) ?_ rfl rfl rfl (Nat.zero_le _) (by rw[gZ,<- hst,hP1]; omega) (by rw[gZ,hw]; omega) (by decide) jA ?_ (V7 hw) (sR rfl) (sR rfl) ?_
  (repeat' (first|refine bQ.lo rfl ?_|refine bQ.hi rfl ?_|exact bQ.nil))
  ·intro o ho;rw[Qs hw] at ho;cases ho;exact⟨_,rfl,rfl⟩
  ·exact⟨⟨rfl,nofun,rfl,dD (by omega),_,rfl,rfl,rfl,by rw[hw]; exact IX⟩,trivial⟩
 ·have hi':i=r.ex.length:=by have:=of_decide_eq_false h1; omega
  subst hi';have hall:Dl r c r.ex.length=r.ex.map fun x=>aT c x 1:=by unfold Dl; rw[List.take_length]
  conv=>whnf
  rw[hall] at hw ⊢;refine Qq.fam 20000 rfl (by decide) ?_ (by omega)
  (repeat' (first|refine bQ.lo rfl ?_|refine bQ.hi rfl ?_|exact bQ.nil))
end Go.Proofs.YtkmldgihhaooaaaGreatDoor
