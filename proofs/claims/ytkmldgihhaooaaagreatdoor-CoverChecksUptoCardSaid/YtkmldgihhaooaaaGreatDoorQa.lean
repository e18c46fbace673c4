/-
 Families of rows of numbers; all ways to divide. No condition.
-/
import Derived.Test.YtkmldgihhaooaaaGreatDoorPa
import Derived.Test.YtkmldgihhaooaaaGreatDoorGa
import Derived.Test.YtkmldgihhaooaaaGreatDoorFa
import Derived.Test.YtkmldgihhaooaaaGreatDoorLg
namespace Go.Proofs.YtkmldgihhaooaaaGreatDoor
open Go.Ab Go.Proofs
set_option maxRecDepth 100000
theorem getD_some{α:Type}{l:List α}{i:Nat}{d:α}(h:i<l.length):l.getD i d=l[i]:=by simp[h]
abbrev fR(R:List (List Int)):List (Option OV):=R.map fun r=>some (iV r)
abbrev yw(k:Nat):OV:=CU 24 10000 k
theorem gY{R:List (List Int)}:(fR R).length=R.length:=List.length_map _
theorem jv{R:List (List Int)}{nx:Nat}: ∀ o,some o∈fR R->o.good nx=true/\o.Dl=true:=by
 intro o h;obtain⟨r,_,e⟩:=List.mem_map.1 h;cases e;exact⟨rfl,rfl⟩
theorem LZ{R:List (List Int)}{j:Nat}(h:j<R.length):(fR R)[j]? =some (some (iV (R.getD j []))):=by
 rw[List.getElem?_map,List.getElem?_eq_getElem h,getD_some h]; rfl
theorem Ql{R:List (List Int)}{r:List Int}{a:Nat}(h:R.length=a):(fR (R++[r]))[a]? =some (some (iV r)):=by
 subst h;rw[List.getElem?_map,List.getElem?_append_right (Nat.le_refl _),Nat.sub_self]; rfl
theorem VR{R:List (List Int)}{r:List Int}{a:Nat}(h:R.length=a): ∀ j o,j≠a->(fR (R++[r]))[j]? =some (some o)->(fR R)[j]? =some (some o):=by
 intro j o hj q;rcases Nat.lt_or_ge j R.length with hl|hl
 ·rw[List.getElem?_map,List.getElem?_append_left hl] at q; rw[List.getElem?_map]; exact q
 ·rw[List.getElem?_map,List.getElem?_eq_none (by rw[List.length_append]; simp only[List.length_singleton]; omega)] at q; cases q
theorem iU.rows{h:Hz}{i:Nat}{R:List (List Int)}{o:OV}{g:Nat->Nat}(hi:h.get i=some o)(e1:o.au.ty=24)(e2:o.au.k=0)(e3:o.au.l=(List.range R.length).map fun j=>T.own (g j))
  (hg: ∀ j,j<R.length->g j≠i/\ ∃ o',h.get (g j)=some o'/\o'.au=(iV (R.getD j [])).au):iU (.row 0 false (.bH R)) (.own i) h:=by
 refine iU.nest (R:=R.map Rw.ints) (ty:=3) (k:=0) ?_ ?_ ?_ (by decide) hi e1 e2 (by rw[List.length_map]; exact e3) fun j hj=>?_
 ·show R.map Go.Ab.ints=_;rw[List.map_map]; rfl
 ·rw[fU]; intro t ht; obtain⟨x,_,rfl⟩:=List.mem_map.1 ht; rfl
 ·intro x hx;obtain⟨y,_,rfl⟩:=List.mem_map.1 hx;rw[fU]; intro t ht; obtain⟨x,_,rfl⟩:=List.mem_map.1 ht; rfl
 ·rw[List.length_map] at hj;obtain⟨q1,o',q2,q3⟩:=hg j hj;refine⟨q1,o',_,q2,by rw[List.getElem?_map,List.getElem?_eq_getElem hj]; rfl,?_⟩;rw[q3,getD_some hj];simp[OV.au,V.aT]
theorem iU.TF{h:Hz}{i:Nat}{R:List (List Int)}(C:Nat)(hi:h.get i=some (yw R.length))(hb:i<10000)(q:bQ 10000 C (iG 10000 (fR R)) h)(hC:10000+R.length<=C):iU (.row 0 false (.bH R)) (.own i) h:=by
 refine iU.rows (g:=fun j=>10000+j) hi rfl rfl lU fun j hj=>⟨by omega,_,q.get (by rw[gY]; exact hC) (LZ hj),rfl⟩
theorem iU.TG{b:Bool}{k:Nat}{h:Hz}:iU (.eX [.row 0 false (.bH []),.bool b]) (.eX [.row k true .nil,.bool b]) h :=
 ⟨[],⟨fun _=>False,trivial⟩,by
  show T.sub _ _ (.eX [.sl 0 false [],(V.bool b).aH]) (.eX [.sl k true [],(V.bool b).aH]);simp only[T.sub,T.dD]
  exact⟨⟨.inl trivial,.inr trivial,fun h=>by cases h⟩,aF _,trivial⟩⟩
theorem iU.one{h:Hz}{i:Nat}{l:List Int}(hi:h.get i=some (.row 24 0 .nil [.row 0 true (.ints l)])):iU (.row 0 false (.bH [l])) (.own i) h:=by
 have hf:T.bW [Go.Ab.ints l]=true:=rfl;refine⟨[(i,some (.row 24 0 (.bH [l]) []))],⟨fun c=>c≠i,⟨_,hi,fun h=>h rfl,rfl,rfl,?_,rfl,rfl⟩,trivial⟩,?_⟩
 ·show T.dD _ _ [.sl 0 false (l.map T.int)] [.sl 0 true (l.map T.int)];simp only[T.sub,T.dD];exact⟨⟨.inl trivial,.inl trivial,fun h=>by cases h⟩,trivial⟩
 ·show T.sub _ _ (.sl 0 false [Go.Ab.ints l]) (.own i);simp only[T.sub];exact⟨trivial,trivial,hf,by decide,24,by simp[Hz.ay,Hz.get,OV.au,Rw.aT,V.aT]⟩
def divV(k n:Nat):V:=match divO k n with
 |some L=>.eX [.row 0 false (.bH L),.bool true]
 |none=>.eX [.row 0 false (.bH []),.bool false]
theorem IL{k n:Nat}:(divV k n).free=true:=by unfold divV; split<;>rfl
theorem DU{k n:Nat}(h:divO k n=none):divV k n= .eX [.row 0 false (.bH []),.bool false]:=by unfold divV; rw[h]
theorem zG{k n:Nat}(h:(kL k n).length<=100):divV k n= .eX [.row 0 false (.bH (kL k n)),.bool true]:=by unfold divV divO; rw[if_pos h]
set_option maxHeartbeats 1000000 in
theorem S.ng: ∀ (k n:Nat),k<=2^20->n<=2^21->aj Tryz.prog 139 [.int n,.int k] (divV k n):=by
 intro k;induction k using Nat.strongRecOn with
 |ind k ih =>
 intro n hk hn;have hfree:=@IL k n;match k,ih,hk with
 |0,_,_ =>
  have hres:divV 0 n= .eX [.row 0 false (.bH []),.bool true]:=zG (Nat.zero_le _);rw[hres];refine aj.ofF Bd.ng rfl (by simp) rfl rfl ?_;refine Fork.mk (fun _=>?_) (fun q=>absurd (q.symm.trans (rfl)) Bool.false_ne_true);exact iU.TG
 |1,_,_ =>
  have hres:divV 1 n= .eX [.row 0 false (.bH [[(n:Int)]]),.bool true]:=zG (by simp[kL]);rw[hres];refine aj.ofF Bd.ng rfl (by simp) rfl rfl ?_;refine Fork.mk (fun q=>absurd (q.symm.trans (rfl)).symm Bool.false_ne_true) (fun _=>?_);refine Fork.mk (fun _=>?_) (fun q=>absurd (q.symm.trans (rfl)) Bool.false_ne_true);exact iU.YM (iU.one rfl)
 |k+2,ih,hk =>
  have H:=ih (k+1) (by omega);generalize hr:divV (k+2) n=res;rw[hr] at hfree;refine aj.ofF Bd.ng rfl (by simp) rfl hfree ?_;refine Fork.mk (fun q=>absurd (q.symm.trans (decide_eq_false (by omega))).symm Bool.false_ne_true) (fun _=>?_);refine Fork.mk (fun q=>absurd (q.symm.trans (decide_eq_false (by omega))).symm Bool.false_ne_true) (fun _=>?_);refine aA.nil 6 24 0 (by rfl) rfl rfl rfl ?_;refine aA.fam 20000 [0,1] (fun i:Nat=>[(7,.int i),(6,.own 9)]) (fun i=>yt [(9,yw (rP k n i).length)]++iG 10000 (fR (rP k n i))) (fun i=>i<=n+1/\(rP k n i).length<=100) (fun i=>n+1-i) 0 (lS 10000 (fun j=>10000+j) (iL [(9,yw 0)] [8])) _ rfl (by decide) (fun _=>rfl) ⟨Nat.zero_le _,Nat.zero_le _⟩ (sR rfl) (.inl rfl) ?_ ?_
  ·refine jX.fam (g:=fun j=>10000+j) [(9,yw 0)] [8] ?_ rfl (Nat.zero_le _) (show 10000+0<=20000 by decide) (fun j o q=>by cases q) (fun j _ o _ q=>by cases q);exact⟨⟨rfl,nofun,rfl,dw (by decide),_,rfl,rfl,rfl,.refl _⟩,trivial⟩
  refine⟨(sR rfl),rfl,?_⟩;rintro i ⟨hi,hL⟩;refine⟨fun h1=>?_,fun h1=>?_⟩
  ·have hi':i<=n:=by have:=of_decide_eq_true h1; omega
   repeat(refine VC.mk (by simp only[okI] at *; first|omega|(simp_all; omega)) ?_)
   rw[show(n:Int)-i=((n-i:Nat):Int) by omega,show((k+2:Nat):Int)-1=((k+1:Nat):Int) by omega];refine ah.pure (H (n-i) (by omega) (by omega)) IL ?_;by_cases hd:(kL (k+1) (n-i)).length<=100
   ·rw[zG hd];repeat(refine VC.mk (by first|exact id|(intro h; rw[h]; rfl)|(simp only[okI] at *; first|omega|(simp_all; omega))) ?_)
    refine⟨fun h2=>?_,fun h2=>?_⟩
    ·have hf:100<(rP k n i).length+(kL (k+1) (n-i)).length:=by have:=of_decide_eq_true h2; simp only[List.length_map,List.length_range] at this; omega
     conv=>whnf
     rw[<- hr,DU (abH (i:=i+1) (by omega) (by rw[IK,List.length_append,List.length_map]; exact hf))];exact iU.TG
    ·have hf:(rP k n i).length+(kL (k+1) (n-i)).length<=100:=by have:=of_decide_eq_false h2; simp only[List.length_map,List.length_range] at this; omega
     conv=>whnf
     generalize hT:kL (k+1) (n-i)=TL at hf hd;have hP: ∀ j,j<=TL.length->(rP k n i++(TL.take j).map fun t=>(i:Int)::t).length=(rP k n i).length+j:=fun j hj=>by rw[List.length_append,List.length_map,List.length_take,Nat.min_eq_left hj]
     refine aA.fam 20000 [43,44,7,0,1] (fun j:Nat=>[(45,.int j),(6,.own 9)]) (fun j=>yt [(9,yw (rP k n i++(TL.take j).map fun t=>(i:Int)::t).length)]++iG 10000 (fR (rP k n i++(TL.take j).map fun t=>(i:Int)::t))) (fun j=>j<=TL.length) (fun j=>TL.length-j) 0 (lS 10000 (fun j=>10000+j) (iL [(9,yw (rP k n i++(TL.take 0).map fun t=>(i:Int)::t).length)] [9])) _ rfl (by decide) (fun _=>rfl) (Nat.zero_le _) (sR rfl) (.inl rfl) ?_ ?_
     ·refine jX.Xj 20000 [(9,yw (rP k n i++(TL.take 0).map fun t=>(i:Int)::t).length)] [9] ?_ rfl rfl (Nat.zero_le _) (by rw[gY,hP 0 (Nat.zero_le _)]; omega) (by decide) jv ?_
      ·rw[show rP k n i++(TL.take 0).map (fun t=>(i:Int)::t)=rP k n i by simp]
       (repeat' (first|refine bQ.lo rfl ?_|refine bQ.hi rfl ?_|exact bQ.nil))
      ·exact⟨⟨rfl,nofun,rfl,dw (by rw[hP 0 (Nat.zero_le _)]; omega),_,rfl,rfl,rfl,by rw[show rP k n i++(TL.take 0).map (fun t=>(i:Int)::t)=rP k n i by simp]; exact jY⟩,trivial⟩
     refine⟨(sR rfl),rfl,?_⟩;rintro j hj;have hPj:=hP j hj;refine⟨fun h3=>?_,fun h3=>?_⟩
     ·have hj':j<TL.length:=by simpa using h3
      have hg:TL.getD j []∈kL (k+1) (n-i):=by rw[hT,getD_some hj']; exact List.getElem_mem hj'
      have hgl:=GK hg;have hst:(TL.take (j+1)).map (fun t=>(i:Int)::t)=(TL.take j).map (fun t=>(i:Int)::t)++[(i:Int)::TL.getD j []]:=by rw[getD_some hj',List.take_succ_eq_append_getElem hj',List.map_append]; rfl
      refine .mk (by simp only[Rw.rng] at *; first|omega|(simp_all; omega)) ?_;refine adz.one ⟨.inr ?_,?_⟩ ?_
      ·show 0<(TL.getD j []).length; omega
      ·show(1+(TL.getD j []).length)*8<=140737488355328/\1+(TL.getD j []).length<=1152921504606846976; omega
      repeat(refine VC.mk (by first|(show((rO 10000 _).length+(0+1))*24<=140737488355328/\(rO 10000 _).length+(0+1)<=1152921504606846976; rw[o9,hPj]; omega)|(simp only[okI] at *; first|omega|(simp_all; omega))) ?_)
      have hP1:=hP (j+1) hj';rw[hst,<- List.append_assoc] at hP1;refine qL.VI 20000 (j+1) ((rP k n i).length+j) 20008 (fR (rP k n i++(TL.take j).map fun t=>(i:Int)::t)) (fR ((rP k n i++(TL.take j).map fun t=>(i:Int)::t)++[(i:Int)::TL.getD j []])) [(9,yw ((rP k n i).length+j+1))] [20010] (by rw[hst,<- List.append_assoc,hP1]; rfl) hj' (by omega) ?_ rfl rfl rfl (Nat.zero_le _) (by rw[gY,hP1]; omega) (by rw[gY,hPj]; omega) (by decide) jv ?_ (VR hPj) (sR rfl) (sR rfl) ?_
      (repeat' (first|refine bQ.lo rfl ?_|refine bQ.hi rfl ?_|exact bQ.nil))
      ·intro o ho;rw[Ql hPj] at ho;cases ho;exact⟨_,rfl,rfl⟩
      ·exact⟨⟨rfl,nofun,rfl,dw (by omega),_,rfl,rfl,rfl,by rw[hPj]; exact IE⟩,trivial⟩
     ·have hj':j=TL.length:=by have:=of_decide_eq_false h3; omega
      subst hj';rw[List.take_length] at hPj ⊢;have hst:rP k n (i+1)=rP k n i++TL.map fun t=>(i:Int)::t:=by rw[IK,hT]
      refine .mk (by simp only[okI] at *; first|omega|(simp_all; omega)) ?_;refine qL.Gx 20000 (i+1) (fR (rP k n i++TL.map fun t=>(i:Int)::t)) [(9,yw (rP k n i++TL.map fun t=>(i:Int)::t).length)] [9] (by rw[hst]) ⟨by omega,by rw[hst,hPj]; omega⟩ (by omega) ?_ rfl rfl (Nat.zero_le _) (by rw[gY,hPj]; omega) (by decide) jv (sR rfl) (sR rfl) ?_
      (repeat' (first|refine bQ.lo rfl ?_|refine bQ.hi rfl ?_|exact bQ.nil))
      ·exact⟨⟨rfl,nofun,rfl,dw (by rw[hPj]; omega),_,rfl,rfl,rfl,jY⟩,trivial⟩
   ·have hnone:divO (k+1) (n-i)=none:=by unfold divO; rw[if_neg hd]
    rw[DU hnone];repeat(refine VC.mk (by first|exact id|(intro h; rw[h]; rfl)|(intro h; simp_all; done)) ?_)
    refine Fork.mk (fun _=>?_) (fun q=>absurd (q.symm.trans (rfl)) Bool.false_ne_true);conv=>whnf
    rw[<- hr,DU (Za hi' hnone)];exact iU.TG
  ·have hi':i=n+1:=by have:=of_decide_eq_false h1; omega
   subst hi';rw[TB] at hL;conv=>whnf
   rw[<- hr,zG hL];refine iU.YM (iU.TF 20000 rfl (by decide) ?_ (by omega))
   (repeat' (first|refine bQ.lo rfl ?_|refine bQ.hi rfl ?_|exact bQ.nil))
def GL(n:Nat):List Int:=(List.range n).map fun x:Nat=>(x:Int)
theorem OL{n:Nat}:GL (n+1)=GL n++[(n:Int)]:=by simp[GL,List.range_succ]
theorem TI{n:Nat}:(GL n).length=n:=by simp[GL]
theorem ak.afY{h:Hz}{k:Nat}{l:List Int}(e:l=[]):ak (.row 0 false (.ints l)) (.row k true .nil) h:=⟨by
 subst e;show T.sub (fun _=>True) h.ay (.sl 0 false []) (.sl k true [])
 simp[T.sub]⟩
theorem S.ku(p:aJ)(r:Rule)(v:Int)(hv:p.values.length<2^20):aj Tryz.prog 84 [.dat (.fQ p),.dat (.rule r),.int v] (.row 0 false (.ints (kK p r v))):=by
 refine aj.of Bd.ku (by simp) rfl rfl ?_;repeat(refine VC.mk (by first|exact id|exact fun h=>⟨h,h⟩) ?_)
 refine⟨fun h1=>?_,fun h1=>?_⟩
 ·conv=>whnf
  exact ak.afY (by unfold kK; rw[h1]; rfl)
 repeat(refine VC.mk (by first|exact id|exact fun h=>⟨h,h⟩) ?_)
 refine⟨fun h2=>?_,fun h2=>?_⟩
 ·rw[Bool.and_assoc] at h2;exact ak.afY (by unfold kK; rw[h1,h2]; rfl)
 rw[Bool.and_assoc] at h2;refine⟨fun h3=>?_,fun h3=>?_⟩
 ·conv=>whnf
  exact ak.row (by unfold kK; rw[h1,h2,h3]; rfl)
 refine⟨fun h4=>?_,fun h4=>?_⟩
 ·conv=>whnf
  exact ak.row (by unfold kK; rw[h1,h2,h3,h4]; rfl)
 have hV:kK p r v=GL (max 1 p.values.length):=by unfold kK; rw[h1,h2,h3,h4]; rfl
 rw[hV];refine aA.nil 7 3 0 (by rfl) rfl rfl rfl ?_;refine aA.objs 3 [46] (fun i:Nat=>[(47,.int i),(7,.own 2)]) (fun i=>[(2,iV (GL i))]) (fun i=>i<=max 1 p.values.length) (fun i=>max 1 p.values.length-i) 0 [38] rfl (by decide) (fun _=>rfl) (Nat.zero_le _) (sR rfl) ⟨dQ rfl rfl,trivial⟩ ?_;refine⟨(sR rfl),rfl,?_⟩;rintro i hi;have hl:=@TI i;refine⟨fun h5=>?_,fun h5=>?_⟩
 ·have hi':i<max 1 p.values.length:=by have:=of_decide_eq_true h5; omega
  repeat(refine VC.mk (by first|(show((GL i).length+(0+1))*8<=140737488355328/\(GL i).length+(0+1)<=1152921504606846976; omega)|(simp only[okI] at *; omega)) ?_)
  exact⟨i+1,[9],hi',by omega,(sR rfl),(sR rfl),⟨rfl,nofun,rfl,rfl,rfl,_,rfl,rfl,rfl,dU.of_eq (by rw[OL])⟩,trivial⟩
 ·have hi':i=max 1 p.values.length:=by have:=of_decide_eq_false h5; omega
  subst hi';exact ak.ZR rfl
theorem S.xU(p:aJ)(r:Rule)(v:Int)(hv:p.values.length<2^20)(hw:0<=r.write->0<p.values.length):aj Tryz.prog 89 [.dat (.fQ p),.dat (.rule r),.int v] (.row 0 false (.ints (kK p r v))):=by
 refine aj.of Bd.xU (by simp) rfl rfl ?_;repeat(refine VC.mk (by first|exact id|exact fun h=>⟨h,h⟩|(intro h; rw[h]; rfl)|(intro h; simp_all; done)) ?_)
 refine⟨fun h1=>?_,fun h1=>?_⟩
 ·conv=>whnf
  exact ak.afY (by
   unfold kK;replace h1:((decide (0<=r.write)&&r.write !=v)||(decide (r.write<0)&&decide (0<=r.read)&&r.read !=v))=true:=h1;rw[Bool.and_assoc (decide (r.write<0)),Bool.or_eq_true] at h1;rcases h1 with h1|h1
   ·rw[h1]; rfl
   ·rw[h1]; cases (decide (0<=r.write)&&r.write !=v)<;>rfl)
 replace h1:((decide (0<=r.write)&&r.write !=v)||(decide (r.write<0)&&decide (0<=r.read)&&r.read !=v))=false:=h1;rw[Bool.and_assoc (decide (r.write<0)),Bool.or_eq_false_iff] at h1;obtain⟨h1,h2⟩:=h1;refine⟨fun h3=>?_,fun h3=>?_⟩
 ·conv=>whnf
  exact ak.row (by unfold kK; rw[h1,h2,h3]; rfl)
 refine⟨fun h4=>?_,fun h4=>?_⟩
 ·conv=>whnf
  exact ak.row (by unfold kK; rw[h1,h2,h3,h4]; rfl)
 have hp:=hw (by have:=of_decide_eq_false h4; omega);have hV:kK p r v=GL p.values.length:=by unfold kK; rw[h1,h2,h3,h4]; show GL (max 1 p.values.length)=_; rw[show max 1 p.values.length=p.values.length by omega]
 rw[hV];refine aA.nil 7 3 0 (by rfl) rfl rfl rfl ?_;refine aA.objs 3 [3] (fun i:Nat=>[(8,.int i),(7,.own 2)]) (fun i=>[(0,.box 27 11 (.dat (.fQ p))),(2,iV (GL i))]) (fun i=>i<=p.values.length) (fun i=>p.values.length-i) 0 [0,36] rfl (by decide) (fun _=>rfl) (Nat.zero_le _) (sR rfl) ⟨dQ rfl rfl,dQ rfl rfl,trivial⟩ ?_;refine⟨(sR rfl),rfl,?_⟩;rintro i hi;have hl:=@TI i;refine⟨fun h5=>?_,fun h5=>?_⟩
 ·have hi':i<p.values.length:=by simpa using h5
  repeat(refine VC.mk (by first|(show((GL i).length+(0+1))*8<=140737488355328/\(GL i).length+(0+1)<=1152921504606846976; omega)|(simp only[okI] at *; omega)) ?_)
  exact⟨i+1,[0,11],hi',by omega,(sR rfl),(sR rfl),dQ rfl rfl,⟨rfl,nofun,rfl,rfl,rfl,_,rfl,rfl,rfl,dU.of_eq (by rw[OL])⟩,trivial⟩
 ·have hi':i=p.values.length:=by have:=of_decide_eq_false h5; omega
  subst hi';exact ak.ZR rfl
theorem aeU:YL V.own:=⟨fun _ _=>rfl,fun _=>rfl⟩
theorem abI(b:Bool):YL fun n=>.eX [.own n,.bool b]:=⟨fun _ _=>rfl,fun _=>⟨rfl,trivial,trivial⟩⟩
theorem JW{R:List (List Int)}: ∀ o∈R.map iV,o.Dl=true/\o.good 0=true:=by
 intro o ho;obtain⟨c,_,rfl⟩:=List.mem_map.1 ho;exact⟨rfl,rfl⟩
theorem TJ{R:List (List Int)}:(R.map iV).map some=fR R:=by rw[List.map_map]; rfl
theorem Qj.fam{tv:Nat->V}{h:Hz}{i:Nat}{R:List (List Int)}(C:Nat)(hi:h.get i=some (yw R.length))(hb:i<10000)(q:bQ 10000 C (iG 10000 (fR R)) h)(hC:10000+R.length<=C):Qj tv 24 (R.map iV) (tv i) h :=
 ⟨i,fun j=>10000+j,_,rfl,hi,rfl,rfl,by rw[List.length_map]; exact lU,fun j hj=>by
  rw[List.length_map] at hj
  exact⟨by show 10000+j≠i; omega,_,iV (R.getD j []),q.get (by rw[gY]; exact hC) (LZ hj),by rw[List.getElem?_map,List.getElem?_eq_getElem hj,getD_some hj]; rfl,rfl⟩,fun i j _ _ e=>by replace e:10000+i=10000+j:=e; omega⟩
theorem jC{c:List Int}(h:Nw c)(j:Nat):0<=c.getD j 0/\c.getD j 0<=1048576:=by
 rcases Nat.lt_or_ge j c.length with hj|hj
 ·rw[getD_some hj]; exact h _ (List.getElem_mem hj)
 ·simp[List.getD_eq_getElem?_getD,List.getElem?_eq_none hj]
theorem S.Qm(r:Rule)(c:List Int)(hr:vg r)(hc:c.length<2^30)(h:qR r c=true):aO Tryz.prog 120 (V.aT [.dat (.rule r),.own 0]) (Hz.ay [(0,some (iV c))]) 1 (fun t hp=>t= .own 1/\hp=Hz.ay [(0,some (iV c)),(1,some (.gen 24 0 [.inn 0]))]):=by
 refine oU.of (h0:=[(0,some (iV c))]) (nx:=1) Bd.oH (by simp) ⟨_,_,rfl,rfl⟩ rfl rfl ?_;refine ah.lend (S.nR r c false hr (by omega)) ⟨aF _,AL trivial rfl,trivial⟩ rfl rfl ?_;refine Fork.mk (fun _=>?_) (fun q=>absurd (q.symm.trans (h)) Bool.false_ne_true);exact iP.wrap rfl rfl rfl rfl (by decide) rfl rfl rfl ⟨rfl,rfl⟩
def Dc(r:Rule)(c:List Int)(i:Nat):List (List Int):=(r.ex.take i).map fun x=>aS c x 1
theorem L6{r:Rule}{c:List Int}{i:Nat}(h:i<=r.ex.length):(Dc r c i).length=i:=by simp[Dc,Nat.min_eq_left h]
theorem OM{r:Rule}{c:List Int}{i:Nat}(h:i<r.ex.length):Dc r c (i+1)=Dc r c i++[aS c (r.ex.getD i 0) 1]:=by
 unfold Dc;rw[List.take_succ_eq_append_getElem h,List.map_append,getD_some h]; rfl
theorem S.Qn(r:Rule)(c:List Int)(f:Bool)(hr:vg r)(hc:c.length<2^30)(hx:qQ c.length r.ex)(hl:r.ex.length<=100)(h0:Nw c)(h:qR r c=false):CV Tryz.prog 120 [.dat (.rule r),.row 0 f (.ints c)] V.own 24 ((r.ex.map fun x=>aS c x 1).map iV):=by
 refine CV.of Bd.oH (by simp) rfl aeU JW ?_;refine ah.pure (S.nR r c f hr (by omega)) rfl ?_;refine Fork.mk (fun q=>absurd (q.symm.trans (h)).symm Bool.false_ne_true) (fun _=>?_);refine aA.nil 5 24 0 (by rfl) rfl rfl rfl ?_;refine aA.fam 20000 [15,16,1] (fun i:Nat=>[(17,.int i),(5,.own 9)]) (fun i=>yt [(9,yw (Dc r c i).length)]++iG 10000 (fR (Dc r c i))) (fun i=>i<=r.ex.length) (fun i=>r.ex.length-i) 0 (lS 10000 (fun j=>10000+j) (iL [(9,yw 0)] [10])) _ rfl (by decide) (fun _=>rfl) (Nat.zero_le _) (sR rfl) (.inl rfl) ?_ ?_
 ·refine jX.fam (g:=fun j=>10000+j) [(9,yw 0)] [10] ?_ rfl (Nat.zero_le _) (show 10000+0<=20000 by decide) (fun j o q=>by cases q) (fun j _ o _ q=>by cases q);exact⟨⟨rfl,nofun,rfl,dw (by decide),_,rfl,rfl,rfl,.refl _⟩,trivial⟩
 refine⟨(sR rfl),rfl,?_⟩;rintro i hi;have hw:=L6 (c:=c) hi;refine⟨fun h1=>?_,fun h1=>?_⟩
 ·have hi':i<r.ex.length:=by simpa using h1
  have hpl:=hx (r.ex.getD i 0) (by rw[getD_some hi']; exact List.getElem_mem hi');have hst:=OM (c:=c) hi';have hP1:=L6 (c:=c) hi';have hv:=jC h0 (r.ex.getD ((i:Int)).toNat 0).toNat;repeat(refine VC.mk (by first|(first|(simp only[Rw.rng]; omega)|(simp only[jl,jF,Rw.len]; omega)|(simp only[okI]; omega)|(show((rO 10000 _).length+(0+1))*24<=140737488355328/\(rO 10000 _).length+(0+1)<=1152921504606846976; rw[o9,hw]; omega))|(simp only[Rw.rng] at *; first|omega|(simp_all; done)|(simp_all; omega))) ?_)
  refine qL.VI 20000 (i+1) i 20005 (fR (Dc r c i)) (fR (Dc r c i++[aS c (r.ex.getD i 0) 1])) [(9,yw (i+1))] [20017] (by rw[hP1,hst]) hi' (by omega) ?_ rfl rfl rfl (Nat.zero_le _) (by rw[gY,<- hst,hP1]; omega) (by rw[gY,hw]; omega) (by decide) jv ?_ (VR hw) (sR rfl) (sR rfl) ?_
  (repeat' (first|refine bQ.lo rfl ?_|refine bQ.hi rfl ?_|exact bQ.nil))
  ·intro o ho;rw[Ql hw] at ho;cases ho;exact⟨_,rfl,rfl⟩
  ·exact⟨⟨rfl,nofun,rfl,dw (by omega),_,rfl,rfl,rfl,by rw[hw]; exact IE⟩,trivial⟩
 ·have hi':i=r.ex.length:=by have:=of_decide_eq_false h1; omega
  subst hi';have hall:Dc r c r.ex.length=r.ex.map fun x=>aS c x 1:=by unfold Dc; rw[List.take_length]
  conv=>whnf
  rw[hall] at hw ⊢;refine Qj.fam 20000 rfl (by decide) ?_ (by omega)
  (repeat' (first|refine bQ.lo rfl ?_|refine bQ.hi rfl ?_|exact bQ.nil))
end Go.Proofs.YtkmldgihhaooaaaGreatDoor
