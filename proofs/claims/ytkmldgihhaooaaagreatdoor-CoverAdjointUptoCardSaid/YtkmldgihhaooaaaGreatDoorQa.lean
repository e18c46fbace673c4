/-
 Families of rows of numbers; all ways to divide. No condition.
-/
import Derived.Test.YtkmldgihhaooaaaGreatDoorPa
import Derived.Test.YtkmldgihhaooaaaGreatDoorGa
import Derived.Test.YtkmldgihhaooaaaGreatDoorFa
import Derived.Test.YtkmldgihhaooaaaGreatDoorLg
namespace Go.Proofs.YtkmldgihhaooaaaGreatDoor
open Go.Ab Go.Proofs
set_option maxRecDepth 100000
theorem getD_some{α:Type}{l:List α}{i:Nat}{d:α}(h:i<l.length):l.getD i d=l[i]:=by simp[h]
abbrev fR(R:List (List Int)):List (Option OV):=R.map fun r=>some (mF r)
abbrev xg(k:Nat):OV:=Ba 24 10000 k
theorem gW{R:List (List Int)}:(fR R).length=R.length:=List.length_map _
theorem jd{R:List (List Int)}{nx:Nat}: ∀ o,some o∈fR R->o.good nx=true/\o.D8=true:=by
 intro o h
 obtain⟨r,_,e⟩:=List.mem_map.1 h
 cases e
 exact⟨rfl,rfl⟩
theorem J8{R:List (List Int)}{j:Nat}(h:j<R.length):(fR R)[j]? =some (some (mF (R.getD j []))):=by
 rw[List.getElem?_map,List.getElem?_eq_getElem h,getD_some h]; rfl
theorem OC{R:List (List Int)}{r:List Int}{a:Nat}(h:R.length=a):(fR (R++[r]))[a]? =some (some (mF r)):=by
 subst h
 rw[List.getElem?_map,List.getElem?_append_right (Nat.le_refl _),Nat.sub_self]; rfl
theorem Ub{R:List (List Int)}{r:List Int}{a:Nat}(h:R.length=a): ∀ j o,j≠a->(fR (R++[r]))[j]? =some (some o)->(fR R)[j]? =some (some o):=by
 intro j o hj q
 rcases Nat.lt_or_ge j R.length with hl|hl
 ·rw[List.getElem?_map,List.getElem?_append_left hl] at q; rw[List.getElem?_map]; exact q
 ·rw[List.getElem?_map,List.getElem?_eq_none (by rw[List.length_append]; simp only[List.length_singleton]; omega)] at q; cases q
theorem iL.rows{h:Hz}{i:Nat}{R:List (List Int)}{o:OV}{g:Nat->Nat}(hi:h.get i=some o)(e1:o.aA.ty=24)(e2:o.aA.k=0)(e3:o.aA.l=(List.range R.length).map fun j=>T.own (g j))
  (hg: ∀ j,j<R.length->g j≠i/\ ∃ o',h.get (g j)=some o'/\o'.aA=(mF (R.getD j [])).aA):iL (.row 0 false (.dV R)) (.own i) h:=by
 refine iL.nest (R:=R.map Rw.ints) (ty:=3) (k:=0) ?_ ?_ ?_ (by decide) hi e1 e2 (by rw[List.length_map]; exact e3) fun j hj=>?_
 ·show R.map Go.Ab.ints=_
  rw[List.map_map]; rfl
 ·rw[iw]; intro t ht; obtain⟨x,_,rfl⟩:=List.mem_map.1 ht; rfl
 ·intro x hx
  obtain⟨y,_,rfl⟩:=List.mem_map.1 hx
  rw[iw]; intro t ht; obtain⟨x,_,rfl⟩:=List.mem_map.1 ht; rfl
 ·rw[List.length_map] at hj
  obtain⟨q1,o',q2,q3⟩:=hg j hj
  refine⟨q1,o',_,q2,by rw[List.getElem?_map,List.getElem?_eq_getElem hj]; rfl,?_⟩
  rw[q3,getD_some hj]
  simp[OV.aA,V.aW]
theorem iL.QJ{h:Hz}{i:Nat}{R:List (List Int)}(C:Nat)(hi:h.get i=some (xg R.length))(hb:i<10000)(q:dw 10000 C (iP 10000 (fR R)) h)(hC:10000+R.length<=C):iL (.row 0 false (.dV R)) (.own i) h:=by
 refine iL.rows (g:=fun j=>10000+j) hi rfl rfl lG fun j hj=>⟨by omega,_,q.get (by rw[gW]; exact hC) (J8 hj),rfl⟩
theorem iL.QK{b:Bool}{k:Nat}{h:Hz}:iL (.cO [.row 0 false (.dV []),.bool b]) (.cO [.row k true .nil,.bool b]) h :=
 ⟨[],⟨fun _=>False,trivial⟩,by
  show T.sub _ _ (.cO [.sl 0 false [],(V.bool b).aF]) (.cO [.sl k true [],(V.bool b).aF])
  simp only[T.sub,T.dJ]
  exact⟨⟨.inl trivial,.inr trivial,fun h=>by cases h⟩,aH _,trivial⟩⟩
theorem iL.one{h:Hz}{i:Nat}{l:List Int}(hi:h.get i=some (.row 24 0 .nil [.row 0 true (.ints l)])):iL (.row 0 false (.dV [l])) (.own i) h:=by
 have hf:T.bY [Go.Ab.ints l]=true:=rfl
 refine⟨[(i,some (.row 24 0 (.dV [l]) []))],⟨fun c=>c≠i,⟨_,hi,fun h=>h rfl,rfl,rfl,?_,rfl,rfl⟩,trivial⟩,?_⟩
 ·show T.dJ _ _ [.sl 0 false (l.map T.int)] [.sl 0 true (l.map T.int)]
  simp only[T.sub,T.dJ]
  exact⟨⟨.inl trivial,.inl trivial,fun h=>by cases h⟩,trivial⟩
 ·show T.sub _ _ (.sl 0 false [Go.Ab.ints l]) (.own i)
  simp only[T.sub]
  exact⟨trivial,trivial,hf,by decide,24,by simp[Hz.au,Hz.get,OV.aA,Rw.aW,V.aW]⟩
def divV(k n:Nat):V:=match divO k n with
 |some L=>.cO [.row 0 false (.dV L),.bool true]
 |none=>.cO [.row 0 false (.dV []),.bool false]
theorem GV{k n:Nat}:(divV k n).free=true:=by unfold divV; split<;>rfl
theorem BQ{k n:Nat}(h:divO k n=none):divV k n= .cO [.row 0 false (.dV []),.bool false]:=by unfold divV; rw[h]
theorem yV{k n:Nat}(h:(jm k n).length<=100):divV k n= .cO [.row 0 false (.dV (jm k n)),.bool true]:=by unfold divV divO; rw[if_pos h]
set_option maxHeartbeats 1000000 in
theorem S.mg: ∀ (k n:Nat),k<=2^20->n<=2^21->ak Tryz.prog 139 [.int n,.int k] (divV k n):=by
 intro k
 induction k using Nat.strongRecOn with
 |ind k ih =>
 intro n hk hn
 have hfree:=@GV k n
 match k,ih,hk with
 |0,_,_ =>
  have hres:divV 0 n= .cO [.row 0 false (.dV []),.bool true]:=yV (Nat.zero_le _)
  rw[hres]
  refine ak.ofF Bd.mg rfl (by simp) rfl rfl ?_
  conv=>whnf
  refine Fork.mk (fun _=>?_) (fun q=>absurd (q.symm.trans (rfl)) Bool.false_ne_true)
  conv=>whnf
  exact iL.QK
 |1,_,_ =>
  have hres:divV 1 n= .cO [.row 0 false (.dV [[(n:Int)]]),.bool true]:=yV (by simp[jm])
  rw[hres]
  refine ak.ofF Bd.mg rfl (by simp) rfl rfl ?_
  conv=>whnf
  refine Fork.mk (fun q=>absurd (q.symm.trans (rfl)).symm Bool.false_ne_true) (fun _=>?_)
  conv=>whnf
  refine Fork.mk (fun _=>?_) (fun q=>absurd (q.symm.trans (rfl)) Bool.false_ne_true)
  conv=>whnf
  exact iL.WV (iL.one rfl)
 |k+2,ih,hk =>
  have H:=ih (k+1) (by omega)
  generalize hr:divV (k+2) n=res
  rw[hr] at hfree
  refine ak.ofF Bd.mg rfl (by simp) rfl hfree ?_
  conv=>whnf
  refine Fork.mk (fun q=>absurd (q.symm.trans (decide_eq_false (by omega))).symm Bool.false_ne_true) (fun _=>?_)
  conv=>whnf
  refine Fork.mk (fun q=>absurd (q.symm.trans (decide_eq_false (by omega))).symm Bool.false_ne_true) (fun _=>?_)
  conv=>whnf
  refine aG.nil 6 24 0 (by rfl) rfl rfl rfl ?_
  refine aG.fam 20000 [0,1] (fun i:Nat=>[(7,.int i),(6,.own 9)]) (fun i=>xP [(9,xg (qJ k n i).length)]++iP 10000 (fR (qJ k n i))) (fun i=>i<=n+1/\(qJ k n i).length<=100) (fun i=>n+1-i) 0 (nG 10000 (fun j=>10000+j) (iI [(9,xg 0)] [8])) _ rfl (by decide) (fun _=>rfl) ⟨Nat.zero_le _,Nat.zero_le _⟩ (sR rfl) (.inl rfl) ?_ ?_
  ·refine jY.fam (g:=fun j=>10000+j) [(9,xg 0)] [8] ?_ rfl (Nat.zero_le _) (show 10000+0<=20000 by decide) (fun j o q=>by cases q) (fun j _ o _ q=>by cases q)
   exact⟨⟨rfl,nofun,rfl,dD (by decide),_,rfl,rfl,rfl,.refl _⟩,trivial⟩
  conv=>whnf
  refine⟨(sR rfl),rfl,?_⟩
  rintro i ⟨hi,hL⟩
  conv=>whnf
  refine⟨fun h1=>?_,fun h1=>?_⟩
  ·have hi':i<=n:=by have:=of_decide_eq_true h1; omega
   conv=>whnf
   repeat(refine VC.mk (by simp only[okI] at *; first|omega|(simp_all; done)|(simp_all; omega)) ?_; conv=>whnf)
   rw[show(n:Int)-i=((n-i:Nat):Int) by omega,show((k+2:Nat):Int)-1=((k+1:Nat):Int) by omega]
   refine ah.pure (H (n-i) (by omega) (by omega)) GV ?_
   by_cases hd:(jm (k+1) (n-i)).length<=100
   ·rw[yV hd]
    conv=>whnf
    repeat(refine VC.mk (by first|exact id|(intro h; rw[h]; rfl)|(simp only[okI] at *; first|omega|(simp_all; done)|(simp_all; omega))) ?_; conv=>whnf)
    refine⟨fun h2=>?_,fun h2=>?_⟩
    ·have hf:100<(qJ k n i).length+(jm (k+1) (n-i)).length:=by have:=of_decide_eq_true h2; simp only[List.length_map,List.length_range] at this; omega
     conv=>whnf
     rw[<- hr,BQ (ZI (i:=i+1) (by omega) (by rw[GU,List.length_append,List.length_map]; exact hf))]
     exact iL.QK
    ·have hf:(qJ k n i).length+(jm (k+1) (n-i)).length<=100:=by have:=of_decide_eq_false h2; simp only[List.length_map,List.length_range] at this; omega
     conv=>whnf
     generalize hT:jm (k+1) (n-i)=TL at hf hd
     have hP: ∀ j,j<=TL.length->(qJ k n i++(TL.take j).map fun t=>(i:Int)::t).length=(qJ k n i).length+j:=fun j hj=>by rw[List.length_append,List.length_map,List.length_take,Nat.min_eq_left hj]
     refine aG.fam 20000 [43,44,7,0,1] (fun j:Nat=>[(45,.int j),(6,.own 9)]) (fun j=>xP [(9,xg (qJ k n i++(TL.take j).map fun t=>(i:Int)::t).length)]++iP 10000 (fR (qJ k n i++(TL.take j).map fun t=>(i:Int)::t))) (fun j=>j<=TL.length) (fun j=>TL.length-j) 0 (nG 10000 (fun j=>10000+j) (iI [(9,xg (qJ k n i++(TL.take 0).map fun t=>(i:Int)::t).length)] [9])) _ rfl (by decide) (fun _=>rfl) (Nat.zero_le _) (sR rfl) (.inl rfl) ?_ ?_
     ·refine jY.Va 20000 [(9,xg (qJ k n i++(TL.take 0).map fun t=>(i:Int)::t).length)] [9] ?_ rfl rfl (Nat.zero_le _) (by rw[gW,hP 0 (Nat.zero_le _)]; omega) (by decide) jd ?_
      ·rw[show qJ k n i++(TL.take 0).map (fun t=>(i:Int)::t)=qJ k n i by simp]
       (repeat' (first|refine dw.lo rfl ?_|refine dw.hi rfl ?_|exact dw.nil))
      ·exact⟨⟨rfl,nofun,rfl,dD (by rw[hP 0 (Nat.zero_le _)]; omega),_,rfl,rfl,rfl,by rw[show qJ k n i++(TL.take 0).map (fun t=>(i:Int)::t)=qJ k n i by simp]; exact jL⟩,trivial⟩
     conv=>whnf
     refine⟨(sR rfl),rfl,?_⟩
     rintro j hj
     have hPj:=hP j hj
     conv=>whnf
     refine⟨fun h3=>?_,fun h3=>?_⟩
     ·have hj':j<TL.length:=by simpa using h3
      have hg:TL.getD j []∈jm (k+1) (n-i):=by rw[hT,getD_some hj']; exact List.getElem_mem hj'
      have hgl:=y5 hg
      have hst:(TL.take (j+1)).map (fun t=>(i:Int)::t)=(TL.take j).map (fun t=>(i:Int)::t)++[(i:Int)::TL.getD j []]:=by rw[getD_some hj',List.take_succ_eq_append_getElem hj',List.map_append]; rfl
      conv=>whnf
      refine .mk (by simp only[Rw.rng] at *; first|omega|(simp_all; done)|(simp_all; omega)) ?_
      conv=>whnf
      refine abq.one ⟨.inr ?_,?_⟩ ?_
      ·show 0<(TL.getD j []).length; omega
      ·show(1+(TL.getD j []).length)*8<=140737488355328/\1+(TL.getD j []).length<=1152921504606846976; omega
      conv=>whnf
      repeat(refine VC.mk (by first|(show((qI 10000 _).length+(0+1))*24<=140737488355328/\(qI 10000 _).length+(0+1)<=1152921504606846976; rw[oC,hPj]; omega)|(simp only[okI] at *; first|omega|(simp_all; done)|(simp_all; omega))) ?_; conv=>whnf)
      have hP1:=hP (j+1) hj'
      rw[hst,<- List.append_assoc] at hP1
      refine rC.Zo 20000 (j+1) ((qJ k n i).length+j) 20008 (fR (qJ k n i++(TL.take j).map fun t=>(i:Int)::t)) (fR ((qJ k n i++(TL.take j).map fun t=>(i:Int)::t)++[(i:Int)::TL.getD j []])) [(9,xg ((qJ k n i).length+j+1))] [20010] (by rw[hst,<- List.append_assoc,hP1]; rfl) hj' (by omega) ?_ rfl rfl rfl (Nat.zero_le _) (by rw[gW,hP1]; omega) (by rw[gW,hPj]; omega) (by decide) jd ?_ (Ub hPj) (sR rfl) (sR rfl) ?_
      (repeat' (first|refine dw.lo rfl ?_|refine dw.hi rfl ?_|exact dw.nil))
      ·intro o ho
       rw[OC hPj] at ho
       cases ho
       exact⟨_,rfl,rfl⟩
      ·exact⟨⟨rfl,nofun,rfl,dD (by omega),_,rfl,rfl,rfl,by rw[hPj]; exact GN⟩,trivial⟩
     ·have hj':j=TL.length:=by have:=of_decide_eq_false h3; omega
      subst hj'
      rw[List.take_length] at hPj ⊢
      have hst:qJ k n (i+1)=qJ k n i++TL.map fun t=>(i:Int)::t:=by rw[GU,hT]
      conv=>whnf
      refine .mk (by simp only[okI] at *; first|omega|(simp_all; done)|(simp_all; omega)) ?_
      conv=>whnf
      refine rC.Fg 20000 (i+1) (fR (qJ k n i++TL.map fun t=>(i:Int)::t)) [(9,xg (qJ k n i++TL.map fun t=>(i:Int)::t).length)] [9] (by rw[hst]) ⟨by omega,by rw[hst,hPj]; omega⟩ (by omega) ?_ rfl rfl (Nat.zero_le _) (by rw[gW,hPj]; omega) (by decide) jd (sR rfl) (sR rfl) ?_
      (repeat' (first|refine dw.lo rfl ?_|refine dw.hi rfl ?_|exact dw.nil))
      ·exact⟨⟨rfl,nofun,rfl,dD (by rw[hPj]; omega),_,rfl,rfl,rfl,jL⟩,trivial⟩
   ·have hnone:divO (k+1) (n-i)=none:=by unfold divO; rw[if_neg hd]
    rw[BQ hnone]
    conv=>whnf
    repeat(refine VC.mk (by first|exact id|(intro h; rw[h]; rfl)|(intro h; simp_all; done)) ?_; conv=>whnf)
    refine Fork.mk (fun _=>?_) (fun q=>absurd (q.symm.trans (rfl)) Bool.false_ne_true)
    conv=>whnf
    rw[<- hr,BQ (Xl hi' hnone)]
    exact iL.QK
  ·have hi':i=n+1:=by have:=of_decide_eq_false h1; omega
   subst hi'
   rw[QI] at hL
   conv=>whnf
   rw[<- hr,yV hL]
   refine iL.WV (iL.QJ 20000 rfl (by decide) ?_ (by omega))
   (repeat' (first|refine dw.lo rfl ?_|refine dw.hi rfl ?_|exact dw.nil))
def OD(n:Nat):List Int:=(List.range n).map fun x:Nat=>(x:Int)
theorem Xm{n:Nat}:OD (n+1)=OD n++[(n:Int)]:=by simp[OD,List.range_succ]
theorem ZJ{n:Nat}:(OD n).length=n:=by simp[OD]
theorem aj.afe{h:Hz}{k:Nat}{l:List Int}(e:l=[]):aj (.row 0 false (.ints l)) (.row k true .nil) h:=⟨by
 subst e
 show T.sub (fun _=>True) h.au (.sl 0 false []) (.sl k true [])
 simp[T.sub]⟩
theorem S.jM(p:aP)(r:Rule)(v:Int)(hv:p.values.length<2^20):ak Tryz.prog 84 [.dat (.iU p),.dat (.rule r),.int v] (.row 0 false (.ints (oJ p r v))):=by
 refine ak.of Bd.jM (by simp) rfl rfl ?_
 conv=>whnf
 repeat(refine VC.mk (by first|exact id|exact fun h=>⟨h,h⟩) ?_; conv=>whnf)
 refine⟨fun h1=>?_,fun h1=>?_⟩
 ·conv=>whnf
  exact aj.afe (by unfold oJ; rw[h1]; rfl)
 conv=>whnf
 repeat(refine VC.mk (by first|exact id|exact fun h=>⟨h,h⟩) ?_; conv=>whnf)
 refine⟨fun h2=>?_,fun h2=>?_⟩
 ·rw[Bool.and_assoc] at h2
  conv=>whnf
  exact aj.afe (by unfold oJ; rw[h1,h2]; rfl)
 rw[Bool.and_assoc] at h2
 conv=>whnf
 refine⟨fun h3=>?_,fun h3=>?_⟩
 ·conv=>whnf
  exact aj.row (by unfold oJ; rw[h1,h2,h3]; rfl)
 conv=>whnf
 refine⟨fun h4=>?_,fun h4=>?_⟩
 ·conv=>whnf
  exact aj.row (by unfold oJ; rw[h1,h2,h3,h4]; rfl)
 have hV:oJ p r v=OD (max 1 p.values.length):=by unfold oJ; rw[h1,h2,h3,h4]; rfl
 rw[hV]
 conv=>whnf
 refine aG.nil 7 3 0 (by rfl) rfl rfl rfl ?_
 refine aG.objs 3 [46] (fun i:Nat=>[(47,.int i),(7,.own 2)]) (fun i=>[(2,mF (OD i))]) (fun i=>i<=max 1 p.values.length) (fun i=>max 1 p.values.length-i) 0 [38] rfl (by decide) (fun _=>rfl) (Nat.zero_le _) (sR rfl) ⟨⟨rfl,nofun,rfl,rfl,rfl,_,rfl,rfl,rfl,aI.of_eq rfl⟩,trivial⟩ ?_
 conv=>whnf
 refine⟨(sR rfl),rfl,?_⟩
 rintro i hi
 have hl:=@ZJ i
 conv=>whnf
 refine⟨fun h5=>?_,fun h5=>?_⟩
 ·have hi':i<max 1 p.values.length:=by have:=of_decide_eq_true h5; omega
  conv=>whnf
  repeat(refine VC.mk (by first|(show((OD i).length+(0+1))*8<=140737488355328/\(OD i).length+(0+1)<=1152921504606846976; omega)|(simp only[okI] at *; first|omega|(simp_all; done)|(simp_all; omega))) ?_; conv=>whnf)
  exact⟨i+1,[9],hi',by omega,(sR rfl),(sR rfl),⟨rfl,nofun,rfl,rfl,rfl,_,rfl,rfl,rfl,aI.of_eq (by rw[Xm])⟩,trivial⟩
 ·have hi':i=max 1 p.values.length:=by have:=of_decide_eq_false h5; omega
  subst hi'
  conv=>whnf
  exact aj.ael rfl
theorem acI:WU V.own:=⟨fun _ _=>rfl,fun _=>rfl⟩
theorem ZK(b:Bool):WU fun n=>.cO [.own n,.bool b]:=⟨fun _ _=>rfl,fun _=>⟨rfl,trivial,trivial⟩⟩
theorem IQ{R:List (List Int)}: ∀ o∈R.map mF,o.D8=true/\o.good 0=true:=by
 intro o ho
 obtain⟨c,_,rfl⟩:=List.mem_map.1 ho
 exact⟨rfl,rfl⟩
theorem QL{R:List (List Int)}:(R.map mF).map some=fR R:=by rw[List.map_map]; rfl
theorem OB.fam{tv:Nat->V}{h:Hz}{i:Nat}{R:List (List Int)}(C:Nat)(hi:h.get i=some (xg R.length))(hb:i<10000)(q:dw 10000 C (iP 10000 (fR R)) h)(hC:10000+R.length<=C):OB tv 24 (R.map mF) (tv i) h :=
 ⟨i,fun j=>10000+j,_,rfl,hi,rfl,rfl,by rw[List.length_map]; exact lG,fun j hj=>by
  rw[List.length_map] at hj
  exact⟨by show 10000+j≠i; omega,_,mF (R.getD j []),q.get (by rw[gW]; exact hC) (J8 hj),by rw[List.getElem?_map,List.getElem?_eq_getElem hj,getD_some hj]; rfl,rfl⟩,fun i j _ _ e=>by replace e:10000+i=10000+j:=e; omega⟩
theorem qK{c:List Int}(h:Lr c)(j:Nat):0<=c.getD j 0/\c.getD j 0<=1048576:=by
 rcases Nat.lt_or_ge j c.length with hj|hj
 ·rw[getD_some hj]; exact h _ (List.getElem_mem hj)
 ·simp[List.getD_eq_getElem?_getD,List.getElem?_eq_none hj]
theorem S.OE(r:Rule)(c:List Int)(hr:sG r)(hc:c.length<2^30)(h:oP r c=true):aT Tryz.prog 120 (V.aW [.dat (.rule r),.own 0]) (Hz.au [(0,some (mF c))]) 1 (fun t hp=>t= .own 1/\hp=Hz.au [(0,some (mF c)),(1,some (.gen 24 0 [.inn 0]))]):=by
 refine pX.of (h0:=[(0,some (mF c))]) (nx:=1) Bd.nO (by simp) ⟨_,_,rfl,rfl⟩ rfl rfl ?_
 conv=>whnf
 refine ah.lend (S.kM r c false hr (by omega)) ⟨aH _,Eh trivial rfl,trivial⟩ rfl rfl ?_
 conv=>whnf
 refine Fork.mk (fun _=>?_) (fun q=>absurd (q.symm.trans (h)) Bool.false_ne_true)
 conv=>whnf
 exact jA.wrap rfl rfl rfl rfl (by decide) rfl rfl rfl ⟨rfl,rfl⟩
def J9(r:Rule)(c:List Int)(i:Nat):List (List Int):=(r.ex.take i).map fun x=>aS c x 1
theorem QM{r:Rule}{c:List Int}{i:Nat}(h:i<=r.ex.length):(J9 r c i).length=i:=by simp[J9,Nat.min_eq_left h]
theorem Xn{r:Rule}{c:List Int}{i:Nat}(h:i<r.ex.length):J9 r c (i+1)=J9 r c i++[aS c (r.ex.getD i 0) 1]:=by
 unfold J9
 rw[List.take_succ_eq_append_getElem h,List.map_append,getD_some h]; rfl
theorem S.OG(r:Rule)(c:List Int)(f:Bool)(hr:sG r)(hc:c.length<2^30)(hx:uG c.length r.ex)(hl:r.ex.length<=100)(h0:Lr c)(h:oP r c=false):Bc Tryz.prog 120 [.dat (.rule r),.row 0 f (.ints c)] V.own 24 ((r.ex.map fun x=>aS c x 1).map mF):=by
 refine Bc.of Bd.nO (by simp) rfl acI IQ ?_
 conv=>whnf
 refine ah.pure (S.kM r c f hr (by omega)) rfl ?_
 conv=>whnf
 refine Fork.mk (fun q=>absurd (q.symm.trans (h)).symm Bool.false_ne_true) (fun _=>?_)
 conv=>whnf
 refine aG.nil 5 24 0 (by rfl) rfl rfl rfl ?_
 refine aG.fam 20000 [15,16,1] (fun i:Nat=>[(17,.int i),(5,.own 9)]) (fun i=>xP [(9,xg (J9 r c i).length)]++iP 10000 (fR (J9 r c i))) (fun i=>i<=r.ex.length) (fun i=>r.ex.length-i) 0 (nG 10000 (fun j=>10000+j) (iI [(9,xg 0)] [10])) _ rfl (by decide) (fun _=>rfl) (Nat.zero_le _) (sR rfl) (.inl rfl) ?_ ?_
 ·refine jY.fam (g:=fun j=>10000+j) [(9,xg 0)] [10] ?_ rfl (Nat.zero_le _) (show 10000+0<=20000 by decide) (fun j o q=>by cases q) (fun j _ o _ q=>by cases q)
  exact⟨⟨rfl,nofun,rfl,dD (by decide),_,rfl,rfl,rfl,.refl _⟩,trivial⟩
 conv=>whnf
 refine⟨(sR rfl),rfl,?_⟩
 rintro i hi
 have hw:=QM (c:=c) hi
 conv=>whnf
 refine⟨fun h1=>?_,fun h1=>?_⟩
 ·have hi':i<r.ex.length:=by simpa using h1
  have hpl:=hx (r.ex.getD i 0) (by rw[getD_some hi']; exact List.getElem_mem hi')
  have hst:=Xn (c:=c) hi'
  have hP1:=QM (c:=c) hi'
  have hv:=qK h0 (r.ex.getD ((i:Int)).toNat 0).toNat
  conv=>whnf
  repeat(refine VC.mk (by first|(first|(simp only[Rw.rng]; omega)|(simp only[nK,nT,Rw.len]; omega)|(simp only[okI]; omega)|(show((qI 10000 _).length+(0+1))*24<=140737488355328/\(qI 10000 _).length+(0+1)<=1152921504606846976; rw[oC,hw]; omega))|(simp only[Rw.rng] at *; first|omega|(simp_all; done)|(simp_all; omega))) ?_; conv=>whnf)
  refine rC.Zo 20000 (i+1) i 20005 (fR (J9 r c i)) (fR (J9 r c i++[aS c (r.ex.getD i 0) 1])) [(9,xg (i+1))] [20017] (by rw[hP1,hst]) hi' (by omega) ?_ rfl rfl rfl (Nat.zero_le _) (by rw[gW,<- hst,hP1]; omega) (by rw[gW,hw]; omega) (by decide) jd ?_ (Ub hw) (sR rfl) (sR rfl) ?_
  (repeat' (first|refine dw.lo rfl ?_|refine dw.hi rfl ?_|exact dw.nil))
  ·intro o ho
   rw[OC hw] at ho
   cases ho
   exact⟨_,rfl,rfl⟩
  ·exact⟨⟨rfl,nofun,rfl,dD (by omega),_,rfl,rfl,rfl,by rw[hw]; exact GN⟩,trivial⟩
 ·have hi':i=r.ex.length:=by have:=of_decide_eq_false h1; omega
  subst hi'
  have hall:J9 r c r.ex.length=r.ex.map fun x=>aS c x 1:=by unfold J9; rw[List.take_length]
  conv=>whnf
  rw[hall] at hw ⊢
  refine OB.fam 20000 rfl (by decide) ?_ (by omega)
  (repeat' (first|refine dw.lo rfl ?_|refine dw.hi rfl ?_|exact dw.nil))
end Go.Proofs.YtkmldgihhaooaaaGreatDoor
