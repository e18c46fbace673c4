/-
 What a broadcast comes from: the program's lists. No condition.
-/
import Derived.Test.YtkmldgihhaooaaaGreatDoorQa
namespace Go.Proofs.YtkmldgihhaooaaaGreatDoor
open Go.Ab Go.Proofs
set_option maxRecDepth 100000
theorem aai{Z:Nat->Prop}{h:Hz}{i:Nat}{R:List (List Int)}(C:Nat)(hi:h.get i=some (xw R.length))(hz: ¬ Z i)(hZ: ∀ j,j<R.length->Z (10000+j))(q:dw 10000 C (iV 10000 (fR R)) h)(hC:10000+R.length<=C) :
  ∃ o',h.get i=some o'/\ ¬ Z i/\o'.aA.ty=(OV.row 24 0 (.dV R) []).aA.ty/\o'.aA.k=(OV.row 24 0 (.dV R) []).aA.k/\T.dN Z h.au (OV.row 24 0 (.dV R) []).aA.l o'.aA.l/\(OV.row 24 0 (.dV R) []).aA.l.map T.kd=o'.aA.l.map T.kd/\(OV.row 24 0 (.dV R) []).aA.l.map iK=o'.aA.l.map iK:=by
 have e1:(OV.row 24 0 (.dV R) []).aA.l=R.map Go.Ab.ints:=by simp[OV.aA,Rw.aV,V.aV]
 have e2:(xw R.length).aA.l=(List.range R.length).map fun j=>T.own (10000+j):=lJ
 refine⟨_,hi,hz,rfl,rfl,?_,?_,?_⟩
 ·rw[e1,e2]
  refine IJ (by simp) fun j t u h1 h2=>?_
  have hj:j<R.length:=by have:=(List.getElem?_eq_some_iff.1 h1).1; simpa using this
  rw[List.getElem?_map,List.getElem?_eq_getElem hj] at h1
  rw[List.getElem?_map,List.getElem?_range hj] at h2
  cases h1; cases h2
  refine⟨rfl,hZ j hj,?_,by decide,3,?_⟩
  ·rw[gK]; intro t ht; obtain⟨x,_,rfl⟩:=List.mem_map.1 ht; rfl
  ·have:=aP (q.get (by rw[gW]; exact hC) (J9 hj))
   rw[this,getD_some hj]
   simp[OV.aA,V.aV,Rw.aV]
 ·rw[e1,e2,List.map_map,List.map_map]
  apply List.ext_getElem
  ·simp
  ·intro j h1 h2
   simp only[List.getElem_map,Function.comp]; rfl
 ·rw[e1,e2,List.map_map,List.map_map]
  apply List.ext_getElem
  ·simp
  ·intro j h1 h2
   simp only[List.getElem_map,Function.comp]; rfl
theorem XR{Z:Nat->Prop}{h:Hz}{i:Nat}{R:List (List Int)}{r:Hz}(C:Nat)(hi:h.get i=some (xw R.length))(hz: ¬ Z i)(hZ: ∀ j,j<R.length->Z (10000+j))(q:dw 10000 C (iV 10000 (fR R)) h)(hC:10000+R.length<=C)(hr:LC Z h r):LC Z h ((i,some (.row 24 0 (.dV R) []))::r):=⟨aai C hi hz hZ q hC,hr⟩
theorem BR{Z:Nat->Prop}{h:Hz}{i:Nat}{o:OV}{r:Hz}(hi:h.get i=some o)(hz: ¬ Z i)(hr:LC Z h r):LC Z h ((i,some o)::r):=⟨qX hi hz,hr⟩
def wZ(resp:List Int)(t i:Nat):List Int:=((List.range i).filter fun x=>resp.getD x 0==(t:Int)).map fun x:Nat=>(x:Int)
theorem Kq{resp:List Int}{t i:Nat}:wZ resp t (i+1)=bif resp.getD i 0==(t:Int) then wZ resp t i++[(i:Int)] else wZ resp t i:=by
 unfold wZ
 rw[List.range_succ,List.filter_append,List.map_append,List.filter_cons,List.filter_nil]
 show _++List.map _ (if(resp.getD i 0==(t:Int))=true then [i] else [])=_
 cases (resp.getD i 0==(t:Int))
 ·exact List.append_nil _
 ·rfl
theorem Nu{resp:List Int}{t i:Nat}:(wZ resp t i).length<=i:=by
 unfold wZ
 rw[List.length_map]
 exact Nat.le_trans (List.length_filter_le ..) (by simp)
theorem XT{resp:List Int}{t i:Nat}: ∀ x∈wZ resp t i,0<=x/\x<i:=by
 intro x hx
 obtain⟨k,hk,rfl⟩:=List.mem_map.1 hx
 have:=List.mem_range.1 (List.mem_filter.1 hk).1
 omega
def Kr(resp need:List Int)(i:Nat):Bool:=(List.range i).any fun t=>decide (0<need.getD t 0)&& !(FV resp t)
theorem Rq{resp need:List Int}{i:Nat}:Kr resp need (i+1)=(Kr resp need i||(decide (0<need.getD i 0)&& !(FV resp i))):=by
 unfold Kr
 rw[List.range_succ,List.any_append]; simp
theorem UH{resp need:List Int}:Kr resp need need.length=uN resp need:=rfl
theorem XU{resp need:List Int}{i:Nat}(hi:i<need.length)(h:(decide (0<need.getD i 0)&& !(FV resp i))=true):uN resp need=true:=by
 unfold uN
 rw[List.any_eq_true]
 exact⟨i,List.mem_range.2 hi,h⟩
def G5(c xs ks:List Int)(i:Nat):List Int:=oZ c (xs.take i) (ks.take i)
theorem aaj: ∀ {xs ks:List Int} {c:List Int} {x k:Int},xs.length=ks.length->oZ c (xs++[x]) (ks++[k])=dI (oZ c xs ks) x k:=by
 intro xs
 induction xs with
 |nil=>intro ks c x k h; cases ks with|nil=>rfl|cons _ _=>cases h
 |cons a xs ih =>
  intro ks c x k h
  cases ks with
  |nil=>cases h
  |cons b ks=>exact ih (Nat.succ.inj h)
theorem XV{c xs ks:List Int}{i:Nat}(h1:i<xs.length)(h2:i<ks.length):G5 c xs ks (i+1)=dI (G5 c xs ks i) (xs.getD i 0) (ks.getD i 0):=by
 unfold G5
 rw[List.take_succ_eq_append_getElem h1,List.take_succ_eq_append_getElem h2,aaj (by simp; omega),getD_some h1,getD_some h2]
theorem aak{c xs ks:List Int}(h:xs.length=ks.length):G5 c xs ks ks.length=oZ c xs ks:=by
 unfold G5
 rw[<- h,List.take_length,h,List.take_length]
theorem aal{c xs ks:List Int}{i:Nat}:(G5 c xs ks i).length=c.length:=Rf
def Dh(O S:List (List Int))(xs:List Int)(i j:Nat):List (List Int):=((O.take i).flatMap fun c=>S.map fun s=>oZ c xs s)++(S.take j).map fun s=>oZ (O.getD i []) xs s
theorem O5{O S:List (List Int)}{xs:List Int}{i j:Nat}(hi:i<=O.length)(hj:j<=S.length):(Dh O S xs i j).length=i*S.length+j:=by
 have: ∀ L:List (List Int),(L.flatMap fun c=>S.map fun s=>oZ c xs s).length=L.length*S.length:=by
  intro L
  induction L with
  |nil=>simp
  |cons c L ih=>rw[List.flatMap_cons,List.length_append,ih,List.length_map,List.length_cons,Nat.succ_mul,Nat.add_comm]
 unfold Dh
 rw[List.length_append,this,List.length_map,List.length_take,List.length_take,Nat.min_eq_left hi,Nat.min_eq_left hj]
theorem aam{O S:List (List Int)}{xs:List Int}{i j:Nat}(hj:j<S.length):Dh O S xs i (j+1)=Dh O S xs i j++[oZ (O.getD i []) xs (S.getD j [])]:=by
 unfold Dh
 rw[List.take_succ_eq_append_getElem hj,List.map_append,<- List.append_assoc,getD_some hj]; rfl
theorem aan{O S:List (List Int)}{xs:List Int}{i:Nat}(hi:i<O.length):Dh O S xs (i+1) 0=Dh O S xs i S.length:=by
 unfold Dh
 rw[List.take_succ_eq_append_getElem hi,List.flatMap_append,List.take_length,getD_some hi]
 simp
theorem acp{O S:List (List Int)}{xs:List Int}:Dh O S xs O.length 0=O.flatMap fun c=>S.map fun s=>oZ c xs s:=by
 unfold Dh
 rw[List.take_length]; simp
theorem VJ{resp need b:List Int}(hb:b.length=resp.length)(_hn:need.length=resp.length)(h0: ∀ i,0<=need.getD i 0){n:Nat}(h:n<=need.length): ∀ c∈o7 resp need [b] n,c.length=resp.length:=(acf hb h h0).len
theorem ak.Rl{b:Bool}{k:Nat}{h:Hz}:ak (.dH [.row 0 false (.dV []),.bool b]) (.dH [.row k true .nil,.bool b]) h:=⟨by
  show T.sub _ _ (.dH [.sl 0 false [],(V.bool b).aG]) (.dH [.sl k true [],(V.bool b).aG])
  simp only[T.sub,T.dN]
  exact⟨⟨.inl trivial,.inr trivial,fun h=>by cases h⟩,aC _,trivial⟩⟩
def oD(need:List Int):List (List Int):=[List.replicate need.length 0]
theorem Rt{c:List Int}{i d B M:Int}(hc: ∀ j,0<=c.getD j 0/\c.getD j 0<=B)(hd:0<=d/\d<=M)(j:Nat):0<=(dI c i d).getD j 0/\(dI c i d).getD j 0<=B+M:=by
 have:=hc j
 rw[zB]
 split<;>omega
theorem Ru: ∀ {xs ks c:List Int} {B M:Int},(∀ j,0<=c.getD j 0/\c.getD j 0<=B)->(∀ k∈ks,0<=k/\k<=M)->0<=M-> ∀ j,0<=(oZ c xs ks).getD j 0/\(oZ c xs ks).getD j 0<=B+xs.length*M:=by
 intro xs
 induction xs with
 |nil=>intro ks c B M hc _ _ j; have:=hc j; simp only[oZ,List.length_nil]; omega
 |cons x xs ih =>
  intro ks c B M hc hk hM j
  have hm:(0:Int)<=(xs.length:Int)*M:=Int.mul_nonneg (by omega) hM
  have e:(((x::xs).length:Nat):Int)*M=M+(xs.length:Int)*M:=by rw[List.length_cons,Int.natCast_add,Int.add_mul]; simp only[Int.natCast_one,Int.one_mul]; omega
  cases ks with
  |nil=>have:=hc j; rw[e]; simp only[oZ]; omega
  |cons k ks =>
   have:=ih (c:=dI c x k) (B:=B+M) (ks:=ks) (Rt hc (hk k (by simp))) (fun y hy=>hk y (List.mem_cons_of_mem _ hy)) hM j
   rw[e]
   simp only[oZ]
   omega
theorem VK: ∀ {l:List Int} {x:Int},(∀ y∈l,0<=y)->x∈l->x<=l.sum:=by
 intro l
 induction l with
 |nil=>intro x _ h; cases h
 |cons a l ih =>
  intro x h0 hx
  have ha:=h0 a (by simp)
  have hl: ∀ y∈l,0<=y:=fun y hy=>h0 y (List.mem_cons_of_mem _ hy)
  have hs:0<=l.sum:=by
   cases l with
   |nil=>simp
   |cons b l=>exact Int.le_trans (hl b (by simp)) (ih hl (by simp))
  rw[List.sum_cons]
  rcases List.mem_cons.1 hx with rfl|hx
  ·omega
  ·have:=ih hl hx; omega
theorem VL{resp need:List Int}(h0:SV need)(hl:resp.length<=6): ∀ t:Nat,∀ c∈o7 resp need (oD need) t,∀ j,0<=c.getD j 0/\c.getD j 0<=(t:Int)*6291456:=by
 intro t
 induction t with
 |zero =>
  intro c hc j
  have:c=List.replicate need.length 0:=by simpa [o7,oD] using hc
  subst this
  rw[List.getD_eq_getElem?_getD,List.getElem?_replicate]
  split<;>simp
 |succ t ih =>
  intro c hc j
  rw[BO] at hc
  unfold Ig at hc
  cases hz:(need.getD t 0==0) with
  |true =>
   rw[hz] at hc
   have:=ih c hc j
   omega
  |false =>
   rw[hz,cond_false,List.mem_flatMap] at hc
   obtain⟨b,hb,hc⟩:=hc
   rw[BN,List.mem_map] at hc
   obtain⟨s,hs,rfl⟩:=hc
   have hm:=uO h0 t
   obtain⟨hs1,hs2⟩:=OX hs
   have hx:(oC resp t).length<=6:=Nat.le_trans (Nu (resp:=resp) (t:=t) (i:=resp.length)) hl
   have:=Ru (xs:=oC resp t) (ks:=s) (M:=1048576) (ih b hb) (fun k hk=>⟨hs2 k hk,by have:=VK hs2 hk; rw[hs1] at this; omega⟩) (by decide) j
   have:((oC resp t).length:Int)*1048576<=6*1048576:=Int.mul_le_mul_of_nonneg_right (by omega) (by decide)
   omega
def zQ(resp need:List Int):Bool:= !(uN resp need)&&decide ((o7 resp need (oD need) need.length).length<=100)
abbrev Ih(O:List (List Int))(xs:List Int)(k:Nat):List (Nat×OV):=[(9,.row 24 0 (.dV O) []),(10,nP xs),(11,xw k)]
theorem kG{ρ:Nat->Nat}{nx pn:Nat}{h:Hz}{c n:Nat}{o:OV}{l:List (Nat×OV)}{s:List Nat}(h1:Nat.blt c nx=true)(h2:Nat.blt c pn=true->n=c)(h3:o8 n s=true)(h4:o.good nx=true)(h5: ∃ o',h.get n=some o'/\o'.aA.ty=o.aA.ty/\o'.aA.k=o.aA.k/\aQ (T.bT ρ o.aA.l) o'.aA.l)(h6:okR ρ nx pn h l s):okR ρ nx pn h ((c,o)::l) (n::s):=⟨⟨h1,h2,h3,h4,h5⟩,h6⟩
set_option maxHeartbeats 4000000 in
theorem S.pI(resp need:List Int)(f g:Bool)(hn:need.length=resp.length)(hn0:0<need.length)(hn6:need.length<=6)(h0:SV need)(_hp:y5 need.length resp) :
  (zQ resp need=true->A8 Tryz.prog 121 [.row 0 f (.ints resp),.row 0 g (.ints need)] (fun n=>.dH [.own n,.bool true]) 24 ((o7 resp need (oD need) need.length).map nP)) /\
  (zQ resp need=false->aj Tryz.prog 121 [.row 0 f (.ints resp),.row 0 g (.ints need)] (.dH [.row 0 false (.dV []),.bool (uN resp need)])):=by
 have hpos: ∀ i,0<=need.getD i 0:=fun i=>(uO h0 i).1
 refine aea.of (zQ resp need) Bd.pI (by simp) rfl (aah true) IL rfl ?_
 conv=>whnf
 refine aH.objs 0 [24,25,0,1] (fun i:Nat=>[(26,.int i)]) (fun _=>[]) (fun i=>i<=need.length/\Kr resp need i=false) (fun i=>need.length-i) 0 [] rfl (by decide) (fun _=>rfl) ⟨Nat.zero_le _,rfl⟩ (sR rfl) trivial ?_
 conv=>whnf
 refine⟨(sR rfl),rfl,?_⟩
 rintro i ⟨hi,hs⟩
 conv=>whnf
 refine⟨fun h1=>?_,fun h1=>?_⟩
 ·have hi':i<need.length:=by simpa using h1
  conv=>whnf
  repeat(refine VC.mk (by first|exact fun h=>⟨h,h⟩|(simp only[Rw.rng] at *; first|omega|(simp_all; done)|(simp_all; omega))) ?_; conv=>whnf)
  refine ah.fM (fun _=>S.slices_Contains_int resp i f (by omega)) rfl ?_
  conv=>whnf
  repeat(refine VC.mk id ?_; conv=>whnf)
  refine⟨fun h2=>?_,fun h2=>?_⟩
  ·replace h2:(decide (0<need.getD i 0)&& !(FV resp i))=true:=h2
   have hS:=XU hi' h2
   conv=>whnf
   rw[show zQ resp need=false by unfold zQ; rw[hS]; rfl,hS]
   exact⟨nofun,fun _=>ak.Rl⟩
  ·replace h2:(decide (0<need.getD i 0)&& !(FV resp i))=false:=h2
   conv=>whnf
   refine .mk (by simp only[okI] at *; first|omega|(simp_all; done)|(simp_all; omega)) ?_
   conv=>whnf
   exact⟨i+1,[],⟨hi',by rw[Rq,hs,h2]; rfl⟩,by omega,(sR rfl),(sR rfl),trivial⟩
 ·have hi':i=need.length:=by have:=of_decide_eq_false h1; omega
  subst hi'
  rw[UH] at hs
  conv=>whnf
  rw[PL hn0]
  conv=>whnf
  refine .mk (by omega) ?_
  conv=>whnf
  have hz:(oD need).length=1:=rfl
  have afl: ∀ t,need.getD t 0≠0->oC resp t≠[]:=UE hs hpos
  refine aH.fam 20000 [44,45,0] (fun t:Nat=>[(46,.int t),(8,.own 9)]) (fun t=>xR [(9,xw (o7 resp need (oD need) t).length)]++iV 10000 (fR (o7 resp need (oD need) t))) (fun t=>t<=need.length/\(o7 resp need (oD need) t).length<=100) (fun t=>need.length-t) 0 (nC 10000 (fun _=>3) (iL [(9,xw 1)] [4])) _ rfl (by decide) (fun _=>rfl) ⟨Nat.zero_le _,by show 1<=100; decide⟩ (sR rfl) (.inl rfl) ?_ ?_
  ·refine kC.fam (g:=fun _=>3) [(9,xw 1)] [4] ?_ rfl (Nat.zero_le _) (show 10000+1<=20000 by decide) (fun j o q=>?_) (fun j j' o o' q q' _=>?_)
   ·exact kG rfl nofun rfl (dD (by decide)) ⟨_,rfl,rfl,rfl,.refl _⟩ trivial
   ·match j,q with
    |0,q=>cases q; exact⟨rfl,rfl,⟨_,rfl,rfl⟩,rfl⟩
    |j+1,q=>cases q
   ·match j,j',q,q' with
    |0,0,_,_=>rfl
    |j+1,_,q,_=>cases q
    |0,j+1,_,q=>cases q
  conv=>whnf
  refine⟨(sR rfl),rfl,?_⟩
  clear h1 hi
  rintro t ⟨ht,hL⟩
  have hlen: ∀ c∈o7 resp need (oD need) t,c.length=resp.length:=VJ (by simp[hn]) hn hpos ht
  have YZ:=VL h0 (by omega:resp.length<=6) t
  have hne:(o7 resp need (oD need) t)≠[]:=by
   have:=Ri (resp:=resp) (need:=need) (out:=oD need) afl (n:=0) t
   rw[Nat.zero_add] at this
   intro h
   rw[h] at this
   exact absurd this (by show ¬ 1<=0; decide)
  have hnx:o7 resp need (oD need) (t+1)=Ig resp need (o7 resp need (oD need) t) t:=BO
  have hbig: ∀ u,u<=need.length->100<(o7 resp need (oD need) u).length->zQ resp need=false:=fun u hu hb=>by
   have:=aco afl hu hb
   unfold zQ
   rw[decide_eq_false (by omega),Bool.and_false]
  generalize hO:o7 resp need (oD need) t=OUT at hL hlen hne hnx YZ
  conv=>whnf
  refine⟨fun h1=>?_,fun h1=>?_⟩
  ·have ht':t<need.length:=by simpa using h1
   conv=>whnf
   refine .mk (by simp only[Rw.rng] at *; first|omega|(simp_all; done)|(simp_all; omega)) ?_
   conv=>whnf
   refine⟨fun h2=>?_,fun h2=>?_⟩
   ·replace h2:(need.getD t 0==0)=true:=h2
    have hsame:o7 resp need (oD need) (t+1)=OUT:=by rw[hnx]; unfold Ig; rw[h2]; rfl
    conv=>whnf
    refine .mk (by simp only[okI] at *; first|omega|(simp_all; done)|(simp_all; omega)) ?_
    conv=>whnf
    refine rJ.Fp 20000 (t+1) (fR OUT) [(9,xw OUT.length)] [9] (by rw[hsame]) ⟨ht',by rw[hsame]; exact hL⟩ (by omega) ?_ rfl rfl (Nat.zero_le _) (by rw[gW]; omega) (by decide) jh (sR rfl) (sR rfl) ?_
    (repeat' (first|refine dw.lo rfl ?_|refine dw.hi rfl ?_|exact dw.nil))
    ·exact kG rfl nofun rfl (dD (by omega)) ⟨_,rfl,rfl,rfl,jQ⟩ trivial
   ·replace h2:(need.getD t 0==0)=false:=h2
    conv=>whnf
    refine aH.nil 11 3 0 (by rfl) rfl rfl rfl ?_
    refine aH.fam 20000 [53,54,9,10,8,46,44,45,0] (fun i:Nat=>[(55,.int i),(11,.own 10)]) (fun i=>xR [(9,xw OUT.length),(10,nP (wZ resp t i))]++iV 10000 (fR OUT)) (fun i=>i<=resp.length) (fun i=>resp.length-i) 0 (nC 10000 (fun j=>10000+j) (iL [(9,xw OUT.length),(10,nP [])] [9,20012])) _ rfl (by decide) (fun _=>rfl) (Nat.zero_le _) (sR rfl) (.inl rfl) ?_ ?_
    ·refine kC.VH 20000 [(9,xw OUT.length),(10,nP [])] [9,20012] ?_ rfl rfl (Nat.zero_le _) (by rw[gW]; omega) (by decide) jh ?_
     (repeat' (first|refine dw.lo rfl ?_|refine dw.hi rfl ?_|exact dw.nil))
     ·exact kG rfl nofun rfl (dD (by omega)) ⟨_,rfl,rfl,rfl,jQ⟩ (kG rfl nofun rfl rfl ⟨_,rfl,rfl,rfl,.refl _⟩ trivial)
    conv=>whnf
    refine⟨(sR rfl),rfl,?_⟩
    rintro i hi
    have hfl:=Nu (resp:=resp) (t:=t) (i:=i)
    conv=>whnf
    refine⟨fun h3=>?_,fun h3=>?_⟩
    ·have hi':i<resp.length:=by simpa using h3
     conv=>whnf
     refine .mk (by simp only[Rw.rng] at *; first|omega|(simp_all; done)|(simp_all; omega)) ?_
     conv=>whnf
     refine⟨fun h4=>?_,fun h4=>?_⟩
     ·replace h4:(resp.getD i 0==(t:Int))=true:=h4
      have hf:wZ resp t (i+1)=wZ resp t i++[(i:Int)]:=by rw[Kq,h4]; rfl
      conv=>whnf
      repeat(refine VC.mk (by first|(simp only[nI,nU,Rw.len,List.length_cons,List.length_nil]; omega)|(simp only[okI] at *; first|omega|(simp_all; done)|(simp_all; omega))) ?_; conv=>whnf)
      refine rJ.Fp 20000 (i+1) (fR OUT) [(9,xw OUT.length),(10,nP (wZ resp t (i+1)))] [9,20012] rfl hi' (by omega) ?_ rfl rfl (Nat.zero_le _) (by rw[gW]; omega) (by decide) jh (sR rfl) (sR rfl) ?_
      (repeat' (first|refine dw.lo rfl ?_|refine dw.hi rfl ?_|exact dw.nil))
      ·exact kG rfl nofun rfl (dD (by omega)) ⟨_,rfl,rfl,rfl,jQ⟩ (kG rfl nofun rfl rfl ⟨_,rfl,rfl,rfl,by rw[hf,OV.dU rfl]; exact .refl _⟩ trivial)
     ·replace h4:(resp.getD i 0==(t:Int))=false:=h4
      have hf:wZ resp t (i+1)=wZ resp t i:=by rw[Kq,h4]; rfl
      conv=>whnf
      refine .mk (by simp only[okI] at *; first|omega|(simp_all; done)|(simp_all; omega)) ?_
      conv=>whnf
      refine rJ.Fp 20000 (i+1) (fR OUT) [(9,xw OUT.length),(10,nP (wZ resp t (i+1)))] [9,10] rfl hi' (by omega) ?_ rfl rfl (Nat.zero_le _) (by rw[gW]; omega) (by decide) jh (sR rfl) (sR rfl) ?_
      (repeat' (first|refine dw.lo rfl ?_|refine dw.hi rfl ?_|exact dw.nil))
      ·exact kG rfl nofun rfl (dD (by omega)) ⟨_,rfl,rfl,rfl,jQ⟩ (kG rfl nofun rfl rfl ⟨_,rfl,rfl,rfl,by rw[hf,OV.dU rfl]; exact .refl _⟩ trivial)
    ·have hi':i=resp.length:=by have:=of_decide_eq_false h3; omega
     subst hi'
     have hFr:wZ resp t resp.length=oC resp t:=rfl
     rw[hFr] at hfl ⊢
     have hrg: ∀ x∈oC resp t,0<=x/\x<resp.length:=fun x hx=>XT x (hFr▸hx)
     have hm:=uO h0 t
     have hm0:need.getD t 0≠0:=by simpa using h2
     generalize hX:oC resp t=XS at hfl hrg
     obtain⟨m,hm'⟩: ∃ m:Nat,need.getD t 0=(m:Int):=⟨(need.getD t 0).toNat,by omega⟩
     have hmT:(need.getD t 0).toNat=m:=by omega
     have htl:=aci (resp:=resp) (out:=OUT) hm0
     rw[hX,hmT,<- hnx] at htl
     conv=>whnf
     rw[show need.getD ((t:Int)).toNat 0=(m:Int) from hm']
     refine ah.pure (S.mg XS.length m (by omega) (by omega)) GZ ?_
     by_cases hd:(kF XS.length m).length<=100
     ·rw[yS hd]
      have hmul:OUT.length*(kF XS.length m).length<=100*100:=Nat.mul_le_mul hL hd
      conv=>whnf
      repeat(refine VC.mk (by first|(intro _; refine⟨rfl,rfl,?_⟩; show okI (((qO 10000 OUT.length).length:Int)*((kF XS.length m).length:Int)); rw[oz,<- Int.natCast_mul]; simp only[okI]; omega)|exact fun h=>h|(intro h; rw[h]; rfl)) ?_; conv=>whnf)
      refine⟨fun h4=>?_,fun h4=>?_⟩
      ·have hf:100<OUT.length*(kF XS.length m).length:=by
        replace h4:decide (100<((qO 10000 OUT.length).length:Int)*((kF XS.length m).length:Int))=true:=h4
        have:=of_decide_eq_true h4
        rw[oz,<- Int.natCast_mul] at this
        omega
       have hno:=hbig (t+1) ht' (by rw[htl]; exact hf)
       rw[hno,hs]
       conv=>whnf
       exact⟨nofun,fun _=>ak.Rl⟩
      ·have hf:OUT.length*(kF XS.length m).length<=100:=by
        replace h4:decide (100<((qO 10000 OUT.length).length:Int)*((kF XS.length m).length:Int))=false:=h4
        have:=of_decide_eq_false h4
        rw[oz,<- Int.natCast_mul] at this
        omega
       have hsl: ∀ x∈kF XS.length m,x.length=XS.length/\(x.sum=m/\ ∀ y∈x,0<=y):=fun x hx=>⟨FC hx,OX hx⟩
       have hfin:(OUT.flatMap fun c=>(kF XS.length m).map fun x=>oZ c XS x)=o7 resp need (oD need) (t+1):=by
        rw[hnx]
        unfold Ig
        rw[h2,hX,hmT]
        show _=OUT.flatMap _
        congr 1
        funext c
        rw[BN]
       generalize hS:kF XS.length m=SH at hf hsl hd hfin
       conv=>whnf
       refine aH.nil 16 24 0 (by rfl) rfl rfl rfl ?_
       refine aH.fam 20000 [85,86,14,11,46,44,45,0] (fun i:Nat=>[(87,.int i),(16,.own 11)]) (fun i=>xR (Ih OUT XS (Dh OUT SH XS i 0).length)++iV 10000 (fR (Dh OUT SH XS i 0))) (fun i=>i<=OUT.length) (fun i=>OUT.length-i) 0 (nC 10000 (fun j=>10000+j) (iL (Ih OUT XS 0) [9,10,20024])) [(9,some (.row 24 0 (.dV OUT) [])),(10,some (nP XS)),(20024,some (.row 24 0 .nil []))] rfl (by decide) (fun _=>rfl) (Nat.zero_le _) (sR rfl) (.inr ⟨fun c=>10000<=c/\c<20000,XR (R:=OUT) 20000 rfl (show ¬ (10000<=9/\9<20000) by omega) (fun j hj=>show 10000<=10000+j/\10000+j<20000 by omega) ?_ (by omega) (BR rfl (show ¬ (10000<=10/\10<20000) by omega) (BR rfl (show ¬ (10000<=20024/\20024<20000) by omega) trivial))⟩) ?_ ?_
       (repeat' (first|refine dw.lo rfl ?_|refine dw.hi rfl ?_|exact dw.nil))
       ·refine kC.fam (g:=fun j=>10000+j) (Ih OUT XS 0) [9,10,20024] ?_ rfl (Nat.zero_le _) (show 10000+0<=20000 by decide) (fun j o q=>by cases q) (fun j _ o _ q=>by cases q)
        exact kG rfl nofun rfl rfl ⟨_,rfl,rfl,rfl,by rw[OV.dU rfl]; exact .refl _⟩ (kG rfl nofun rfl rfl ⟨_,rfl,rfl,rfl,by rw[OV.dU rfl]; exact .refl _⟩ (kG rfl nofun rfl rfl ⟨_,rfl,rfl,rfl,.refl _⟩ trivial))
       conv=>whnf
       refine⟨(sR rfl),rfl,?_⟩
       clear hi
       rintro i hi
       have hN0:=O5 (xs:=XS) hi (Nat.zero_le SH.length)
       have aed: ∀ i j,i<OUT.length->j<=SH.length->i*SH.length+j<=100:=fun i j h1 h2=>by
        have:=Nat.mul_le_mul_right SH.length h1
        rw[Nat.succ_mul] at this
        omega
       have hN0':i*SH.length<=100:=Nat.le_trans (Nat.mul_le_mul_right _ hi) hf
       conv=>whnf
       refine⟨fun h5=>?_,fun h5=>?_⟩
       ·have hi':i<OUT.length:=by simpa using h5
        have hmem:OUT.getD ((i:Int)).toNat []∈OUT:=by show OUT.getD i []∈OUT; rw[getD_some hi']; exact List.getElem_mem hi'
        have hb:=hlen _ hmem
        have hbb:=YZ _ hmem
        conv=>whnf
        repeat(refine VC.mk (by simp only[Rw.rng] at *; first|omega|(simp_all; done)|(simp_all; omega)) ?_; conv=>whnf)
        refine aH.fam 20000 [91,92,18,11,87,85,86,14,46,44,45,0] (fun j:Nat=>[(93,.int j),(16,.own 11)]) (fun j=>xR (Ih OUT XS (Dh OUT SH XS i j).length)++iV 10000 (fR (Dh OUT SH XS i j))) (fun j=>j<=SH.length) (fun j=>SH.length-j) 0 (nC 10000 (fun j=>10000+j) (iL (Ih OUT XS (Dh OUT SH XS i 0).length) [9,10,11])) _ rfl (by decide) (fun _=>rfl) (Nat.zero_le _) (sR rfl) (.inl rfl) ?_ ?_
        ·refine kC.VH 20000 (Ih OUT XS (Dh OUT SH XS i 0).length) [9,10,11] ?_ rfl rfl (Nat.zero_le _) (by rw[gW]; omega) (by decide) jh ?_
         (repeat' (first|refine dw.lo rfl ?_|refine dw.hi rfl ?_|exact dw.nil))
         ·exact kG rfl nofun rfl rfl ⟨_,rfl,rfl,rfl,by rw[OV.dU rfl]; exact .refl _⟩ (kG rfl nofun rfl rfl ⟨_,rfl,rfl,rfl,by rw[OV.dU rfl]; exact .refl _⟩ (kG rfl nofun rfl (dD (by omega)) ⟨_,rfl,rfl,rfl,jQ⟩ trivial))
        conv=>whnf
        refine⟨(sR rfl),rfl,?_⟩
        rintro j hj
        have hNj:=O5 (xs:=XS) hi hj
        have agl:=aed i j hi' hj
        conv=>whnf
        refine⟨fun h6=>?_,fun h6=>?_⟩
        ·have hj':j<SH.length:=by simpa using h6
         have hNs:Dh OUT SH XS i (j+1)=Dh OUT SH XS i j++[oZ (OUT.getD ((i:Int)).toNat []) XS (SH.getD ((j:Int)).toNat [])]:=aam hj'
         have hN1:=O5 (xs:=XS) hi hj'
         rw[hNs] at hN1
         have agm:=aed i (j+1) hi' hj'
         obtain⟨hs1,hs2,hs3⟩:=hsl (SH.getD ((j:Int)).toNat []) (by show SH.getD j []∈SH; rw[getD_some hj']; exact List.getElem_mem hj')
         have hs4: ∀ k∈SH.getD ((j:Int)).toNat [],0<=k/\k<=1048576:=fun k hk=>⟨hs3 k hk,by have:=VK hs3 hk; rw[hs2] at this; omega⟩
         conv=>whnf
         repeat(refine VC.mk (by first|(simp only[nI,nU,Rw.len]; omega)|(simp only[Rw.rng] at *; first|omega|(simp_all; done)|(simp_all; omega))) ?_; conv=>whnf)
         generalize hbase:OUT.getD ((i:Int)).toNat []=base at hb hbb hNs hN1 ⊢
         generalize agn:SH.getD ((j:Int)).toNat []=shr at hs1 hs2 hs3 hs4 hNs hN1 ⊢
         refine aH.fam 20000 [99,100,11,16,93,91,92,18,87,85,86,14,46,44,45,0] (fun x:Nat=>[(101,.int x),(21,.own 12)]) (fun x=>xR (Ih OUT XS (Dh OUT SH XS i j).length++[(12,nP (G5 base XS shr x))])++iV 10000 (fR (Dh OUT SH XS i j))) (fun x=>x<=shr.length) (fun x=>shr.length-x) 0 (nC 10000 (fun j=>10000+j) (iL (Ih OUT XS (Dh OUT SH XS i j).length++[(12,nP (G5 base XS shr 0))]) [9,10,11,20005])) _ rfl (by decide) (fun _=>rfl) (Nat.zero_le _) (sR rfl) (.inl rfl) ?_ ?_
         ·refine kC.VH 20000 (Ih OUT XS (Dh OUT SH XS i j).length++[(12,nP (G5 base XS shr 0))]) [9,10,11,20005] ?_ rfl rfl (Nat.zero_le _) (by rw[gW]; omega) (by decide) jh ?_
          (repeat' (first|refine dw.lo rfl ?_|refine dw.hi rfl ?_|exact dw.nil))
          ·exact kG rfl nofun rfl rfl ⟨_,rfl,rfl,rfl,by rw[OV.dU rfl]; exact .refl _⟩ (kG rfl nofun rfl rfl ⟨_,rfl,rfl,rfl,by rw[OV.dU rfl]; exact .refl _⟩ (kG rfl nofun rfl (dD (by omega)) ⟨_,rfl,rfl,rfl,jQ⟩ (kG rfl nofun rfl rfl ⟨_,rfl,rfl,rfl,by rw[OV.dU rfl]; exact .refl _⟩ trivial)))
         conv=>whnf
         refine⟨(sR rfl),rfl,?_⟩
         rintro x hx
         have hpl:=@aal base XS shr x
         have hpb: ∀ k,0<=(G5 base XS shr x).getD k 0/\(G5 base XS shr x).getD k 0<=50000000:=fun k=>by
          have h1:=Ru (xs:=XS.take x) (ks:=shr.take x) (M:=1048576) hbb (fun k hk=>hs4 k (List.mem_of_mem_take hk)) (by decide) k
          have h2:((XS.take x).length:Int)*1048576<=6*1048576:=Int.mul_le_mul_of_nonneg_right (by rw[List.length_take]; omega) (by decide)
          have h3:(t:Int)*6291456<=6*6291456:=Int.mul_le_mul_of_nonneg_right (by omega) (by decide)
          unfold G5
          omega
         conv=>whnf
         refine⟨fun h7=>?_,fun h7=>?_⟩
         ·have hx':x<shr.length:=by simpa using h7
          have af7:=XV (c:=base) (xs:=XS) (ks:=shr) (i:=x) (by omega) hx'
          have hxr:=hrg (XS.getD x 0) (by rw[getD_some (by omega)]; exact List.getElem_mem _)
          have hxk:=hs4 (shr.getD x 0) (by rw[getD_some hx']; exact List.getElem_mem _)
          have hpx:=hpb (XS.getD ((x:Int)).toNat 0).toNat
          replace hxr:0<=XS.getD ((x:Int)).toNat 0/\XS.getD ((x:Int)).toNat 0<resp.length:=hxr
          replace hxk:0<=shr.getD ((x:Int)).toNat 0/\shr.getD ((x:Int)).toNat 0<=1048576:=hxk
          conv=>whnf
          repeat(refine VC.mk (by first|(simp only[Rw.rng]; omega)|(simp only[okI]; omega)) ?_; conv=>whnf)
          refine rJ.Fp 20000 (x+1) (fR (Dh OUT SH XS i j)) (Ih OUT XS (Dh OUT SH XS i j).length++[(12,nP (G5 base XS shr (x+1)))]) [9,10,11,12] rfl hx' (by omega) ?_ rfl rfl (Nat.zero_le _) (by rw[gW]; omega) (by decide) jh (sR rfl) (sR rfl) ?_
          (repeat' (first|refine dw.lo rfl ?_|refine dw.hi rfl ?_|exact dw.nil))
          ·exact kG rfl nofun rfl rfl ⟨_,rfl,rfl,rfl,by rw[OV.dU rfl]; exact .refl _⟩ (kG rfl nofun rfl rfl ⟨_,rfl,rfl,rfl,by rw[OV.dU rfl]; exact .refl _⟩ (kG rfl nofun rfl (dD (by omega)) ⟨_,rfl,rfl,rfl,jQ⟩ (kG rfl nofun rfl rfl ⟨_,rfl,rfl,rfl,by rw[af7,OV.dU rfl]; exact .refl _⟩ trivial)))
         ·have hx':x=shr.length:=by have:=of_decide_eq_false h7; omega
          subst hx'
          rw[aak hs1.symm] at hpl ⊢
          conv=>whnf
          repeat(refine VC.mk (by first|(show((qO 10000 (Dh OUT SH XS i j).length).length+(0+1))*24<=140737488355328/\(qO 10000 (Dh OUT SH XS i j).length).length+(0+1)<=1152921504606846976; rw[oz]; omega)|(simp only[okI] at *; first|omega|(simp_all; done)|(simp_all; omega))) ?_; conv=>whnf)
          refine rJ.ZP 20000 (j+1) (Dh OUT SH XS i j).length 12 (fR (Dh OUT SH XS i j)) (fR (Dh OUT SH XS i j++[oZ base XS shr])) (Ih OUT XS ((Dh OUT SH XS i j).length+1)) [9,10,20004] (by rw[hNs,List.length_append]; rfl) hj' (by omega) ?_ rfl rfl rfl (Nat.zero_le _) (by rw[gW]; omega) (by rw[gW]; omega) (by decide) jh ?_ (UG rfl) (sR rfl) (sR rfl) ?_
          (repeat' (first|refine dw.lo rfl ?_|refine dw.hi rfl ?_|exact dw.nil))
          ·intro o ho
           rw[OY rfl] at ho
           cases ho
           exact⟨_,rfl,rfl⟩
          ·exact kG rfl nofun rfl rfl ⟨_,rfl,rfl,rfl,by rw[OV.dU rfl]; exact .refl _⟩ (kG rfl nofun rfl rfl ⟨_,rfl,rfl,rfl,by rw[OV.dU rfl]; exact .refl _⟩ (kG rfl nofun rfl (dD (by omega)) ⟨_,rfl,rfl,rfl,GV⟩ trivial))
        ·have hj':j=SH.length:=by have:=of_decide_eq_false h6; omega
         subst hj'
         have hst:=aan (S:=SH) (xs:=XS) hi'
         conv=>whnf
         refine .mk (by simp only[okI] at *; first|omega|(simp_all; done)|(simp_all; omega)) ?_
         conv=>whnf
         refine rJ.Fp 20000 (i+1) (fR (Dh OUT SH XS i SH.length)) (Ih OUT XS (Dh OUT SH XS i SH.length).length) [9,10,11] (by rw[hst]) hi' (by omega) ?_ rfl rfl (Nat.zero_le _) (by rw[gW]; omega) (by decide) jh (sR rfl) (sR rfl) ?_
         (repeat' (first|refine dw.lo rfl ?_|refine dw.hi rfl ?_|exact dw.nil))
         ·exact kG rfl nofun rfl rfl ⟨_,rfl,rfl,rfl,by rw[OV.dU rfl]; exact .refl _⟩ (kG rfl nofun rfl rfl ⟨_,rfl,rfl,rfl,by rw[OV.dU rfl]; exact .refl _⟩ (kG rfl nofun rfl (dD (by omega)) ⟨_,rfl,rfl,rfl,jQ⟩ trivial))
       ·have hi':i=OUT.length:=by have:=of_decide_eq_false h5; rw[oz] at this; omega
        subst hi'
        rw[acp,hfin] at hN0 ⊢
        conv=>whnf
        refine .mk (by simp only[okI] at *; first|omega|(simp_all; done)|(simp_all; omega)) ?_
        conv=>whnf
        refine rJ.Fp 20000 (t+1) (fR (o7 resp need (oD need) (t+1))) [(9,xw (o7 resp need (oD need) (t+1)).length)] [11] rfl ⟨ht',by omega⟩ (by omega) ?_ rfl rfl (Nat.zero_le _) (by rw[gW]; omega) (by decide) jh (sR rfl) (sR rfl) ?_
        (repeat' (first|refine dw.lo rfl ?_|refine dw.hi rfl ?_|exact dw.nil))
        ·exact kG rfl nofun rfl (dD (by omega)) ⟨_,rfl,rfl,rfl,jQ⟩ trivial
     ·have hnone:divO XS.length m=none:=by unfold divO; rw[if_neg hd]
      rw[BQ hnone]
      have hno:=hbig (t+1) ht' (by
       rw[htl]
       have:0<OUT.length:=List.length_pos_iff.2 hne
       exact Nat.lt_of_lt_of_le (by omega:100<(kF XS.length m).length) (Nat.le_mul_of_pos_left _ this))
      rw[hno,hs]
      conv=>whnf
      repeat(refine VC.mk (by first|exact id|(intro h; rw[h]; rfl)|(intro h; simp_all; done)) ?_; conv=>whnf)
      refine Fork.mk (fun _=>?_) (fun q=>absurd (q.symm.trans (rfl)) Bool.false_ne_true)
      conv=>whnf
      exact⟨nofun,fun _=>ak.Rl⟩
  ·have ht':t=need.length:=by have:=of_decide_eq_false h1; omega
   subst ht'
   have hok:zQ resp need=true:=by unfold zQ; rw[hs,hO,decide_eq_true hL]; rfl
   rw[hok,hO]
   conv=>whnf
   refine⟨fun _=>OW.fam 20000 rfl (by decide) ?_ (by omega),nofun⟩
   (repeat' (first|refine dw.lo rfl ?_|refine dw.hi rfl ?_|exact dw.nil))
theorem Na.fR(C k:Nat){j:Nat}{R:List (List Int)}{h:Hz}{K:Nat->Rw->Prop}(e:h.drop k=iV 10000 (fR R))(ho:DZ 10000 C (h.take k)=true)(hC:10000+R.length<=C)(hj:j<R.length)(hK:K 0 (.ints (R.getD j []))):Na h (10000+j) K :=
 Na.fam C (show Cm (h.take k) _ h from by rw[Cm,<- e,List.take_append_drop]) ho (by rw[gW]; exact hC) (J9 hj) hK
theorem aee{R:List (List Int)}{j:Nat}{r:List Int}:(fR R).set j (some (nP r))=fR (R.set j r):=(List.map_set ..).symm
theorem Lu.fR(C k:Nat){j x:Nat}{R:List (List Int)}{v:V}{h:Hz}{K:Hz->Prop}(r':List Int)(e:h.drop k=iV 10000 (fR R))(ho:DZ 10000 C (h.take k)=true)(hC:10000+R.length<=C)(hj:j<R.length)(hr:x<(R.getD j []).length)(hs:(Rw.ints (R.getD j [])).set x v=some (.ints r'))
  (hK:K (h.take k++iV 10000 (fR (R.set j r')))):Lu h (10000+j) x 0 v K :=
 Lu.fam C (show Cm (h.take k) _ h from by rw[Cm,<- e,List.take_append_drop]) ho (by rw[gW]; exact hC) (J9 hj) hs (by show 0<=(x:Int)/\(x:Int)<_; omega) (by rw[aee]; exact hK)
theorem VN{B k:Nat}{f:Nat->Nat}:aQ (T.bT (nC 10000 (fun j=>B+j) f) (xw k).aA.l) (AZ 24 B k).aA.l:=by
 refine aQ.of_eq ?_
 show T.bT _ (V.aV (qO 10000 k))=V.aV (qO B k)
 rw[lJ,lJ,GU,List.map_map]
 refine List.map_congr_left fun j _=>?_
 show T.own (nC 10000 (fun j=>B+j) f (10000+j))=T.own (B+j)
 rw[uY]
theorem VO{n j:Nat}{x:Option OV}{L:List (Option OV)}{h:Hz}(hj:j<L.length):Hz.get (n+1+j) ((n,x)::(iV (n+1) L++h))=(L[j]?).join:=by
 simp only[Hz.get]
 have hne:Nat.beq n (n+1+j)=false:=by
  cases e:Nat.beq n (n+1+j) with
  |false=>rfl
  |true=>have:=fB e; omega
 rw[hne,cond_false,Uz hj]
theorem aao{a x y:Nat}(h1:a≠x)(h2:a≠y):o8 a [x,y]=true:=by
 have e: ∀ z,a≠z->Nat.beq a z=false:=fun z h=>by
  cases e:Nat.beq a z with
  |false=>rfl
  |true=>exact absurd (fB e) h
 simp only[o8,e x h1,e y h2]; rfl
def xA(R:List (List Int))(f:Int)(i:Nat):List (List Int):=(R.take i).map (fun l=>dI l f 1)++R.drop i
theorem uF{R:List (List Int)}{f:Int}{i:Nat}(h:i<=R.length):(xA R f i).length=R.length:=by
 unfold xA
 rw[List.length_append,List.length_map,List.length_take,List.length_drop]; omega
theorem FD{R:List (List Int)}{f:Int}{i:Nat}(h:i<R.length):(xA R f i).getD i []=R.getD i []:=by
 unfold xA
 rw[List.getD_eq_getElem?_getD,List.getElem?_append_right (by rw[List.length_map,List.length_take]; omega),List.length_map,List.length_take,Nat.min_eq_left (by omega),Nat.sub_self,List.getElem?_drop,Nat.add_zero,<- List.getD_eq_getElem?_getD]
theorem FH{R:List (List Int)}{f:Int}{i:Nat}(h:i<R.length):xA R f (i+1)=(xA R f i).set i (dI (R.getD i []) f 1):=by
 unfold xA
 rw[List.take_succ_eq_append_getElem h,List.map_append,List.set_append_right _ _ (by rw[List.length_map,List.length_take]; omega),List.length_map,List.length_take,Nat.min_eq_left (by omega),Nat.sub_self,List.drop_eq_getElem_cons h,List.set_cons_zero,getD_some h,List.append_assoc]; rfl
theorem FI{R:List (List Int)}{f:Int}:xA R f R.length=R.map fun l=>dI l f 1:=by
 unfold xA
 rw[List.take_length,List.drop_length,List.append_nil]
theorem vN{R:List (List Int)}{f:Int}:xA R f 0=R:=rfl
theorem Rx{n:Nat}{x:Option OV}{L:List (Option OV)}{i:Nat}{o:OV}{h:Hz}(hi:i<n)(e:h.get i=some o:=by rfl):Hz.get i ((n,x)::(iV (n+1) L++h))=some o:=by
 simp only[Hz.get]
 have hne:Nat.beq n i=false:=by
  cases e:Nat.beq n i with
  |false=>rfl
  |true=>have:=fB e; omega
 rw[hne,cond_false,OU (.inl (by omega)),e]
def Kt(r:Rule)(c:List Int):V:=bif decide ((yj r c).length<=100) then .dH [.row 0 false (.dV (yj r c)),.bool true] else .dH [.row 0 false (.dV []),.bool false]
theorem Nv{r:Rule}{c:List Int}:(Kt r c).free=true:=by unfold Kt; cases decide ((yj r c).length<=100)<;>rfl
theorem zC{r:Rule}{c:List Int}:Df r c=(bif r.kind==1 then(bif y7 r (lS c r.to) then [lS c r.to] else r.ex.map fun x=>dI (lS c r.to) x 1) else
  bif r.kind==2 then [dI (lS (lS c r.to) r.zX) r.jE 1] else
  bif r.kind==3 then(bif uN r.response (lS c r.to) then [] else o7 r.response (lS c r.to) (oD (lS c r.to)) (lS c r.to).length) else [lS c r.to]):=rfl
theorem xg{c:List Int}{i:Int}(h:SV c):SV (lS c i):=by
 intro x hx
 rcases List.mem_or_eq_of_mem_set hx with h1|h1
 ·exact h x h1
 ·have:=uO h i.toNat; omega
theorem Ku{r:Rule}{c:List Int}(hp:I7 c.length r)(h0:SV c)(hl:c.length<=6): ∀ l∈Df r c,l.length=c.length/\ ∀ j,0<=l.getD j 0/\l.getD j 0<=50000000:=by
 have hd:SV (lS c r.to):=xg h0
 have hone: ∀ (d:List Int) (x:Int),SV d-> ∀ j,0<=(dI d x 1).getD j 0/\(dI d x 1).getD j 0<=50000000:=fun d x h j=>by
  have:=Rt (B:=1048576) (M:=1) (i:=x) (d:=1) (uO h) (by omega) j
  omega
 intro l hl'
 rw[zC] at hl'
 cases h1:(r.kind==1) with
 |true =>
  rw[h1,cond_true] at hl'
  cases ha:y7 r (lS c r.to) with
  |true =>
   rw[ha,cond_true,List.mem_singleton] at hl'
   subst hl'
   exact⟨jR,fun j=>by have:=uO hd j; omega⟩
  |false =>
   rw[ha,cond_false,List.mem_map] at hl'
   obtain⟨x,_,rfl⟩:=hl'
   exact⟨by rw[tJ,jR],hone _ x hd⟩
 |false =>
  rw[h1,cond_false] at hl'
  cases h2:(r.kind==2) with
  |true =>
   rw[h2,cond_true,List.mem_singleton] at hl'
   subst hl'
   exact⟨by rw[tJ,jR,jR],hone _ _ (xg hd)⟩
  |false =>
   rw[h2,cond_false] at hl'
   cases h3:(r.kind==3) with
   |true =>
    obtain⟨aap,afm⟩:=hp.rsp (by simpa using h3)
    rw[h3,cond_true] at hl'
    cases hs:uN r.response (lS c r.to) with
    |true=>rw[hs,cond_true] at hl'; cases hl'
    |false =>
     rw[hs,cond_false] at hl'
     have h1:=VJ (b:=List.replicate (lS c r.to).length 0) (by simp[jR,aap]) (by rw[jR,aap]) (fun i=>(uO hd i).1) (Nat.le_refl _) l hl'
     refine⟨by rw[h1,aap],fun j=>?_⟩
     have:=VL hd (by omega) _ l hl' j
     rw[jR] at this
     have:(c.length:Int)*6291456<=6*6291456:=Int.mul_le_mul_of_nonneg_right (by omega) (by decide)
     omega
   |false =>
    rw[h3,cond_false,List.mem_singleton] at hl'
    subst hl'
    exact⟨jR,fun j=>by have:=uO hd j; omega⟩
abbrev zW(r:Rule):OV:=.box 86 19 (.dat (.rule r))
set_option maxHeartbeats 4000000 in
theorem S.jT(r:Rule)(c:List Int)(f:Bool)(hr:sJ r)(hp:I7 c.length r)(h0:SV c)(hl0:0<c.length)(hl:c.length<=6)(hx:r.ex.length<=100)(hk:r.kind=1\/r.kind=2\/r.kind=3):aj Tryz.prog 85 [.dat (.rule r),.row 0 f (.ints c)] (Kt r c):=by
 have hfree:=@Nv r c
 have hsm:=Ku hp h0 hl
 have hB:yj r c=(Df r c).map fun l=>dI l r.fr 1:=rfl
 obtain⟨q1,q2⟩:=hp.dst
 obtain⟨q3,q4⟩:=hp.afz
 obtain⟨q5,q6⟩:=hp.afy
 obtain⟨q7,q8⟩:=hp.src
 have hc0:=uO h0
 generalize hv:Kt r c=res
 rw[hv] at hfree
 refine aj.ofF Bd.jT rfl (by simp) rfl hfree ?_
 have hdt:=hc0 r.to.toNat
 conv=>whnf
 repeat(refine VC.mk (by first|(simp only[Rw.rng]; omega)|(simp only[okI]; omega)|(simp only[nI,nU,Rw.len]; omega)) ?_; conv=>whnf)
 refine⟨fun h1=>?_,fun h1=>?_⟩
 ·have hk1:r.kind=1:=by simpa using h1
  conv=>whnf
  cases ha:y7 r (lS c r.to) with
  |true =>
   obtain⟨RS,Bf⟩: ∃ RS,RS=[lS c r.to]:=⟨_,rfl⟩
   have hlen:RS.length=1:=by rw[Bf]; rfl
   have hcR:Df r c=RS:=by rw[Bf,zC,show(r.kind==1)=true by rw[hk1]; rfl,ha]; rfl
   have Kv:RS.length<=100:=by omega
   have hRS: ∀ l∈RS,l.length=c.length/\ ∀ j,0<=l.getD j 0/\l.getD j 0<=50000000:=fun l hl'=>hsm l (by rw[hcR]; exact hl')
   have hres:V.dH [.row 0 false (.dV (RS.map fun l=>dI l r.fr 1)),.bool true]=res:=by
    rw[<- hv]; unfold Kt; rw[hB,hcR,decide_eq_true (by rw[List.length_map]; exact Kv)]; rfl
   refine ah.Ut [4] (S.O1 r (lS c r.to) hr (by rw[jR]; omega) ha) rfl rfl rfl rfl rfl ⟨⟨_,rfl,uD rfl _⟩,trivial⟩ rfl (by decide) ?_
   rintro t hp' ⟨rfl,rfl⟩
   refine⟨.own 27,[some (nP (lS c r.to)),some (.gen 24 0 [.inn 4])],rfl,rfl,⟨congrArg some (uD rfl _).symm,rfl,trivial⟩,?_⟩
   conv=>whnf
   refine aH.fam 20000 [65,2] (fun i:Nat=>[(66,.int i),(64,.own 9),(7,.own 9)]) (fun i=>xR [(0,zW r),(9,xw RS.length)]++iV 10000 (fR (xA RS r.fr i))) (fun i=>i<=RS.length) (fun i=>RS.length-i) 0 (nC 10000 (fun _=>4) (iL [(0,zW r),(9,xw RS.length)] [0,27])) _ rfl (by decide) (fun _=>rfl) (Nat.zero_le _) (sR rfl) (.inl rfl) ?_ ?_
   ·refine kC.fam (g:=fun _=>4) [(0,zW r),(9,xw RS.length)] [0,27] ?_ rfl (Nat.zero_le _) (by rw[gW,uF (Nat.zero_le _)]; omega) (fun j o q=>?_) (fun j j' o o' q q' _=>?_)
    ·exact kG rfl nofun rfl rfl ⟨_,rfl,rfl,rfl,by rw[OV.dU rfl]; exact .refl _⟩ (kG rfl nofun rfl (dD (by omega)) ⟨_,rfl,rfl,rfl,by rw[hlen]; exact .refl _⟩ trivial)
    ·rw[vN,Bf] at q
     match j,q with
     |0,q=>cases q; exact⟨rfl,rfl,⟨_,rfl,rfl⟩,rfl⟩
     |j+1,q=>cases q
    ·rw[vN,Bf] at q q'
     match j,j',q,q' with
     |0,0,_,_=>rfl
     |j+1,_,q,_=>cases q
     |0,j+1,_,q=>cases q
   conv=>whnf
   refine⟨(sR rfl),rfl,?_⟩
   rintro i hi
   have hpl:=uF (f:=r.fr) hi
   conv=>whnf
   refine⟨fun h5=>?_,fun h5=>?_⟩
   ·have hi':i<RS.length:=by
     have:=of_decide_eq_true h5
     (try simp only[List.length_cons,List.length_nil] at this)
     first|omega|(replace h5:decide ((i:Int)<1)=true:=h5; have:=of_decide_eq_true h5; omega)
    have hg:=FD (f:=r.fr) hi'
    obtain⟨hR1,hR2⟩:=hRS (RS.getD i []) (by rw[getD_some hi']; exact List.getElem_mem hi')
    rw[<- hg] at hR1 hR2
    have Yd:=hR2 r.fr.toNat
    conv=>whnf
    refine .mk (by show 0<=(i:Int)/\(i:Int)<((qO 10000 RS.length).length:Int); rw[oz]; omega) ?_
    conv=>whnf
    refine AtZ.inn hi' ?_
    conv=>whnf
    refine Na.fR 20000 2 rfl rfl (by omega) (by rw[hpl]; exact hi') ?_
    conv=>whnf
    refine .mk (by simp only[Rw.rng] at *; first|omega|(simp_all; done)|(simp_all; omega)) ?_
    conv=>whnf
    refine Na.fR 20000 2 rfl rfl (by omega) (by rw[hpl]; exact hi') ?_
    conv=>whnf
    repeat(refine VC.mk (by simp only[okI,Rw.rng] at *; first|omega|(simp_all; done)|(simp_all; omega)) ?_; conv=>whnf)
    refine Na.fR 20000 2 rfl rfl (by omega) (by rw[hpl]; exact hi') ?_
    conv=>whnf
    refine .mk (by simp only[Rw.rng] at *; first|omega|(simp_all; done)|(simp_all; omega)) ?_
    conv=>whnf
    refine Lu.fR 20000 2 (dI (RS.getD i []) r.fr 1) rfl rfl (by omega) (by rw[hpl]; exact hi') (by show r.fr.toNat<((xA RS r.fr i).getD i []).length; omega) (by show some _=some _; rw[<- hg]; rfl) ?_
    conv=>whnf
    refine .mk (by simp only[okI] at *; first|omega|(simp_all; done)|(simp_all; omega)) ?_
    conv=>whnf
    refine rJ.Fp 20000 (i+1) (fR ((xA RS r.fr i).set i (dI (RS.getD i []) r.fr 1))) [(0,zW r),(9,xw RS.length)] [0,9] (by rw[FH hi']) hi' (by omega) ?_ rfl rfl (Nat.zero_le _) (by rw[gW,List.length_set,hpl]; omega) (by decide) jh (sR rfl) (sR rfl) ?_
    (repeat' (first|refine dw.lo rfl ?_|refine dw.hi rfl ?_|exact dw.nil))
    ·exact kG rfl nofun rfl rfl ⟨_,rfl,rfl,rfl,by rw[OV.dU rfl]; exact .refl _⟩ (kG rfl nofun rfl (dD (by omega)) ⟨_,rfl,rfl,rfl,jQ⟩ trivial)
   ·have hi':i=RS.length:=by
     have:=of_decide_eq_false h5
     (try simp only[List.length_cons,List.length_nil] at this)
     first|omega|(replace h5:decide ((i:Int)<1)=false:=h5; have:=of_decide_eq_false h5; omega)
    subst hi'
    rw[FI] at hpl ⊢
    rw[<- hres]
    conv=>whnf
    refine iQ.Xy (iQ.Rk 20000 (by rw[List.length_map]; rfl) (by decide) ?_ (by rw[List.length_map]; omega))
    (repeat' (first|refine dw.lo rfl ?_|refine dw.hi rfl ?_|exact dw.nil))
  |false =>
   obtain⟨RS,Bf⟩: ∃ RS,RS=r.ex.map fun x=>dI (lS c r.to) x 1:=⟨_,rfl⟩
   have Kv:RS.length<=100:=by rw[Bf,List.length_map]; exact hx
   have hcR:Df r c=RS:=by rw[Bf,zC,show(r.kind==1)=true by rw[hk1]; rfl,ha]; rfl
   have hRS: ∀ l∈RS,l.length=c.length/\ ∀ j,0<=l.getD j 0/\l.getD j 0<=50000000:=fun l hl'=>hsm l (by rw[hcR]; exact hl')
   have hres:V.dH [.row 0 false (.dV (RS.map fun l=>dI l r.fr 1)),.bool true]=res:=by
    rw[<- hv]; unfold Kt; rw[hB,hcR,decide_eq_true (by rw[List.length_map]; exact Kv)]; rfl
   have hW:=S.O4 r (lS c r.to) false hr (by rw[jR]; omega) (by rw[jR]; exact hp.exs) hx (xg h0) ha
   rw[<- Bf] at hW
   refine ah.nest (fun c=>c=4) (BR (i:=0) (o:=zW r) (r:=[]) rfl (by decide) trivial) hW ⟨aC _,I8 rfl rfl,trivial⟩ rfl acU (fun o ho=>(IL o ho).1) ?_
   conv=>whnf
   refine aH.fam 20000 [65,2] (fun i:Nat=>[(66,.int i),(64,.own 9),(7,.own 9)]) (fun i=>xR [(0,zW r),(9,xw RS.length)]++iV 10000 (fR (xA RS r.fr i))) (fun i=>i<=RS.length) (fun i=>RS.length-i) 0 (nC 10000 (fun j=>28+j) (iL [(0,zW r),(9,xw RS.length)] [0,27])) _ rfl (by decide) (fun _=>rfl) (Nat.zero_le _) (sR rfl) (.inl rfl) ?_ ?_
   ·refine kC.fam (g:=fun j=>28+j) [(0,zW r),(9,xw RS.length)] [0,27] ?_ rfl (Nat.zero_le _) (by rw[gW,uF (Nat.zero_le _)]; omega) (fun j o q=>?_) (fun j j' o o' q q' e=>by replace e:28+j=28+j':=e; omega)
    ·refine kG rfl nofun rfl rfl ⟨_,Rx (by decide),rfl,rfl,by rw[OV.dU rfl]; exact .refl _⟩ (kG rfl nofun rfl (dD (by omega)) ⟨_,rfl,rfl,rfl,by rw[List.length_map]; exact VN⟩ trivial)
    ·rw[vN] at q
     have hj:j<(fR RS).length:=(List.getElem?_eq_some_iff.1 q).1
     obtain⟨g1,g2⟩:=jh (nx:=20000) o (List.mem_of_getElem? q)
     exact⟨g1,g2,⟨o,by rw[Rn]; exact(VO (n:=27) hj).trans (by rw[q]; rfl),rfl⟩,aao (by omega) (by omega)⟩
   conv=>whnf
   refine⟨(sR rfl),rfl,?_⟩
   rintro i hi
   have hpl:=uF (f:=r.fr) hi
   conv=>whnf
   refine⟨fun h5=>?_,fun h5=>?_⟩
   ·have hi':i<RS.length:=by
     have:=of_decide_eq_true h5
     (try simp only[List.length_map,List.length_range,List.length_cons,List.length_nil] at this)
     first|omega|(replace h5:decide ((i:Int)<1)=true:=h5; have:=of_decide_eq_true h5; omega)
    have hg:=FD (f:=r.fr) hi'
    obtain⟨hR1,hR2⟩:=hRS (RS.getD i []) (by rw[getD_some hi']; exact List.getElem_mem hi')
    rw[<- hg] at hR1 hR2
    have Yd:=hR2 r.fr.toNat
    conv=>whnf
    refine .mk (by show 0<=(i:Int)/\(i:Int)<((qO 10000 RS.length).length:Int); rw[oz]; omega) ?_
    conv=>whnf
    refine AtZ.inn hi' ?_
    conv=>whnf
    refine Na.fR 20000 2 rfl rfl (by omega) (by rw[hpl]; exact hi') ?_
    conv=>whnf
    refine .mk (by simp only[Rw.rng] at *; first|omega|(simp_all; done)|(simp_all; omega)) ?_
    conv=>whnf
    refine Na.fR 20000 2 rfl rfl (by omega) (by rw[hpl]; exact hi') ?_
    conv=>whnf
    repeat(refine VC.mk (by simp only[okI,Rw.rng] at *; first|omega|(simp_all; done)|(simp_all; omega)) ?_; conv=>whnf)
    refine Na.fR 20000 2 rfl rfl (by omega) (by rw[hpl]; exact hi') ?_
    conv=>whnf
    refine .mk (by simp only[Rw.rng] at *; first|omega|(simp_all; done)|(simp_all; omega)) ?_
    conv=>whnf
    refine Lu.fR 20000 2 (dI (RS.getD i []) r.fr 1) rfl rfl (by omega) (by rw[hpl]; exact hi') (by show r.fr.toNat<((xA RS r.fr i).getD i []).length; omega) (by show some _=some _; rw[<- hg]; rfl) ?_
    conv=>whnf
    refine .mk (by simp only[okI] at *; first|omega|(simp_all; done)|(simp_all; omega)) ?_
    conv=>whnf
    refine rJ.Fp 20000 (i+1) (fR ((xA RS r.fr i).set i (dI (RS.getD i []) r.fr 1))) [(0,zW r),(9,xw RS.length)] [0,9] (by rw[FH hi']) hi' (by omega) ?_ rfl rfl (Nat.zero_le _) (by rw[gW,List.length_set,hpl]; omega) (by decide) jh (sR rfl) (sR rfl) ?_
    (repeat' (first|refine dw.lo rfl ?_|refine dw.hi rfl ?_|exact dw.nil))
    ·exact kG rfl nofun rfl rfl ⟨_,rfl,rfl,rfl,by rw[OV.dU rfl]; exact .refl _⟩ (kG rfl nofun rfl (dD (by omega)) ⟨_,rfl,rfl,rfl,jQ⟩ trivial)
   ·have hi':i=RS.length:=by
     have:=of_decide_eq_false h5
     (try simp only[List.length_map,List.length_range,List.length_cons,List.length_nil] at this)
     first|omega|(replace h5:decide ((i:Int)<1)=false:=h5; have:=of_decide_eq_false h5; omega)
    subst hi'
    rw[FI] at hpl ⊢
    rw[<- hres]
    conv=>whnf
    refine iQ.Xy (iQ.Rk 20000 (by rw[List.length_map]; rfl) (by decide) ?_ (by rw[List.length_map]; omega))
    (repeat' (first|refine dw.lo rfl ?_|refine dw.hi rfl ?_|exact dw.nil))
 ·conv=>whnf
  refine⟨fun h2=>?_,fun h2=>?_⟩
  ·have hk2:r.kind=2:=by simpa using h2
   obtain⟨RS,Bf⟩: ∃ RS,RS=[dI (lS (lS c r.to) r.zX) r.jE 1]:=⟨_,rfl⟩
   have hlen:RS.length=1:=by rw[Bf]; rfl
   have hcR:Df r c=RS:=by rw[Bf,zC,show(r.kind==1)=false by rw[hk2]; rfl,show(r.kind==2)=true by rw[hk2]; rfl]; rfl
   have Kv:RS.length<=100:=by omega
   have hRS: ∀ l∈RS,l.length=c.length/\ ∀ j,0<=l.getD j 0/\l.getD j 0<=50000000:=fun l hl'=>hsm l (by rw[hcR]; exact hl')
   have hres:V.dH [.row 0 false (.dV (RS.map fun l=>dI l r.fr 1)),.bool true]=res:=by
    rw[<- hv]; unfold Kt; rw[hB,hcR,decide_eq_true (by rw[List.length_map]; exact Kv)]; rfl
   have hd1:0<=(c.set r.to.toNat (max (c.getD r.to.toNat 0-1) 0)).getD r.zX.toNat 0/\(c.set r.to.toNat (max (c.getD r.to.toNat 0-1) 0)).getD r.zX.toNat 0<=1048576:=uO (xg h0) _
   have hd2:0<=((c.set r.to.toNat (max (c.getD r.to.toNat 0-1) 0)).set r.zX.toNat (max ((c.set r.to.toNat (max (c.getD r.to.toNat 0-1) 0)).getD r.zX.toNat 0-1) 0)).getD r.jE.toNat 0/\((c.set r.to.toNat (max (c.getD r.to.toNat 0-1) 0)).set r.zX.toNat (max ((c.set r.to.toNat (max (c.getD r.to.toNat 0-1) 0)).getD r.zX.toNat 0-1) 0)).getD r.jE.toNat 0<=1048576:=uO (xg (xg h0)) _
   conv=>whnf
   repeat(refine VC.mk (by first|(simp only[Rw.rng,List.length_set]; omega)|(simp only[okI]; omega)) ?_; conv=>whnf)
   refine aH.fam 20000 [65,2] (fun i:Nat=>[(66,.int i),(64,.own 9),(7,.own 9)]) (fun i=>xR [(0,zW r),(9,xw RS.length)]++iV 10000 (fR (xA RS r.fr i))) (fun i=>i<=RS.length) (fun i=>RS.length-i) 0 (nC 10000 (fun _=>4) (iL [(0,zW r),(9,xw RS.length)] [0,19])) _ rfl (by decide) (fun _=>rfl) (Nat.zero_le _) (sR rfl) (.inl rfl) ?_ ?_
   ·refine kC.fam (g:=fun _=>4) [(0,zW r),(9,xw RS.length)] [0,19] ?_ rfl (Nat.zero_le _) (by rw[gW,uF (Nat.zero_le _)]; omega) (fun j o q=>?_) (fun j j' o o' q q' _=>?_)
    ·exact kG rfl nofun rfl rfl ⟨_,rfl,rfl,rfl,by rw[OV.dU rfl]; exact .refl _⟩ (kG rfl nofun rfl (dD (by omega)) ⟨_,rfl,rfl,rfl,by rw[hlen]; exact .refl _⟩ trivial)
    ·rw[vN,Bf] at q
     match j,q with
     |0,q=>cases q; exact⟨rfl,rfl,⟨_,rfl,rfl⟩,rfl⟩
     |j+1,q=>cases q
    ·rw[vN,Bf] at q q'
     match j,j',q,q' with
     |0,0,_,_=>rfl
     |j+1,_,q,_=>cases q
     |0,j+1,_,q=>cases q
   conv=>whnf
   refine⟨(sR rfl),rfl,?_⟩
   rintro i hi
   have hpl:=uF (f:=r.fr) hi
   conv=>whnf
   refine⟨fun h5=>?_,fun h5=>?_⟩
   ·have hi':i<RS.length:=by
     have:=of_decide_eq_true h5
     (try simp only[List.length_cons,List.length_nil] at this)
     first|omega|(replace h5:decide ((i:Int)<1)=true:=h5; have:=of_decide_eq_true h5; omega)
    have hg:=FD (f:=r.fr) hi'
    obtain⟨hR1,hR2⟩:=hRS (RS.getD i []) (by rw[getD_some hi']; exact List.getElem_mem hi')
    rw[<- hg] at hR1 hR2
    have Yd:=hR2 r.fr.toNat
    conv=>whnf
    refine .mk (by show 0<=(i:Int)/\(i:Int)<((qO 10000 RS.length).length:Int); rw[oz]; omega) ?_
    conv=>whnf
    refine AtZ.inn hi' ?_
    conv=>whnf
    refine Na.fR 20000 2 rfl rfl (by omega) (by rw[hpl]; exact hi') ?_
    conv=>whnf
    refine .mk (by simp only[Rw.rng] at *; first|omega|(simp_all; done)|(simp_all; omega)) ?_
    conv=>whnf
    refine Na.fR 20000 2 rfl rfl (by omega) (by rw[hpl]; exact hi') ?_
    conv=>whnf
    repeat(refine VC.mk (by simp only[okI,Rw.rng] at *; first|omega|(simp_all; done)|(simp_all; omega)) ?_; conv=>whnf)
    refine Na.fR 20000 2 rfl rfl (by omega) (by rw[hpl]; exact hi') ?_
    conv=>whnf
    refine .mk (by simp only[Rw.rng] at *; first|omega|(simp_all; done)|(simp_all; omega)) ?_
    conv=>whnf
    refine Lu.fR 20000 2 (dI (RS.getD i []) r.fr 1) rfl rfl (by omega) (by rw[hpl]; exact hi') (by show r.fr.toNat<((xA RS r.fr i).getD i []).length; omega) (by show some _=some _; rw[<- hg]; rfl) ?_
    conv=>whnf
    refine .mk (by simp only[okI] at *; first|omega|(simp_all; done)|(simp_all; omega)) ?_
    conv=>whnf
    refine rJ.Fp 20000 (i+1) (fR ((xA RS r.fr i).set i (dI (RS.getD i []) r.fr 1))) [(0,zW r),(9,xw RS.length)] [0,9] (by rw[FH hi']) hi' (by omega) ?_ rfl rfl (Nat.zero_le _) (by rw[gW,List.length_set,hpl]; omega) (by decide) jh (sR rfl) (sR rfl) ?_
    (repeat' (first|refine dw.lo rfl ?_|refine dw.hi rfl ?_|exact dw.nil))
    ·exact kG rfl nofun rfl rfl ⟨_,rfl,rfl,rfl,by rw[OV.dU rfl]; exact .refl _⟩ (kG rfl nofun rfl (dD (by omega)) ⟨_,rfl,rfl,rfl,jQ⟩ trivial)
   ·have hi':i=RS.length:=by
     have:=of_decide_eq_false h5
     (try simp only[List.length_cons,List.length_nil] at this)
     first|omega|(replace h5:decide ((i:Int)<1)=false:=h5; have:=of_decide_eq_false h5; omega)
    subst hi'
    rw[FI] at hpl ⊢
    rw[<- hres]
    conv=>whnf
    refine iQ.Xy (iQ.Rk 20000 (by rw[List.length_map]; rfl) (by decide) ?_ (by rw[List.length_map]; omega))
    (repeat' (first|refine dw.lo rfl ?_|refine dw.hi rfl ?_|exact dw.nil))
  ·have hk3:r.kind=3:=by
    rcases hk with h|h|h
    ·rw[h] at h1; cases h1
    ·rw[h] at h2; cases h2
    ·exact h
   obtain⟨aap,afm⟩:=hp.rsp hk3
   have hS:=S.pI r.response (lS c r.to) false false (by rw[jR,aap]) (by rw[jR]; exact hl0) (by rw[jR]; exact hl) (xg h0) (by rw[jR]; exact afm)
   conv=>whnf
   refine Fork.mk (fun _=>?_) (fun q=>absurd (q.symm.trans (by rw[hk3]; rfl)) Bool.false_ne_true)
   conv=>whnf
   cases hso:zQ r.response (lS c r.to) with
   |true =>
    have hW:=hS.1 hso
    have acr:=hso
    unfold zQ at acr
    rw[Bool.and_eq_true] at acr
    have hst:uN r.response (lS c r.to)=false:=by simpa using acr.1
    obtain⟨RS,Bf⟩: ∃ RS,RS=o7 r.response (lS c r.to) (oD (lS c r.to)) (lS c r.to).length:=⟨_,rfl⟩
    have Kv:RS.length<=100:=by rw[Bf]; exact of_decide_eq_true acr.2
    have hcR:Df r c=RS:=by rw[Bf,zC,show(r.kind==1)=false by rw[hk3]; rfl,show(r.kind==2)=false by rw[hk3]; rfl,show(r.kind==3)=true by rw[hk3]; rfl,hst]; rfl
    have hRS: ∀ l∈RS,l.length=c.length/\ ∀ j,0<=l.getD j 0/\l.getD j 0<=50000000:=fun l hl'=>hsm l (by rw[hcR]; exact hl')
    have hres:V.dH [.row 0 false (.dV (RS.map fun l=>dI l r.fr 1)),.bool true]=res:=by
     rw[<- hv]; unfold Kt; rw[hB,hcR,decide_eq_true (by rw[List.length_map]; exact Kv)]; rfl
    rw[<- Bf] at hW
    refine ah.nest (fun c=>c=4) (BR (i:=0) (o:=zW r) (r:=[]) rfl (by decide) trivial) hW ⟨aC _,I8 rfl rfl,trivial⟩ rfl (aah true) (fun o ho=>(IL o ho).1) ?_
    conv=>whnf
    refine Fork.mk (fun q=>absurd (q.symm.trans (rfl)).symm Bool.false_ne_true) (fun _=>?_)
    conv=>whnf
    refine aH.fam 20000 [65,2] (fun i:Nat=>[(66,.int i),(64,.own 9),(7,.own 9)]) (fun i=>xR [(0,zW r),(9,xw RS.length)]++iV 10000 (fR (xA RS r.fr i))) (fun i=>i<=RS.length) (fun i=>RS.length-i) 0 (nC 10000 (fun j=>34+j) (iL [(0,zW r),(9,xw RS.length)] [0,33])) _ rfl (by decide) (fun _=>rfl) (Nat.zero_le _) (sR rfl) (.inl rfl) ?_ ?_
    ·refine kC.fam (g:=fun j=>34+j) [(0,zW r),(9,xw RS.length)] [0,33] ?_ rfl (Nat.zero_le _) (by rw[gW,uF (Nat.zero_le _)]; omega) (fun j o q=>?_) (fun j j' o o' q q' e=>by replace e:34+j=34+j':=e; omega)
     ·refine kG rfl nofun rfl rfl ⟨_,Rx (by decide),rfl,rfl,by rw[OV.dU rfl]; exact .refl _⟩ (kG rfl nofun rfl (dD (by omega)) ⟨_,rfl,rfl,rfl,by rw[List.length_map]; exact VN⟩ trivial)
     ·rw[vN] at q
      have hj:j<(fR RS).length:=(List.getElem?_eq_some_iff.1 q).1
      obtain⟨g1,g2⟩:=jh (nx:=20000) o (List.mem_of_getElem? q)
      exact⟨g1,g2,⟨o,by rw[Rn]; exact(VO (n:=33) hj).trans (by rw[q]; rfl),rfl⟩,aao (by omega) (by omega)⟩
    conv=>whnf
    refine⟨(sR rfl),rfl,?_⟩
    rintro i hi
    have hpl:=uF (f:=r.fr) hi
    conv=>whnf
    refine⟨fun h5=>?_,fun h5=>?_⟩
    ·have hi':i<RS.length:=by
      have:=of_decide_eq_true h5
      (try simp only[List.length_map,List.length_range,List.length_cons,List.length_nil] at this)
      first|omega|(replace h5:decide ((i:Int)<1)=true:=h5; have:=of_decide_eq_true h5; omega)
     have hg:=FD (f:=r.fr) hi'
     obtain⟨hR1,hR2⟩:=hRS (RS.getD i []) (by rw[getD_some hi']; exact List.getElem_mem hi')
     rw[<- hg] at hR1 hR2
     have Yd:=hR2 r.fr.toNat
     conv=>whnf
     refine .mk (by show 0<=(i:Int)/\(i:Int)<((qO 10000 RS.length).length:Int); rw[oz]; omega) ?_
     conv=>whnf
     refine AtZ.inn hi' ?_
     conv=>whnf
     refine Na.fR 20000 2 rfl rfl (by omega) (by rw[hpl]; exact hi') ?_
     conv=>whnf
     refine .mk (by simp only[Rw.rng] at *; first|omega|(simp_all; done)|(simp_all; omega)) ?_
     conv=>whnf
     refine Na.fR 20000 2 rfl rfl (by omega) (by rw[hpl]; exact hi') ?_
     conv=>whnf
     repeat(refine VC.mk (by simp only[okI,Rw.rng] at *; first|omega|(simp_all; done)|(simp_all; omega)) ?_; conv=>whnf)
     refine Na.fR 20000 2 rfl rfl (by omega) (by rw[hpl]; exact hi') ?_
     conv=>whnf
     refine .mk (by simp only[Rw.rng] at *; first|omega|(simp_all; done)|(simp_all; omega)) ?_
     conv=>whnf
     refine Lu.fR 20000 2 (dI (RS.getD i []) r.fr 1) rfl rfl (by omega) (by rw[hpl]; exact hi') (by show r.fr.toNat<((xA RS r.fr i).getD i []).length; omega) (by show some _=some _; rw[<- hg]; rfl) ?_
     conv=>whnf
     refine .mk (by simp only[okI] at *; first|omega|(simp_all; done)|(simp_all; omega)) ?_
     conv=>whnf
     refine rJ.Fp 20000 (i+1) (fR ((xA RS r.fr i).set i (dI (RS.getD i []) r.fr 1))) [(0,zW r),(9,xw RS.length)] [0,9] (by rw[FH hi']) hi' (by omega) ?_ rfl rfl (Nat.zero_le _) (by rw[gW,List.length_set,hpl]; omega) (by decide) jh (sR rfl) (sR rfl) ?_
     (repeat' (first|refine dw.lo rfl ?_|refine dw.hi rfl ?_|exact dw.nil))
     ·exact kG rfl nofun rfl rfl ⟨_,rfl,rfl,rfl,by rw[OV.dU rfl]; exact .refl _⟩ (kG rfl nofun rfl (dD (by omega)) ⟨_,rfl,rfl,rfl,jQ⟩ trivial)
    ·have hi':i=RS.length:=by
      have:=of_decide_eq_false h5
      (try simp only[List.length_map,List.length_range,List.length_cons,List.length_nil] at this)
      first|omega|(replace h5:decide ((i:Int)<1)=false:=h5; have:=of_decide_eq_false h5; omega)
     subst hi'
     rw[FI] at hpl ⊢
     rw[<- hres]
     conv=>whnf
     refine iQ.Xy (iQ.Rk 20000 (by rw[List.length_map]; rfl) (by decide) ?_ (by rw[List.length_map]; omega))
     (repeat' (first|refine dw.lo rfl ?_|refine dw.hi rfl ?_|exact dw.nil))
   |false =>
    refine ah.lend (hS.2 hso) ⟨aC _,I8 trivial rfl,trivial⟩ rfl rfl ?_
    unfold zQ at hso
    cases hst:uN r.response (lS c r.to) with
    |true =>
     have hcR:Df r c=[]:=by rw[zC,show(r.kind==1)=false by rw[hk3]; rfl,show(r.kind==2)=false by rw[hk3]; rfl,show(r.kind==3)=true by rw[hk3]; rfl,hst]; rfl
     have hres:V.dH [.row 0 false (.dV []),.bool true]=res:=by
      rw[<- hv]; unfold Kt; rw[hB,hcR]; rfl
     conv=>whnf
     refine Fork.mk (fun q=>absurd (q.symm.trans (rfl)).symm Bool.false_ne_true) (fun _=>?_)
     conv=>whnf
     refine aH.times 1 rfl ?_
     conv=>whnf
     refine Fork.mk (fun q=>absurd (q.symm.trans ((rfl:decide ((0:Int)<0)=false))).symm Bool.false_ne_true) (fun _=>?_)
     conv=>whnf
     rw[<- hres]
     exact iQ.same
    |false =>
     have hbig: ¬ (o7 r.response (lS c r.to) (oD (lS c r.to)) (lS c r.to).length).length<=100:=by
      rw[hst] at hso
      simpa using hso
     have hcR:Df r c=o7 r.response (lS c r.to) (oD (lS c r.to)) (lS c r.to).length:=by rw[zC,show(r.kind==1)=false by rw[hk3]; rfl,show(r.kind==2)=false by rw[hk3]; rfl,show(r.kind==3)=true by rw[hk3]; rfl,hst]; rfl
     have hres:V.dH [.row 0 false (.dV []),.bool false]=res:=by
      rw[<- hv]; unfold Kt; rw[hB,hcR,decide_eq_false (by rw[List.length_map]; exact hbig)]; rfl
     conv=>whnf
     refine Fork.mk (fun _=>?_) (fun q=>absurd (q.symm.trans (rfl)) Bool.false_ne_true)
     conv=>whnf
     rw[<- hres]
     exact iQ.Rl
end Go.Proofs.YtkmldgihhaooaaaGreatDoor
