/-
 What a broadcast comes from: the program's lists. No condition.
-/
import Derived.Test.YtdhobgbagphngaaGreatDoorQa
namespace Go.Proofs.YtdhobgbagphngaaGreatDoor
open Go.Ab Go.Proofs
set_option maxRecDepth 100000
theorem aat{Z:Nat->Prop}{h:Hz}{i:Nat}{R:List (List Int)}(C:Nat)(hi:h.get i=some (xU R.length))(hz: ¬ Z i)(hZ: ∀ j,j<R.length->Z (10000+j))(q:dh 10000 C (iL 10000 (fR R)) h)(hC:10000+R.length<=C) :
  ∃ o',h.get i=some o'/\ ¬ Z i/\o'.aA.ty=(OV.row 24 0 (.dW R) []).aA.ty/\o'.aA.k=(OV.row 24 0 (.dW R) []).aA.k/\T.dK Z h.au (OV.row 24 0 (.dW R) []).aA.l o'.aA.l/\(OV.row 24 0 (.dW R) []).aA.l.map T.kd=o'.aA.l.map T.kd/\(OV.row 24 0 (.dW R) []).aA.l.map iF=o'.aA.l.map iF:=by
 have e1:(OV.row 24 0 (.dW R) []).aA.l=R.map Go.Ab.ints:=by simp[OV.aA,Rw.aT,V.aT]
 have e2:(xU R.length).aA.l=(List.range R.length).map fun j=>T.own (10000+j):=lD
 refine⟨_,hi,hz,rfl,rfl,?_,?_,?_⟩
 ·rw[e1,e2];refine Jh (by simp) fun j t u h1 h2=>?_
  have hj:j<R.length:=by have:=(List.getElem?_eq_some_iff.1 h1).1; simpa using this
  rw[List.getElem?_map,List.getElem?_eq_getElem hj] at h1;rw[List.getElem?_map,List.getElem?_range hj] at h2;cases h1; cases h2;refine⟨rfl,hZ j hj,?_,by decide,3,?_⟩
  ·rw[iw]; intro t ht; obtain⟨x,_,rfl⟩:=List.mem_map.1 ht; rfl
  ·have:=aP (q.get (by rw[gU]; exact hC) (KN hj));rw[this,getD_some hj];simp[OV.aA,V.aT,Rw.aT]
 ·rw[e1,e2,List.map_map,List.map_map];apply List.ext_getElem
  ·simp
  ·intro j h1 h2;simp only[List.getElem_map,Function.comp]; rfl
 ·rw[e1,e2,List.map_map,List.map_map];apply List.ext_getElem
  ·simp
  ·intro j h1 h2;simp only[List.getElem_map,Function.comp]; rfl
theorem X5{Z:Nat->Prop}{h:Hz}{i:Nat}{R:List (List Int)}{r:Hz}(C:Nat)(hi:h.get i=some (xU R.length))(hz: ¬ Z i)(hZ: ∀ j,j<R.length->Z (10000+j))(q:dh 10000 C (iL 10000 (fR R)) h)(hC:10000+R.length<=C)(hr:Md Z h r):Md Z h ((i,some (.row 24 0 (.dW R) []))::r):=⟨aat C hi hz hZ q hC,hr⟩
theorem Df{Z:Nat->Prop}{h:Hz}{i:Nat}{o:OV}{r:Hz}(hi:h.get i=some o)(hz: ¬ Z i)(hr:Md Z h r):Md Z h ((i,some o)::r):=⟨rH hi hz,hr⟩
def xH(resp:List Int)(t i:Nat):List Int:=((List.range i).filter fun x=>resp.getD x 0==(t:Int)).map fun x:Nat=>(x:Int)
theorem KP{resp:List Int}{t i:Nat}:xH resp t (i+1)=bif resp.getD i 0==(t:Int) then xH resp t i++[(i:Int)] else xH resp t i:=by
 unfold xH;rw[List.range_succ,List.filter_append,List.map_append,List.filter_cons,List.filter_nil];show _++List.map _ (if(resp.getD i 0==(t:Int))=true then [i] else [])=_;cases (resp.getD i 0==(t:Int))
 ·exact List.append_nil _
 ·rfl
theorem NR{resp:List Int}{t i:Nat}:(xH resp t i).length<=i:=by
 unfold xH;rw[List.length_map];exact Nat.le_trans (List.length_filter_le ..) (by simp)
theorem X6{resp:List Int}{t i:Nat}: ∀ x∈xH resp t i,0<=x/\x<i:=by
 intro x hx;obtain⟨k,hk,rfl⟩:=List.mem_map.1 hx;have:=List.mem_range.1 (List.mem_filter.1 hk).1;omega
def KQ(resp need:List Int)(i:Nat):Bool:=(List.range i).any fun t=>decide (0<need.getD t 0)&& !(PZ resp t)
theorem RP{resp need:List Int}{i:Nat}:KQ resp need (i+1)=(KQ resp need i||(decide (0<need.getD i 0)&& !(PZ resp i))):=by
 unfold KQ;rw[List.range_succ,List.any_append]; simp
theorem U6{resp need:List Int}:KQ resp need need.length=vw resp need:=rfl
theorem X7{resp need:List Int}{i:Nat}(hi:i<need.length)(h:(decide (0<need.getD i 0)&& !(PZ resp i))=true):vw resp need=true:=by
 unfold vw;rw[List.any_eq_true];exact⟨i,List.mem_range.2 hi,h⟩
def Hy(c xs ks:List Int)(i:Nat):List Int:=pG c (xs.take i) (ks.take i)
theorem aau: ∀ {xs ks:List Int} {c:List Int} {x k:Int},xs.length=ks.length->pG c (xs++[x]) (ks++[k])=dH (pG c xs ks) x k:=by
 intro xs;induction xs with
 |nil=>intro ks c x k h; cases ks with|nil=>rfl|cons _ _=>cases h
 |cons a xs ih =>
  intro ks c x k h;cases ks with
  |nil=>cases h
  |cons b ks=>exact ih (Nat.succ.inj h)
theorem X8{c xs ks:List Int}{i:Nat}(h1:i<xs.length)(h2:i<ks.length):Hy c xs ks (i+1)=dH (Hy c xs ks i) (xs.getD i 0) (ks.getD i 0):=by
 unfold Hy;rw[List.take_succ_eq_append_getElem h1,List.take_succ_eq_append_getElem h2,aau (by simp; omega),getD_some h1,getD_some h2]
theorem aav{c xs ks:List Int}(h:xs.length=ks.length):Hy c xs ks ks.length=pG c xs ks:=by
 unfold Hy;rw[<- h,List.take_length,h,List.take_length]
theorem aaw{c xs ks:List Int}{i:Nat}:(Hy c xs ks i).length=c.length:=Rz
def DK(O S:List (List Int))(xs:List Int)(i j:Nat):List (List Int):=((O.take i).flatMap fun c=>S.map fun s=>pG c xs s)++(S.take j).map fun s=>pG (O.getD i []) xs s
theorem Px{O S:List (List Int)}{xs:List Int}{i j:Nat}(hi:i<=O.length)(hj:j<=S.length):(DK O S xs i j).length=i*S.length+j:=by
 have: ∀ L:List (List Int),(L.flatMap fun c=>S.map fun s=>pG c xs s).length=L.length*S.length:=by
  intro L;induction L with
  |nil=>simp
  |cons c L ih=>rw[List.flatMap_cons,List.length_append,ih,List.length_map,List.length_cons,Nat.succ_mul,Nat.add_comm]
 unfold DK;rw[List.length_append,this,List.length_map,List.length_take,List.length_take,Nat.min_eq_left hi,Nat.min_eq_left hj]
theorem aax{O S:List (List Int)}{xs:List Int}{i j:Nat}(hj:j<S.length):DK O S xs i (j+1)=DK O S xs i j++[pG (O.getD i []) xs (S.getD j [])]:=by
 unfold DK;rw[List.take_succ_eq_append_getElem hj,List.map_append,<- List.append_assoc,getD_some hj]; rfl
theorem aay{O S:List (List Int)}{xs:List Int}{i:Nat}(hi:i<O.length):DK O S xs (i+1) 0=DK O S xs i S.length:=by
 unfold DK;rw[List.take_succ_eq_append_getElem hi,List.flatMap_append,List.take_length,getD_some hi];simp
theorem acK{O S:List (List Int)}{xs:List Int}:DK O S xs O.length 0=O.flatMap fun c=>S.map fun s=>pG c xs s:=by
 unfold DK;rw[List.take_length]; simp
theorem VX{resp need b:List Int}(hb:b.length=resp.length)(_hn:need.length=resp.length)(h0: ∀ i,0<=need.getD i 0){n:Nat}(h:n<=need.length): ∀ c∈pI resp need [b] n,c.length=resp.length:=(acD hb h h0).len
theorem ak.RI{b:Bool}{k:Nat}{h:Hz}:ak (.dn [.row 0 false (.dW []),.bool b]) (.dn [.row k true .nil,.bool b]) h:=⟨by
  show T.sub _ _ (.dn [.sl 0 false [],(V.bool b).aG]) (.dn [.sl k true [],(V.bool b).aG]);simp only[T.sub,T.dK]
  exact⟨⟨.inl trivial,.inr trivial,fun h=>by cases h⟩,aI _,trivial⟩⟩
def oI(need:List Int):List (List Int):=[List.replicate need.length 0]
theorem RQ{c:List Int}{i d B M:Int}(hc: ∀ j,0<=c.getD j 0/\c.getD j 0<=B)(hd:0<=d/\d<=M)(j:Nat):0<=(dH c i d).getD j 0/\(dH c i d).getD j 0<=B+M:=by
 have:=hc j;rw[zX];split<;>omega
theorem RU: ∀ {xs ks c:List Int} {B M:Int},(∀ j,0<=c.getD j 0/\c.getD j 0<=B)->(∀ k∈ks,0<=k/\k<=M)->0<=M-> ∀ j,0<=(pG c xs ks).getD j 0/\(pG c xs ks).getD j 0<=B+xs.length*M:=by
 intro xs;induction xs with
 |nil=>intro ks c B M hc _ _ j; have:=hc j; simp only[pG,List.length_nil]; omega
 |cons x xs ih =>
  intro ks c B M hc hk hM j;have hm:(0:Int)<=(xs.length:Int)*M:=Int.mul_nonneg (by omega) hM;have e:(((x::xs).length:Nat):Int)*M=M+(xs.length:Int)*M:=by rw[List.length_cons,Int.natCast_add,Int.add_mul]; simp only[Int.natCast_one,Int.one_mul]; omega
  cases ks with
  |nil=>have:=hc j; rw[e]; simp only[pG]; omega
  |cons k ks =>
   have:=ih (c:=dH c x k) (B:=B+M) (ks:=ks) (RQ hc (hk k (by simp))) (fun y hy=>hk y (List.mem_cons_of_mem _ hy)) hM j;rw[e];simp only[pG];omega
theorem VY: ∀ {l:List Int} {x:Int},(∀ y∈l,0<=y)->x∈l->x<=l.sum:=by
 intro l;induction l with
 |nil=>intro x _ h; cases h
 |cons a l ih =>
  intro x h0 hx;have ha:=h0 a (by simp);have hl: ∀ y∈l,0<=y:=fun y hy=>h0 y (List.mem_cons_of_mem _ hy)
  have hs:0<=l.sum:=by
   cases l with
   |nil=>simp
   |cons b l=>exact Int.le_trans (hl b (by simp)) (ih hl (by simp))
  rw[List.sum_cons];rcases List.mem_cons.1 hx with rfl|hx
  ·omega
  ·have:=ih hl hx; omega
theorem VZ{resp need:List Int}(h0:TB need)(hl:resp.length<=6): ∀ t:Nat,∀ c∈pI resp need (oI need) t,∀ j,0<=c.getD j 0/\c.getD j 0<=(t:Int)*6291456:=by
 intro t;induction t with
 |zero =>
  intro c hc j
  have:c=List.replicate need.length 0:=by simpa [pI,oI] using hc
  subst this;rw[List.getD_eq_getElem?_getD,List.getElem?_replicate];split<;>simp
 |succ t ih =>
  intro c hc j;rw[CZ] at hc;unfold IG at hc;cases hz:(need.getD t 0==0) with
  |true =>
   rw[hz] at hc;have:=ih c hc j;omega
  |false =>
   rw[hz,cond_false,List.mem_flatMap] at hc;obtain⟨b,hb,hc⟩:=hc;rw[CY,List.mem_map] at hc;obtain⟨s,hs,rfl⟩:=hc;have hm:=vC h0 t;obtain⟨hs1,hs2⟩:=Pm hs;have hx:(oH resp t).length<=6:=Nat.le_trans (NR (resp:=resp) (t:=t) (i:=resp.length)) hl;have:=RU (xs:=oH resp t) (ks:=s) (M:=1048576) (ih b hb) (fun k hk=>⟨hs2 k hk,by have:=VY hs2 hk; rw[hs1] at this; omega⟩) (by decide) j
   have:((oH resp t).length:Int)*1048576<=6*1048576:=Int.mul_le_mul_of_nonneg_right (by omega) (by decide)
   omega
def Ap(resp need:List Int):Bool:= !(vw resp need)&&decide ((pI resp need (oI need) need.length).length<=100)
abbrev II(O:List (List Int))(xs:List Int)(k:Nat):List (Nat×OV):=[(9,.row 24 0 (.dW O) []),(10,lX xs),(11,xU k)]
theorem kD{ρ:Nat->Nat}{nx pn:Nat}{h:Hz}{c n:Nat}{o:OV}{l:List (Nat×OV)}{s:List Nat}(h1:Nat.blt c nx=true)(h2:Nat.blt c pn=true->n=c)(h3:nV n s=true)(h4:o.good nx=true)(h5: ∃ o',h.get n=some o'/\o'.aA.ty=o.aA.ty/\o'.aA.k=o.aA.k/\dQ (T.bM ρ o.aA.l) o'.aA.l)(h6:okR ρ nx pn h l s):okR ρ nx pn h ((c,o)::l) (n::s):=⟨⟨h1,h2,h3,h4,h5⟩,h6⟩
set_option maxHeartbeats 4000000 in
theorem S.pV(resp need:List Int)(f g:Bool)(hn:need.length=resp.length)(hn0:0<need.length)(hn6:need.length<=6)(h0:TB need)(_hp:zG need.length resp) :
  (Ap resp need=true->BO Tryz.prog 168 [.row 0 f (.ints resp),.row 0 g (.ints need)] (fun n=>.dn [.own n,.bool true]) 24 ((pI resp need (oI need) need.length).map lX)) /\
  (Ap resp need=false->aj Tryz.prog 168 [.row 0 f (.ints resp),.row 0 g (.ints need)] (.dn [.row 0 false (.dW []),.bool (vw resp need)])):=by
 have hpos: ∀ i,0<=need.getD i 0:=fun i=>(vC h0 i).1
 refine aeN.of (Ap resp need) Bd.pV (by simp) rfl (aas true) Jj rfl ?_;refine aC.objs 0 [24,25,0,1] (fun i:Nat=>[(26,.int i)]) (fun _=>[]) (fun i=>i<=need.length/\KQ resp need i=false) (fun i=>need.length-i) 0 [] rfl (by decide) (fun _=>rfl) ⟨Nat.zero_le _,rfl⟩ (sR rfl) trivial ?_;refine⟨(sR rfl),rfl,?_⟩;rintro i ⟨hi,hs⟩;refine⟨fun h1=>?_,fun h1=>?_⟩
 ·have hi':i<need.length:=by simpa using h1
  repeat(refine VC.mk (by first|exact fun h=>⟨h,h⟩|(simp only[Rw.rng] at *; omega)) ?_)
  refine ah.eG (fun _=>S.slices_Contains_int resp i f (by omega)) rfl ?_;repeat(refine VC.mk id ?_)
  refine⟨fun h2=>?_,fun h2=>?_⟩
  ·replace h2:(decide (0<need.getD i 0)&& !(PZ resp i))=true:=h2;have hS:=X7 hi' h2;conv=>whnf
   rw[show Ap resp need=false by unfold Ap; rw[hS]; rfl,hS];exact⟨nofun,fun _=>ak.RI⟩
  ·replace h2:(decide (0<need.getD i 0)&& !(PZ resp i))=false:=h2;refine .mk (by simp only[okI] at *; omega) ?_;exact⟨i+1,[],⟨hi',by rw[RP,hs,h2]; rfl⟩,by omega,(sR rfl),(sR rfl),trivial⟩
 ·have hi':i=need.length:=by have:=of_decide_eq_false h1; omega
  subst hi';rw[U6] at hs;conv=>whnf
  rw[EI hn0];refine .mk (by omega) ?_;conv=>whnf
  have hz:(oI need).length=1:=rfl;have af5: ∀ t,need.getD t 0≠0->oH resp t≠[]:=U3 hs hpos;refine aC.fam 20000 [44,45,0] (fun t:Nat=>[(46,.int t),(8,.own 9)]) (fun t=>wz [(9,xU (pI resp need (oI need) t).length)]++iL 10000 (fR (pI resp need (oI need) t))) (fun t=>t<=need.length/\(pI resp need (oI need) t).length<=100) (fun t=>need.length-t) 0 (nJ 10000 (fun _=>3) (gG [(9,xU 1)] [4])) _ rfl (by decide) (fun _=>rfl) ⟨Nat.zero_le _,by show 1<=100; decide⟩ (sR rfl) (.inl rfl) ?_ ?_
  ·refine jX.fam (g:=fun _=>3) [(9,xU 1)] [4] ?_ rfl (Nat.zero_le _) (show 10000+1<=20000 by decide) (fun j o q=>?_) (fun j j' o o' q q' _=>?_)
   ·exact kD rfl nofun rfl (dB (by decide)) ⟨_,rfl,rfl,rfl,.refl _⟩ trivial
   ·match j,q with
    |0,q=>cases q; exact⟨rfl,rfl,⟨_,rfl,rfl⟩,rfl⟩
    |j+1,q=>cases q
   ·match j,j',q,q' with
    |0,0,_,_=>rfl
    |j+1,_,q,_=>cases q
    |0,j+1,_,q=>cases q
  refine⟨(sR rfl),rfl,?_⟩;clear h1 hi;rintro t ⟨ht,hL⟩;have hlen: ∀ c∈pI resp need (oI need) t,c.length=resp.length:=VX (by simp[hn]) hn hpos ht;have Zb:=VZ h0 (by omega:resp.length<=6) t;have hne:(pI resp need (oI need) t)≠[]:=by
   have:=RF (resp:=resp) (need:=need) (out:=oI need) af5 (n:=0) t;rw[Nat.zero_add] at this;intro h;rw[h] at this;exact absurd this (by show ¬ 1<=0; decide)
  have hnx:pI resp need (oI need) (t+1)=IG resp need (pI resp need (oI need) t) t:=CZ;have hbig: ∀ u,u<=need.length->100<(pI resp need (oI need) u).length->Ap resp need=false:=fun u hu hb=>by
   have:=acJ af5 hu hb;unfold Ap;rw[decide_eq_false (by omega),Bool.and_false]
  generalize hO:pI resp need (oI need) t=OUT at hL hlen hne hnx Zb;refine⟨fun h1=>?_,fun h1=>?_⟩
  ·have ht':t<need.length:=by simpa using h1
   refine .mk (by simp only[Rw.rng] at *; omega) ?_;refine⟨fun h2=>?_,fun h2=>?_⟩
   ·replace h2:(need.getD t 0==0)=true:=h2;have hsame:pI resp need (oI need) (t+1)=OUT:=by rw[hnx]; unfold IG; rw[h2]; rfl
    refine .mk (by simp only[okI] at *; omega) ?_;refine sH.FU 20000 (t+1) (fR OUT) [(9,xU OUT.length)] [9] (by rw[hsame]) ⟨ht',by rw[hsame]; exact hL⟩ (by omega) ?_ rfl rfl (Nat.zero_le _) (by rw[gU]; omega) (by decide) iV (sR rfl) (sR rfl) ?_
    (repeat' (first|refine dh.lo rfl ?_|refine dh.hi rfl ?_|exact dh.nil))
    ·exact kD rfl nofun rfl (dB (by omega)) ⟨_,rfl,rfl,rfl,jE⟩ trivial
   ·replace h2:(need.getD t 0==0)=false:=h2;refine aC.nil 11 3 0 (by rfl) rfl rfl rfl ?_;refine aC.fam 20000 [53,54,9,10,8,46,44,45,0] (fun i:Nat=>[(55,.int i),(11,.own 10)]) (fun i=>wz [(9,xU OUT.length),(10,lX (xH resp t i))]++iL 10000 (fR OUT)) (fun i=>i<=resp.length) (fun i=>resp.length-i) 0 (nJ 10000 (fun j=>10000+j) (gG [(9,xU OUT.length),(10,lX [])] [9,20012])) _ rfl (by decide) (fun _=>rfl) (Nat.zero_le _) (sR rfl) (.inl rfl) ?_ ?_
    ·refine jX.VU 20000 [(9,xU OUT.length),(10,lX [])] [9,20012] ?_ rfl rfl (Nat.zero_le _) (by rw[gU]; omega) (by decide) iV ?_
     (repeat' (first|refine dh.lo rfl ?_|refine dh.hi rfl ?_|exact dh.nil))
     ·exact kD rfl nofun rfl (dB (by omega)) ⟨_,rfl,rfl,rfl,jE⟩ (kD rfl nofun rfl rfl ⟨_,rfl,rfl,rfl,.refl _⟩ trivial)
    refine⟨(sR rfl),rfl,?_⟩;rintro i hi;have hfl:=NR (resp:=resp) (t:=t) (i:=i);refine⟨fun h3=>?_,fun h3=>?_⟩
    ·have hi':i<resp.length:=by simpa using h3
     refine .mk (by simp only[Rw.rng] at *; omega) ?_;refine⟨fun h4=>?_,fun h4=>?_⟩
     ·replace h4:(resp.getD i 0==(t:Int))=true:=h4;have hf:xH resp t (i+1)=xH resp t i++[(i:Int)]:=by rw[KP,h4]; rfl
      repeat(refine VC.mk (by first|(simp only[mJ,nP,Rw.len,List.length_cons,List.length_nil]; omega)|(simp only[okI] at *; omega)) ?_)
      refine sH.FU 20000 (i+1) (fR OUT) [(9,xU OUT.length),(10,lX (xH resp t (i+1)))] [9,20012] rfl hi' (by omega) ?_ rfl rfl (Nat.zero_le _) (by rw[gU]; omega) (by decide) iV (sR rfl) (sR rfl) ?_
      (repeat' (first|refine dh.lo rfl ?_|refine dh.hi rfl ?_|exact dh.nil))
      ·exact kD rfl nofun rfl (dB (by omega)) ⟨_,rfl,rfl,rfl,jE⟩ (kD rfl nofun rfl rfl ⟨_,rfl,rfl,rfl,by rw[hf,OV.dU rfl]; exact .refl _⟩ trivial)
     ·replace h4:(resp.getD i 0==(t:Int))=false:=h4;have hf:xH resp t (i+1)=xH resp t i:=by rw[KP,h4]; rfl
      refine .mk (by simp only[okI] at *; omega) ?_;refine sH.FU 20000 (i+1) (fR OUT) [(9,xU OUT.length),(10,lX (xH resp t (i+1)))] [9,10] rfl hi' (by omega) ?_ rfl rfl (Nat.zero_le _) (by rw[gU]; omega) (by decide) iV (sR rfl) (sR rfl) ?_
      (repeat' (first|refine dh.lo rfl ?_|refine dh.hi rfl ?_|exact dh.nil))
      ·exact kD rfl nofun rfl (dB (by omega)) ⟨_,rfl,rfl,rfl,jE⟩ (kD rfl nofun rfl rfl ⟨_,rfl,rfl,rfl,by rw[hf,OV.dU rfl]; exact .refl _⟩ trivial)
    ·have hi':i=resp.length:=by have:=of_decide_eq_false h3; omega
     subst hi';have hFr:xH resp t resp.length=oH resp t:=rfl;rw[hFr] at hfl ⊢;have hrg: ∀ x∈oH resp t,0<=x/\x<resp.length:=fun x hx=>X6 x (hFr▸hx)
     have hm:=vC h0 t;have hm0:need.getD t 0≠0:=by simpa using h2
     generalize hX:oH resp t=XS at hfl hrg;obtain⟨m,hm'⟩: ∃ m:Nat,need.getD t 0=(m:Int):=⟨(need.getD t 0).toNat,by omega⟩
     have hmT:(need.getD t 0).toNat=m:=by omega
     have htl:=acG (resp:=resp) (out:=OUT) hm0;rw[hX,hmT,<- hnx] at htl;conv=>whnf
     rw[show need.getD ((t:Int)).toNat 0=(m:Int) from hm'];refine ah.pure (S.mF XS.length m (by omega) (by omega)) Hw ?_;by_cases hd:(kC XS.length m).length<=100
     ·rw[zu hd];have hmul:OUT.length*(kC XS.length m).length<=100*100:=Nat.mul_le_mul hL hd;repeat(refine VC.mk (by first|(intro _; refine⟨rfl,rfl,?_⟩; show okI (((ru 10000 OUT.length).length:Int)*((kC XS.length m).length:Int)); rw[oG,<- Int.natCast_mul]; simp only[okI]; omega)|exact fun h=>h|(intro h; rw[h]; rfl)) ?_)
      refine⟨fun h4=>?_,fun h4=>?_⟩
      ·have hf:100<OUT.length*(kC XS.length m).length:=by
        replace h4:decide (100<((ru 10000 OUT.length).length:Int)*((kC XS.length m).length:Int))=true:=h4;have:=of_decide_eq_true h4;rw[oG,<- Int.natCast_mul] at this;omega
       have hno:=hbig (t+1) ht' (by rw[htl]; exact hf);rw[hno,hs];exact⟨nofun,fun _=>ak.RI⟩
      ·have hf:OUT.length*(kC XS.length m).length<=100:=by
        replace h4:decide (100<((ru 10000 OUT.length).length:Int)*((kC XS.length m).length:Int))=false:=h4;have:=of_decide_eq_false h4;rw[oG,<- Int.natCast_mul] at this;omega
       have hsl: ∀ x∈kC XS.length m,x.length=XS.length/\(x.sum=m/\ ∀ y∈x,0<=y):=fun x hx=>⟨FZ hx,Pm hx⟩
       have hfin:(OUT.flatMap fun c=>(kC XS.length m).map fun x=>pG c XS x)=pI resp need (oI need) (t+1):=by
        rw[hnx];unfold IG;rw[h2,hX,hmT];show _=OUT.flatMap _
        congr 1
        funext c;rw[CY]
       generalize hS:kC XS.length m=SH at hf hsl hd hfin;refine aC.nil 16 24 0 (by rfl) rfl rfl rfl ?_;refine aC.fam 20000 [85,86,14,11,46,44,45,0] (fun i:Nat=>[(87,.int i),(16,.own 11)]) (fun i=>wz (II OUT XS (DK OUT SH XS i 0).length)++iL 10000 (fR (DK OUT SH XS i 0))) (fun i=>i<=OUT.length) (fun i=>OUT.length-i) 0 (nJ 10000 (fun j=>10000+j) (gG (II OUT XS 0) [9,10,20024])) [(9,some (.row 24 0 (.dW OUT) [])),(10,some (lX XS)),(20024,some (.row 24 0 .nil []))] rfl (by decide) (fun _=>rfl) (Nat.zero_le _) (sR rfl) (.inr ⟨fun c=>10000<=c/\c<20000,X5 (R:=OUT) 20000 rfl (show ¬ (10000<=9/\9<20000) by omega) (fun j hj=>show 10000<=10000+j/\10000+j<20000 by omega) ?_ (by omega) (Df rfl (show ¬ (10000<=10/\10<20000) by omega) (Df rfl (show ¬ (10000<=20024/\20024<20000) by omega) trivial))⟩) ?_ ?_
       (repeat' (first|refine dh.lo rfl ?_|refine dh.hi rfl ?_|exact dh.nil))
       ·refine jX.fam (g:=fun j=>10000+j) (II OUT XS 0) [9,10,20024] ?_ rfl (Nat.zero_le _) (show 10000+0<=20000 by decide) (fun j o q=>by cases q) (fun j _ o _ q=>by cases q);exact kD rfl nofun rfl rfl ⟨_,rfl,rfl,rfl,by rw[OV.dU rfl]; exact .refl _⟩ (kD rfl nofun rfl rfl ⟨_,rfl,rfl,rfl,by rw[OV.dU rfl]; exact .refl _⟩ (kD rfl nofun rfl rfl ⟨_,rfl,rfl,rfl,.refl _⟩ trivial))
       refine⟨(sR rfl),rfl,?_⟩;clear hi;rintro i hi;have hN0:=Px (xs:=XS) hi (Nat.zero_le SH.length);have aeQ: ∀ i j,i<OUT.length->j<=SH.length->i*SH.length+j<=100:=fun i j h1 h2=>by
        have:=Nat.mul_le_mul_right SH.length h1;rw[Nat.succ_mul] at this;omega
       have hN0':i*SH.length<=100:=Nat.le_trans (Nat.mul_le_mul_right _ hi) hf;refine⟨fun h5=>?_,fun h5=>?_⟩
       ·have hi':i<OUT.length:=by simpa using h5
        have hmem:OUT.getD ((i:Int)).toNat []∈OUT:=by show OUT.getD i []∈OUT; rw[getD_some hi']; exact List.getElem_mem hi'
        have hb:=hlen _ hmem;have hbb:=Zb _ hmem;repeat(refine VC.mk (by simp only[Rw.rng] at *; omega) ?_)
        refine aC.fam 20000 [91,92,18,11,87,85,86,14,46,44,45,0] (fun j:Nat=>[(93,.int j),(16,.own 11)]) (fun j=>wz (II OUT XS (DK OUT SH XS i j).length)++iL 10000 (fR (DK OUT SH XS i j))) (fun j=>j<=SH.length) (fun j=>SH.length-j) 0 (nJ 10000 (fun j=>10000+j) (gG (II OUT XS (DK OUT SH XS i 0).length) [9,10,11])) _ rfl (by decide) (fun _=>rfl) (Nat.zero_le _) (sR rfl) (.inl rfl) ?_ ?_
        ·refine jX.VU 20000 (II OUT XS (DK OUT SH XS i 0).length) [9,10,11] ?_ rfl rfl (Nat.zero_le _) (by rw[gU]; omega) (by decide) iV ?_
         (repeat' (first|refine dh.lo rfl ?_|refine dh.hi rfl ?_|exact dh.nil))
         ·exact kD rfl nofun rfl rfl ⟨_,rfl,rfl,rfl,by rw[OV.dU rfl]; exact .refl _⟩ (kD rfl nofun rfl rfl ⟨_,rfl,rfl,rfl,by rw[OV.dU rfl]; exact .refl _⟩ (kD rfl nofun rfl (dB (by omega)) ⟨_,rfl,rfl,rfl,jE⟩ trivial))
        refine⟨(sR rfl),rfl,?_⟩;rintro j hj;have hNj:=Px (xs:=XS) hi hj;have ahd:=aeQ i j hi' hj;refine⟨fun h6=>?_,fun h6=>?_⟩
        ·have hj':j<SH.length:=by simpa using h6
         have hNs:DK OUT SH XS i (j+1)=DK OUT SH XS i j++[pG (OUT.getD ((i:Int)).toNat []) XS (SH.getD ((j:Int)).toNat [])]:=aax hj';have hN1:=Px (xs:=XS) hi hj';rw[hNs] at hN1;have ahe:=aeQ i (j+1) hi' hj';obtain⟨hs1,hs2,hs3⟩:=hsl (SH.getD ((j:Int)).toNat []) (by show SH.getD j []∈SH; rw[getD_some hj']; exact List.getElem_mem hj');have hs4: ∀ k∈SH.getD ((j:Int)).toNat [],0<=k/\k<=1048576:=fun k hk=>⟨hs3 k hk,by have:=VY hs3 hk; rw[hs2] at this; omega⟩
         repeat(refine VC.mk (by first|(simp only[mJ,nP,Rw.len]; omega)|(simp only[Rw.rng] at *; omega)) ?_)
         generalize hbase:OUT.getD ((i:Int)).toNat []=base at hb hbb hNs hN1 ⊢;generalize ahf:SH.getD ((j:Int)).toNat []=shr at hs1 hs2 hs3 hs4 hNs hN1 ⊢;refine aC.fam 20000 [99,100,11,16,93,91,92,18,87,85,86,14,46,44,45,0] (fun x:Nat=>[(101,.int x),(21,.own 12)]) (fun x=>wz (II OUT XS (DK OUT SH XS i j).length++[(12,lX (Hy base XS shr x))])++iL 10000 (fR (DK OUT SH XS i j))) (fun x=>x<=shr.length) (fun x=>shr.length-x) 0 (nJ 10000 (fun j=>10000+j) (gG (II OUT XS (DK OUT SH XS i j).length++[(12,lX (Hy base XS shr 0))]) [9,10,11,20005])) _ rfl (by decide) (fun _=>rfl) (Nat.zero_le _) (sR rfl) (.inl rfl) ?_ ?_
         ·refine jX.VU 20000 (II OUT XS (DK OUT SH XS i j).length++[(12,lX (Hy base XS shr 0))]) [9,10,11,20005] ?_ rfl rfl (Nat.zero_le _) (by rw[gU]; omega) (by decide) iV ?_
          (repeat' (first|refine dh.lo rfl ?_|refine dh.hi rfl ?_|exact dh.nil))
          ·exact kD rfl nofun rfl rfl ⟨_,rfl,rfl,rfl,by rw[OV.dU rfl]; exact .refl _⟩ (kD rfl nofun rfl rfl ⟨_,rfl,rfl,rfl,by rw[OV.dU rfl]; exact .refl _⟩ (kD rfl nofun rfl (dB (by omega)) ⟨_,rfl,rfl,rfl,jE⟩ (kD rfl nofun rfl rfl ⟨_,rfl,rfl,rfl,by rw[OV.dU rfl]; exact .refl _⟩ trivial)))
         refine⟨(sR rfl),rfl,?_⟩;rintro x hx;have hpl:=@aaw base XS shr x;have hpb: ∀ k,0<=(Hy base XS shr x).getD k 0/\(Hy base XS shr x).getD k 0<=50000000:=fun k=>by
          have h1:=RU (xs:=XS.take x) (ks:=shr.take x) (M:=1048576) hbb (fun k hk=>hs4 k (List.mem_of_mem_take hk)) (by decide) k;have h2:((XS.take x).length:Int)*1048576<=6*1048576:=Int.mul_le_mul_of_nonneg_right (by rw[List.length_take]; omega) (by decide);have h3:(t:Int)*6291456<=6*6291456:=Int.mul_le_mul_of_nonneg_right (by omega) (by decide);unfold Hy;omega
         refine⟨fun h7=>?_,fun h7=>?_⟩
         ·have hx':x<shr.length:=by simpa using h7
          have agZ:=X8 (c:=base) (xs:=XS) (ks:=shr) (i:=x) (by omega) hx';have hxr:=hrg (XS.getD x 0) (by rw[getD_some (by omega)]; exact List.getElem_mem _);have hxk:=hs4 (shr.getD x 0) (by rw[getD_some hx']; exact List.getElem_mem _);have hpx:=hpb (XS.getD ((x:Int)).toNat 0).toNat;replace hxr:0<=XS.getD ((x:Int)).toNat 0/\XS.getD ((x:Int)).toNat 0<resp.length:=hxr;replace hxk:0<=shr.getD ((x:Int)).toNat 0/\shr.getD ((x:Int)).toNat 0<=1048576:=hxk;repeat(refine VC.mk (by first|(simp only[Rw.rng]; omega)|(simp only[okI]; omega)) ?_)
          refine sH.FU 20000 (x+1) (fR (DK OUT SH XS i j)) (II OUT XS (DK OUT SH XS i j).length++[(12,lX (Hy base XS shr (x+1)))]) [9,10,11,12] rfl hx' (by omega) ?_ rfl rfl (Nat.zero_le _) (by rw[gU]; omega) (by decide) iV (sR rfl) (sR rfl) ?_
          (repeat' (first|refine dh.lo rfl ?_|refine dh.hi rfl ?_|exact dh.nil))
          ·exact kD rfl nofun rfl rfl ⟨_,rfl,rfl,rfl,by rw[OV.dU rfl]; exact .refl _⟩ (kD rfl nofun rfl rfl ⟨_,rfl,rfl,rfl,by rw[OV.dU rfl]; exact .refl _⟩ (kD rfl nofun rfl (dB (by omega)) ⟨_,rfl,rfl,rfl,jE⟩ (kD rfl nofun rfl rfl ⟨_,rfl,rfl,rfl,by rw[agZ,OV.dU rfl]; exact .refl _⟩ trivial)))
         ·have hx':x=shr.length:=by have:=of_decide_eq_false h7; omega
          subst hx';rw[aav hs1.symm] at hpl ⊢;repeat(refine VC.mk (by first|(show((ru 10000 (DK OUT SH XS i j).length).length+(0+1))*24<=140737488355328/\(ru 10000 (DK OUT SH XS i j).length).length+(0+1)<=1152921504606846976; rw[oG]; omega)|(simp only[okI] at *; omega)) ?_)
          refine sH.Z5 20000 (j+1) (DK OUT SH XS i j).length 12 (fR (DK OUT SH XS i j)) (fR (DK OUT SH XS i j++[pG base XS shr])) (II OUT XS ((DK OUT SH XS i j).length+1)) [9,10,20004] (by rw[hNs,List.length_append]; rfl) hj' (by omega) ?_ rfl rfl rfl (Nat.zero_le _) (by rw[gU]; omega) (by rw[gU]; omega) (by decide) iV ?_ (U5 rfl) (sR rfl) (sR rfl) ?_
          (repeat' (first|refine dh.lo rfl ?_|refine dh.hi rfl ?_|exact dh.nil))
          ·intro o ho;rw[Pn rfl] at ho;cases ho;exact⟨_,rfl,rfl⟩
          ·exact kD rfl nofun rfl rfl ⟨_,rfl,rfl,rfl,by rw[OV.dU rfl]; exact .refl _⟩ (kD rfl nofun rfl rfl ⟨_,rfl,rfl,rfl,by rw[OV.dU rfl]; exact .refl _⟩ (kD rfl nofun rfl (dB (by omega)) ⟨_,rfl,rfl,rfl,Ht⟩ trivial))
        ·have hj':j=SH.length:=by have:=of_decide_eq_false h6; omega
         subst hj';have hst:=aay (S:=SH) (xs:=XS) hi';refine .mk (by simp only[okI] at *; omega) ?_;refine sH.FU 20000 (i+1) (fR (DK OUT SH XS i SH.length)) (II OUT XS (DK OUT SH XS i SH.length).length) [9,10,11] (by rw[hst]) hi' (by omega) ?_ rfl rfl (Nat.zero_le _) (by rw[gU]; omega) (by decide) iV (sR rfl) (sR rfl) ?_
         (repeat' (first|refine dh.lo rfl ?_|refine dh.hi rfl ?_|exact dh.nil))
         ·exact kD rfl nofun rfl rfl ⟨_,rfl,rfl,rfl,by rw[OV.dU rfl]; exact .refl _⟩ (kD rfl nofun rfl rfl ⟨_,rfl,rfl,rfl,by rw[OV.dU rfl]; exact .refl _⟩ (kD rfl nofun rfl (dB (by omega)) ⟨_,rfl,rfl,rfl,jE⟩ trivial))
       ·have hi':i=OUT.length:=by have:=of_decide_eq_false h5; rw[oG] at this; omega
        subst hi';rw[acK,hfin] at hN0 ⊢;refine .mk (by simp only[okI] at *; omega) ?_;refine sH.FU 20000 (t+1) (fR (pI resp need (oI need) (t+1))) [(9,xU (pI resp need (oI need) (t+1)).length)] [11] rfl ⟨ht',by omega⟩ (by omega) ?_ rfl rfl (Nat.zero_le _) (by rw[gU]; omega) (by decide) iV (sR rfl) (sR rfl) ?_
        (repeat' (first|refine dh.lo rfl ?_|refine dh.hi rfl ?_|exact dh.nil))
        ·exact kD rfl nofun rfl (dB (by omega)) ⟨_,rfl,rfl,rfl,jE⟩ trivial
     ·have hnone:divO XS.length m=none:=by unfold divO; rw[if_neg hd]
      rw[Dc hnone]
      have hno:=hbig (t+1) ht' (by
       rw[htl]
       have:0<OUT.length:=List.length_pos_iff.2 hne
       exact Nat.lt_of_lt_of_le (by omega:100<(kC XS.length m).length) (Nat.le_mul_of_pos_left _ this))
      rw[hno,hs];repeat(refine VC.mk (by first|exact id|(intro h; rw[h]; rfl)|(intro h; simp_all; done)) ?_)
      refine Fork.mk (fun _=>?_) (fun q=>absurd (q.symm.trans (rfl)) Bool.false_ne_true);exact⟨nofun,fun _=>ak.RI⟩
  ·have ht':t=need.length:=by have:=of_decide_eq_false h1; omega
   subst ht';have hok:Ap resp need=true:=by unfold Ap; rw[hs,hO,decide_eq_true hL]; rfl
   rw[hok,hO];refine⟨fun _=>Pj.fam 20000 rfl (by decide) ?_ (by omega),nofun⟩
   (repeat' (first|refine dh.lo rfl ?_|refine dh.hi rfl ?_|exact dh.nil))
theorem Nz.fR(C k:Nat){j:Nat}{R:List (List Int)}{h:Hz}{K:Nat->Rw->Prop}(e:h.drop k=iL 10000 (fR R))(ho:Eo 10000 C (h.take k)=true)(hC:10000+R.length<=C)(hj:j<R.length)(hK:K 0 (.ints (R.getD j []))):Nz h (10000+j) K :=
 Nz.fam C (show Dl (h.take k) _ h from by rw[Dl,<- e,List.take_append_drop]) ho (by rw[gU]; exact hC) (KN hj) hK
theorem aeR{R:List (List Int)}{j:Nat}{r:List Int}:(fR R).set j (some (lX r))=fR (R.set j r):=(List.map_set ..).symm
theorem Mc.fR(C k:Nat){j x:Nat}{R:List (List Int)}{v:V}{h:Hz}{K:Hz->Prop}(r':List Int)(e:h.drop k=iL 10000 (fR R))(ho:Eo 10000 C (h.take k)=true)(hC:10000+R.length<=C)(hj:j<R.length)(hr:x<(R.getD j []).length)(hs:(Rw.ints (R.getD j [])).set x v=some (.ints r'))
  (hK:K (h.take k++iL 10000 (fR (R.set j r')))):Mc h (10000+j) x 0 v K :=
 Mc.fam C (show Dl (h.take k) _ h from by rw[Dl,<- e,List.take_append_drop]) ho (by rw[gU]; exact hC) (KN hj) hs (by show 0<=(x:Int)/\(x:Int)<_; omega) (by rw[aeR]; exact hK)
theorem V3{B k:Nat}{f:Nat->Nat}:dQ (T.bM (nJ 10000 (fun j=>B+j) f) (xU k).aA.l) (BN 24 B k).aA.l:=by
 refine dQ.of_eq ?_;show T.bM _ (V.aT (ru 10000 k))=V.aT (ru B k);rw[lD,lD,Hr,List.map_map];refine List.map_congr_left fun j _=>?_
 show T.own (nJ 10000 (fun j=>B+j) f (10000+j))=T.own (B+j);rw[vP]
theorem V4{n j:Nat}{x:Option OV}{L:List (Option OV)}{h:Hz}(hj:j<L.length):Hz.get (n+1+j) ((n,x)::(iL (n+1) L++h))=(L[j]?).join:=by
 simp only[Hz.get];have hne:Nat.beq n (n+1+j)=false:=by
  cases e:Nat.beq n (n+1+j) with
  |false=>rfl
  |true=>have:=fC e; omega
 rw[hne,cond_false,UW hj]
theorem aaz{a x y:Nat}(h1:a≠x)(h2:a≠y):nV a [x,y]=true:=by
 have e: ∀ z,a≠z->Nat.beq a z=false:=fun z h=>by
  cases e:Nat.beq a z with
  |false=>rfl
  |true=>exact absurd (fC e) h
 simp only[nV,e x h1,e y h2]; rfl
def xW(R:List (List Int))(f:Int)(i:Nat):List (List Int):=(R.take i).map (fun l=>dH l f 1)++R.drop i
theorem uQ{R:List (List Int)}{f:Int}{i:Nat}(h:i<=R.length):(xW R f i).length=R.length:=by
 unfold xW;rw[List.length_append,List.length_map,List.length_take,List.length_drop]; omega
theorem F5{R:List (List Int)}{f:Int}{i:Nat}(h:i<R.length):(xW R f i).getD i []=R.getD i []:=by
 unfold xW;rw[List.getD_eq_getElem?_getD,List.getElem?_append_right (by rw[List.length_map,List.length_take]; omega),List.length_map,List.length_take,Nat.min_eq_left (by omega),Nat.sub_self,List.getElem?_drop,Nat.add_zero,<- List.getD_eq_getElem?_getD]
theorem F6{R:List (List Int)}{f:Int}{i:Nat}(h:i<R.length):xW R f (i+1)=(xW R f i).set i (dH (R.getD i []) f 1):=by
 unfold xW;rw[List.take_succ_eq_append_getElem h,List.map_append,List.set_append_right _ _ (by rw[List.length_map,List.length_take]; omega),List.length_map,List.length_take,Nat.min_eq_left (by omega),Nat.sub_self,List.drop_eq_getElem_cons h,List.set_cons_zero,getD_some h,List.append_assoc]; rfl
theorem F7{R:List (List Int)}{f:Int}:xW R f R.length=R.map fun l=>dH l f 1:=by
 unfold xW;rw[List.take_length,List.drop_length,List.append_nil]
theorem wB{R:List (List Int)}{f:Int}:xW R f 0=R:=rfl
theorem RX{n:Nat}{x:Option OV}{L:List (Option OV)}{i:Nat}{o:OV}{h:Hz}(hi:i<n)(e:h.get i=some o:=by rfl):Hz.get i ((n,x)::(iL (n+1) L++h))=some o:=by
 simp only[Hz.get];have hne:Nat.beq n i=false:=by
  cases e:Nat.beq n i with
  |false=>rfl
  |true=>have:=fC e; omega
 rw[hne,cond_false,Ph (.inl (by omega)),e]
def KR(r:Rule)(c:List Int):V:=bif decide ((yJ r c).length<=100) then .dn [.row 0 false (.dW (yJ r c)),.bool true] else .dn [.row 0 false (.dW []),.bool false]
theorem NS{r:Rule}{c:List Int}:(KR r c).free=true:=by unfold KR; cases decide ((yJ r c).length<=100)<;>rfl
theorem zY{r:Rule}{c:List Int}:DJ r c=(bif r.kind==1 then(bif zH r (lQ c r.to) then [lQ c r.to] else r.ex.map fun x=>dH (lQ c r.to) x 1) else
  bif r.kind==2 then [dH (lQ (lQ c r.to) r.Di) r.kG 1] else
  bif r.kind==3 then(bif vw r.response (lQ c r.to) then [] else pI r.response (lQ c r.to) (oI (lQ c r.to)) (lQ c r.to).length) else [lQ c r.to]):=rfl
theorem xI{c:List Int}{i:Int}(h:TB c):TB (lQ c i):=by
 intro x hx;rcases List.mem_or_eq_of_mem_set hx with h1|h1
 ·exact h x h1
 ·have:=vC h i.toNat; omega
theorem KT{r:Rule}{c:List Int}(hp:Jp c.length r)(h0:TB c)(hl:c.length<=6): ∀ l∈DJ r c,l.length=c.length/\ ∀ j,0<=l.getD j 0/\l.getD j 0<=50000000:=by
 have hd:TB (lQ c r.to):=xI h0;have hone: ∀ (d:List Int) (x:Int),TB d-> ∀ j,0<=(dH d x 1).getD j 0/\(dH d x 1).getD j 0<=50000000:=fun d x h j=>by
  have:=RQ (B:=1048576) (M:=1) (i:=x) (d:=1) (vC h) (by omega) j;omega
 intro l hl';rw[zY] at hl';cases h1:(r.kind==1) with
 |true =>
  rw[h1,cond_true] at hl';cases ha:zH r (lQ c r.to) with
  |true =>
   rw[ha,cond_true,List.mem_singleton] at hl';subst hl';exact⟨jF,fun j=>by have:=vC hd j; omega⟩
  |false =>
   rw[ha,cond_false,List.mem_map] at hl';obtain⟨x,_,rfl⟩:=hl';exact⟨by rw[uq,jF],hone _ x hd⟩
 |false =>
  rw[h1,cond_false] at hl';cases h2:(r.kind==2) with
  |true =>
   rw[h2,cond_true,List.mem_singleton] at hl';subst hl';exact⟨by rw[uq,jF,jF],hone _ _ (xI hd)⟩
  |false =>
   rw[h2,cond_false] at hl';cases h3:(r.kind==3) with
   |true =>
    obtain⟨aaA,af6⟩:=hp.rsp (by simpa using h3);rw[h3,cond_true] at hl';cases hs:vw r.response (lQ c r.to) with
    |true=>rw[hs,cond_true] at hl'; cases hl'
    |false =>
     rw[hs,cond_false] at hl';have h1:=VX (b:=List.replicate (lQ c r.to).length 0) (by simp[jF,aaA]) (by rw[jF,aaA]) (fun i=>(vC hd i).1) (Nat.le_refl _) l hl';refine⟨by rw[h1,aaA],fun j=>?_⟩;have:=VZ hd (by omega) _ l hl' j;rw[jF] at this
     have:(c.length:Int)*6291456<=6*6291456:=Int.mul_le_mul_of_nonneg_right (by omega) (by decide)
     omega
   |false =>
    rw[h3,cond_false,List.mem_singleton] at hl';subst hl';exact⟨jF,fun j=>by have:=vC hd j; omega⟩
abbrev Aw(r:Rule):OV:=.box 78 19 (.dat (.rule r))
set_option maxHeartbeats 4000000 in
theorem S.jH(r:Rule)(c:List Int)(f:Bool)(hr:uV r)(hp:Jp c.length r)(h0:TB c)(hl0:0<c.length)(hl:c.length<=6)(hx:r.ex.length<=100)(hk:r.kind=1\/r.kind=2\/r.kind=3):aj Tryz.prog 145 [.dat (.rule r),.row 0 f (.ints c)] (KR r c):=by
 have hfree:=@NS r c;have hsm:=KT hp h0 hl;have hB:yJ r c=(DJ r c).map fun l=>dH l r.fr 1:=rfl
 obtain⟨q1,q2⟩:=hp.dst;obtain⟨q3,q4⟩:=hp.agr;obtain⟨q5,q6⟩:=hp.agq;obtain⟨q7,q8⟩:=hp.src;have hc0:=vC h0;generalize hv:KR r c=res;rw[hv] at hfree;refine aj.ofF Bd.jH rfl (by simp) rfl hfree ?_;have hdt:=hc0 r.to.toNat;repeat(refine VC.mk (by first|(simp only[Rw.rng]; omega)|(simp only[okI]; omega)|(simp only[mJ,nP,Rw.len]; omega)) ?_)
 refine⟨fun h1=>?_,fun h1=>?_⟩
 ·have hk1:r.kind=1:=by simpa using h1
  conv=>whnf
  cases ha:zH r (lQ c r.to) with
  |true =>
   obtain⟨RS,BR⟩: ∃ RS,RS=[lQ c r.to]:=⟨_,rfl⟩
   have hlen:RS.length=1:=by rw[BR]; rfl
   have hcR:DJ r c=RS:=by rw[BR,zY,show(r.kind==1)=true by rw[hk1]; rfl,ha]; rfl
   have KU:RS.length<=100:=by omega
   have hRS: ∀ l∈RS,l.length=c.length/\ ∀ j,0<=l.getD j 0/\l.getD j 0<=50000000:=fun l hl'=>hsm l (by rw[hcR]; exact hl')
   have hres:V.dn [.row 0 false (.dW (RS.map fun l=>dH l r.fr 1)),.bool true]=res:=by
    rw[<- hv]; unfold KR; rw[hB,hcR,decide_eq_true (by rw[List.length_map]; exact KU)]; rfl
   refine ah.UN [4] (S.Pq r (lQ c r.to) hr (by rw[jF]; omega) ha) rfl rfl rfl rfl rfl ⟨⟨_,rfl,uP rfl _⟩,trivial⟩ rfl (by decide) ?_;rintro t hp' ⟨rfl,rfl⟩;refine⟨.own 27,[some (lX (lQ c r.to)),some (.gen 24 0 [.inn 4])],rfl,rfl,⟨congrArg some (uP rfl _).symm,rfl,trivial⟩,?_⟩;refine aC.fam 20000 [65,2] (fun i:Nat=>[(66,.int i),(64,.own 9),(7,.own 9)]) (fun i=>wz [(0,Aw r),(9,xU RS.length)]++iL 10000 (fR (xW RS r.fr i))) (fun i=>i<=RS.length) (fun i=>RS.length-i) 0 (nJ 10000 (fun _=>4) (gG [(0,Aw r),(9,xU RS.length)] [0,27])) _ rfl (by decide) (fun _=>rfl) (Nat.zero_le _) (sR rfl) (.inl rfl) ?_ ?_
   ·refine jX.fam (g:=fun _=>4) [(0,Aw r),(9,xU RS.length)] [0,27] ?_ rfl (Nat.zero_le _) (by rw[gU,uQ (Nat.zero_le _)]; omega) (fun j o q=>?_) (fun j j' o o' q q' _=>?_)
    ·exact kD rfl nofun rfl rfl ⟨_,rfl,rfl,rfl,by rw[OV.dU rfl]; exact .refl _⟩ (kD rfl nofun rfl (dB (by omega)) ⟨_,rfl,rfl,rfl,by rw[hlen]; exact .refl _⟩ trivial)
    ·rw[wB,BR] at q;match j,q with
     |0,q=>cases q; exact⟨rfl,rfl,⟨_,rfl,rfl⟩,rfl⟩
     |j+1,q=>cases q
    ·rw[wB,BR] at q q';match j,j',q,q' with
     |0,0,_,_=>rfl
     |j+1,_,q,_=>cases q
     |0,j+1,_,q=>cases q
   refine⟨(sR rfl),rfl,?_⟩;rintro i hi;have hpl:=uQ (f:=r.fr) hi;refine⟨fun h5=>?_,fun h5=>?_⟩
   ·have hi':i<RS.length:=by
     have:=of_decide_eq_true h5
     (try simp only[List.length_cons,List.length_nil] at this)
     first|omega|(replace h5:decide ((i:Int)<1)=true:=h5; have:=of_decide_eq_true h5; omega)
    have hg:=F5 (f:=r.fr) hi';obtain⟨hR1,hR2⟩:=hRS (RS.getD i []) (by rw[getD_some hi']; exact List.getElem_mem hi');rw[<- hg] at hR1 hR2;have YB:=hR2 r.fr.toNat;refine .mk (by show 0<=(i:Int)/\(i:Int)<((ru 10000 RS.length).length:Int); rw[oG]; omega) ?_;refine AtZ.inn hi' ?_;refine Nz.fR 20000 2 rfl rfl (by omega) (by rw[hpl]; exact hi') ?_;refine .mk (by simp only[Rw.rng] at *; first|omega|(simp_all; done)|(simp_all; omega)) ?_;refine Nz.fR 20000 2 rfl rfl (by omega) (by rw[hpl]; exact hi') ?_;repeat(refine VC.mk (by simp only[okI,Rw.rng] at *; first|omega|(simp_all; done)|(simp_all; omega)) ?_)
    refine Nz.fR 20000 2 rfl rfl (by omega) (by rw[hpl]; exact hi') ?_;refine .mk (by simp only[Rw.rng] at *; first|omega|(simp_all; done)|(simp_all; omega)) ?_;refine Mc.fR 20000 2 (dH (RS.getD i []) r.fr 1) rfl rfl (by omega) (by rw[hpl]; exact hi') (by show r.fr.toNat<((xW RS r.fr i).getD i []).length; omega) (by show some _=some _; rw[<- hg]; rfl) ?_;refine .mk (by simp only[okI] at *; first|omega|(simp_all; done)|(simp_all; omega)) ?_;refine sH.FU 20000 (i+1) (fR ((xW RS r.fr i).set i (dH (RS.getD i []) r.fr 1))) [(0,Aw r),(9,xU RS.length)] [0,9] (by rw[F6 hi']) hi' (by omega) ?_ rfl rfl (Nat.zero_le _) (by rw[gU,List.length_set,hpl]; omega) (by decide) iV (sR rfl) (sR rfl) ?_
    (repeat' (first|refine dh.lo rfl ?_|refine dh.hi rfl ?_|exact dh.nil))
    ·exact kD rfl nofun rfl rfl ⟨_,rfl,rfl,rfl,by rw[OV.dU rfl]; exact .refl _⟩ (kD rfl nofun rfl (dB (by omega)) ⟨_,rfl,rfl,rfl,jE⟩ trivial)
   ·have hi':i=RS.length:=by
     have:=of_decide_eq_false h5
     (try simp only[List.length_cons,List.length_nil] at this)
     first|omega|(replace h5:decide ((i:Int)<1)=false:=h5; have:=of_decide_eq_false h5; omega)
    subst hi';rw[F7] at hpl ⊢;rw[<- hres];refine iI.XH (iI.RH 20000 (by rw[List.length_map]; rfl) (by decide) ?_ (by rw[List.length_map]; omega))
    (repeat' (first|refine dh.lo rfl ?_|refine dh.hi rfl ?_|exact dh.nil))
  |false =>
   obtain⟨RS,BR⟩: ∃ RS,RS=r.ex.map fun x=>dH (lQ c r.to) x 1:=⟨_,rfl⟩
   have KU:RS.length<=100:=by rw[BR,List.length_map]; exact hx
   have hcR:DJ r c=RS:=by rw[BR,zY,show(r.kind==1)=true by rw[hk1]; rfl,ha]; rfl
   have hRS: ∀ l∈RS,l.length=c.length/\ ∀ j,0<=l.getD j 0/\l.getD j 0<=50000000:=fun l hl'=>hsm l (by rw[hcR]; exact hl')
   have hres:V.dn [.row 0 false (.dW (RS.map fun l=>dH l r.fr 1)),.bool true]=res:=by
    rw[<- hv]; unfold KR; rw[hB,hcR,decide_eq_true (by rw[List.length_map]; exact KU)]; rfl
   have hW:=S.Pv r (lQ c r.to) false hr (by rw[jF]; omega) (by rw[jF]; exact hp.exs) hx (xI h0) ha;rw[<- BR] at hW;refine ah.nest (fun c=>c=4) (Df (i:=0) (o:=Aw r) (r:=[]) rfl (by decide) trivial) hW ⟨aI _,EH rfl rfl,trivial⟩ rfl adw (fun o ho=>(Jj o ho).1) ?_;refine aC.fam 20000 [65,2] (fun i:Nat=>[(66,.int i),(64,.own 9),(7,.own 9)]) (fun i=>wz [(0,Aw r),(9,xU RS.length)]++iL 10000 (fR (xW RS r.fr i))) (fun i=>i<=RS.length) (fun i=>RS.length-i) 0 (nJ 10000 (fun j=>28+j) (gG [(0,Aw r),(9,xU RS.length)] [0,27])) _ rfl (by decide) (fun _=>rfl) (Nat.zero_le _) (sR rfl) (.inl rfl) ?_ ?_
   ·refine jX.fam (g:=fun j=>28+j) [(0,Aw r),(9,xU RS.length)] [0,27] ?_ rfl (Nat.zero_le _) (by rw[gU,uQ (Nat.zero_le _)]; omega) (fun j o q=>?_) (fun j j' o o' q q' e=>by replace e:28+j=28+j':=e; omega)
    ·refine kD rfl nofun rfl rfl ⟨_,RX (by decide),rfl,rfl,by rw[OV.dU rfl]; exact .refl _⟩ (kD rfl nofun rfl (dB (by omega)) ⟨_,rfl,rfl,rfl,by rw[List.length_map]; exact V3⟩ trivial)
    ·rw[wB] at q;have hj:j<(fR RS).length:=(List.getElem?_eq_some_iff.1 q).1;obtain⟨g1,g2⟩:=iV (nx:=20000) o (List.mem_of_getElem? q);exact⟨g1,g2,⟨o,by rw[RJ]; exact(V4 (n:=27) hj).trans (by rw[q]; rfl),rfl⟩,aaz (by omega) (by omega)⟩
   refine⟨(sR rfl),rfl,?_⟩;rintro i hi;have hpl:=uQ (f:=r.fr) hi;refine⟨fun h5=>?_,fun h5=>?_⟩
   ·have hi':i<RS.length:=by
     have:=of_decide_eq_true h5
     (try simp only[List.length_map,List.length_range,List.length_cons,List.length_nil] at this)
     first|omega|(replace h5:decide ((i:Int)<1)=true:=h5; have:=of_decide_eq_true h5; omega)
    have hg:=F5 (f:=r.fr) hi';obtain⟨hR1,hR2⟩:=hRS (RS.getD i []) (by rw[getD_some hi']; exact List.getElem_mem hi');rw[<- hg] at hR1 hR2;have YB:=hR2 r.fr.toNat;refine .mk (by show 0<=(i:Int)/\(i:Int)<((ru 10000 RS.length).length:Int); rw[oG]; omega) ?_;refine AtZ.inn hi' ?_;refine Nz.fR 20000 2 rfl rfl (by omega) (by rw[hpl]; exact hi') ?_;refine .mk (by simp only[Rw.rng] at *; first|omega|(simp_all; done)|(simp_all; omega)) ?_;refine Nz.fR 20000 2 rfl rfl (by omega) (by rw[hpl]; exact hi') ?_;repeat(refine VC.mk (by simp only[okI,Rw.rng] at *; first|omega|(simp_all; done)|(simp_all; omega)) ?_)
    refine Nz.fR 20000 2 rfl rfl (by omega) (by rw[hpl]; exact hi') ?_;refine .mk (by simp only[Rw.rng] at *; first|omega|(simp_all; done)|(simp_all; omega)) ?_;refine Mc.fR 20000 2 (dH (RS.getD i []) r.fr 1) rfl rfl (by omega) (by rw[hpl]; exact hi') (by show r.fr.toNat<((xW RS r.fr i).getD i []).length; omega) (by show some _=some _; rw[<- hg]; rfl) ?_;refine .mk (by simp only[okI] at *; first|omega|(simp_all; done)|(simp_all; omega)) ?_;refine sH.FU 20000 (i+1) (fR ((xW RS r.fr i).set i (dH (RS.getD i []) r.fr 1))) [(0,Aw r),(9,xU RS.length)] [0,9] (by rw[F6 hi']) hi' (by omega) ?_ rfl rfl (Nat.zero_le _) (by rw[gU,List.length_set,hpl]; omega) (by decide) iV (sR rfl) (sR rfl) ?_
    (repeat' (first|refine dh.lo rfl ?_|refine dh.hi rfl ?_|exact dh.nil))
    ·exact kD rfl nofun rfl rfl ⟨_,rfl,rfl,rfl,by rw[OV.dU rfl]; exact .refl _⟩ (kD rfl nofun rfl (dB (by omega)) ⟨_,rfl,rfl,rfl,jE⟩ trivial)
   ·have hi':i=RS.length:=by
     have:=of_decide_eq_false h5
     (try simp only[List.length_map,List.length_range,List.length_cons,List.length_nil] at this)
     first|omega|(replace h5:decide ((i:Int)<1)=false:=h5; have:=of_decide_eq_false h5; omega)
    subst hi';rw[F7] at hpl ⊢;rw[<- hres];refine iI.XH (iI.RH 20000 (by rw[List.length_map]; rfl) (by decide) ?_ (by rw[List.length_map]; omega))
    (repeat' (first|refine dh.lo rfl ?_|refine dh.hi rfl ?_|exact dh.nil))
 ·conv=>whnf
  refine⟨fun h2=>?_,fun h2=>?_⟩
  ·have hk2:r.kind=2:=by simpa using h2
   obtain⟨RS,BR⟩: ∃ RS,RS=[dH (lQ (lQ c r.to) r.Di) r.kG 1]:=⟨_,rfl⟩
   have hlen:RS.length=1:=by rw[BR]; rfl
   have hcR:DJ r c=RS:=by rw[BR,zY,show(r.kind==1)=false by rw[hk2]; rfl,show(r.kind==2)=true by rw[hk2]; rfl]; rfl
   have KU:RS.length<=100:=by omega
   have hRS: ∀ l∈RS,l.length=c.length/\ ∀ j,0<=l.getD j 0/\l.getD j 0<=50000000:=fun l hl'=>hsm l (by rw[hcR]; exact hl')
   have hres:V.dn [.row 0 false (.dW (RS.map fun l=>dH l r.fr 1)),.bool true]=res:=by
    rw[<- hv]; unfold KR; rw[hB,hcR,decide_eq_true (by rw[List.length_map]; exact KU)]; rfl
   have hd1:0<=(c.set r.to.toNat (max (c.getD r.to.toNat 0-1) 0)).getD r.Di.toNat 0/\(c.set r.to.toNat (max (c.getD r.to.toNat 0-1) 0)).getD r.Di.toNat 0<=1048576:=vC (xI h0) _;have hd2:0<=((c.set r.to.toNat (max (c.getD r.to.toNat 0-1) 0)).set r.Di.toNat (max ((c.set r.to.toNat (max (c.getD r.to.toNat 0-1) 0)).getD r.Di.toNat 0-1) 0)).getD r.kG.toNat 0/\((c.set r.to.toNat (max (c.getD r.to.toNat 0-1) 0)).set r.Di.toNat (max ((c.set r.to.toNat (max (c.getD r.to.toNat 0-1) 0)).getD r.Di.toNat 0-1) 0)).getD r.kG.toNat 0<=1048576:=vC (xI (xI h0)) _;repeat(refine VC.mk (by first|(simp only[Rw.rng,List.length_set]; omega)|(simp only[okI]; omega)) ?_)
   refine aC.fam 20000 [65,2] (fun i:Nat=>[(66,.int i),(64,.own 9),(7,.own 9)]) (fun i=>wz [(0,Aw r),(9,xU RS.length)]++iL 10000 (fR (xW RS r.fr i))) (fun i=>i<=RS.length) (fun i=>RS.length-i) 0 (nJ 10000 (fun _=>4) (gG [(0,Aw r),(9,xU RS.length)] [0,19])) _ rfl (by decide) (fun _=>rfl) (Nat.zero_le _) (sR rfl) (.inl rfl) ?_ ?_
   ·refine jX.fam (g:=fun _=>4) [(0,Aw r),(9,xU RS.length)] [0,19] ?_ rfl (Nat.zero_le _) (by rw[gU,uQ (Nat.zero_le _)]; omega) (fun j o q=>?_) (fun j j' o o' q q' _=>?_)
    ·exact kD rfl nofun rfl rfl ⟨_,rfl,rfl,rfl,by rw[OV.dU rfl]; exact .refl _⟩ (kD rfl nofun rfl (dB (by omega)) ⟨_,rfl,rfl,rfl,by rw[hlen]; exact .refl _⟩ trivial)
    ·rw[wB,BR] at q;match j,q with
     |0,q=>cases q; exact⟨rfl,rfl,⟨_,rfl,rfl⟩,rfl⟩
     |j+1,q=>cases q
    ·rw[wB,BR] at q q';match j,j',q,q' with
     |0,0,_,_=>rfl
     |j+1,_,q,_=>cases q
     |0,j+1,_,q=>cases q
   refine⟨(sR rfl),rfl,?_⟩;rintro i hi;have hpl:=uQ (f:=r.fr) hi;refine⟨fun h5=>?_,fun h5=>?_⟩
   ·have hi':i<RS.length:=by
     have:=of_decide_eq_true h5
     (try simp only[List.length_cons,List.length_nil] at this)
     first|omega|(replace h5:decide ((i:Int)<1)=true:=h5; have:=of_decide_eq_true h5; omega)
    have hg:=F5 (f:=r.fr) hi';obtain⟨hR1,hR2⟩:=hRS (RS.getD i []) (by rw[getD_some hi']; exact List.getElem_mem hi');rw[<- hg] at hR1 hR2;have YB:=hR2 r.fr.toNat;refine .mk (by show 0<=(i:Int)/\(i:Int)<((ru 10000 RS.length).length:Int); rw[oG]; omega) ?_;refine AtZ.inn hi' ?_;refine Nz.fR 20000 2 rfl rfl (by omega) (by rw[hpl]; exact hi') ?_;refine .mk (by simp only[Rw.rng] at *; first|omega|(simp_all; done)|(simp_all; omega)) ?_;refine Nz.fR 20000 2 rfl rfl (by omega) (by rw[hpl]; exact hi') ?_;repeat(refine VC.mk (by simp only[okI,Rw.rng] at *; first|omega|(simp_all; done)|(simp_all; omega)) ?_)
    refine Nz.fR 20000 2 rfl rfl (by omega) (by rw[hpl]; exact hi') ?_;refine .mk (by simp only[Rw.rng] at *; first|omega|(simp_all; done)|(simp_all; omega)) ?_;refine Mc.fR 20000 2 (dH (RS.getD i []) r.fr 1) rfl rfl (by omega) (by rw[hpl]; exact hi') (by show r.fr.toNat<((xW RS r.fr i).getD i []).length; omega) (by show some _=some _; rw[<- hg]; rfl) ?_;refine .mk (by simp only[okI] at *; first|omega|(simp_all; done)|(simp_all; omega)) ?_;refine sH.FU 20000 (i+1) (fR ((xW RS r.fr i).set i (dH (RS.getD i []) r.fr 1))) [(0,Aw r),(9,xU RS.length)] [0,9] (by rw[F6 hi']) hi' (by omega) ?_ rfl rfl (Nat.zero_le _) (by rw[gU,List.length_set,hpl]; omega) (by decide) iV (sR rfl) (sR rfl) ?_
    (repeat' (first|refine dh.lo rfl ?_|refine dh.hi rfl ?_|exact dh.nil))
    ·exact kD rfl nofun rfl rfl ⟨_,rfl,rfl,rfl,by rw[OV.dU rfl]; exact .refl _⟩ (kD rfl nofun rfl (dB (by omega)) ⟨_,rfl,rfl,rfl,jE⟩ trivial)
   ·have hi':i=RS.length:=by
     have:=of_decide_eq_false h5
     (try simp only[List.length_cons,List.length_nil] at this)
     first|omega|(replace h5:decide ((i:Int)<1)=false:=h5; have:=of_decide_eq_false h5; omega)
    subst hi';rw[F7] at hpl ⊢;rw[<- hres];refine iI.XH (iI.RH 20000 (by rw[List.length_map]; rfl) (by decide) ?_ (by rw[List.length_map]; omega))
    (repeat' (first|refine dh.lo rfl ?_|refine dh.hi rfl ?_|exact dh.nil))
  ·have hk3:r.kind=3:=by
    rcases hk with h|h|h
    ·rw[h] at h1; cases h1
    ·rw[h] at h2; cases h2
    ·exact h
   obtain⟨aaA,af6⟩:=hp.rsp hk3;have hS:=S.pV r.response (lQ c r.to) false false (by rw[jF,aaA]) (by rw[jF]; exact hl0) (by rw[jF]; exact hl) (xI h0) (by rw[jF]; exact af6);refine Fork.mk (fun _=>?_) (fun q=>absurd (q.symm.trans (by rw[hk3]; rfl)) Bool.false_ne_true);conv=>whnf
   cases hso:Ap r.response (lQ c r.to) with
   |true =>
    have hW:=hS.1 hso;have acL:=hso;unfold Ap at acL;rw[Bool.and_eq_true] at acL;have hst:vw r.response (lQ c r.to)=false:=by simpa using acL.1
    obtain⟨RS,BR⟩: ∃ RS,RS=pI r.response (lQ c r.to) (oI (lQ c r.to)) (lQ c r.to).length:=⟨_,rfl⟩
    have KU:RS.length<=100:=by rw[BR]; exact of_decide_eq_true acL.2
    have hcR:DJ r c=RS:=by rw[BR,zY,show(r.kind==1)=false by rw[hk3]; rfl,show(r.kind==2)=false by rw[hk3]; rfl,show(r.kind==3)=true by rw[hk3]; rfl,hst]; rfl
    have hRS: ∀ l∈RS,l.length=c.length/\ ∀ j,0<=l.getD j 0/\l.getD j 0<=50000000:=fun l hl'=>hsm l (by rw[hcR]; exact hl')
    have hres:V.dn [.row 0 false (.dW (RS.map fun l=>dH l r.fr 1)),.bool true]=res:=by
     rw[<- hv]; unfold KR; rw[hB,hcR,decide_eq_true (by rw[List.length_map]; exact KU)]; rfl
    rw[<- BR] at hW;refine ah.nest (fun c=>c=4) (Df (i:=0) (o:=Aw r) (r:=[]) rfl (by decide) trivial) hW ⟨aI _,EH rfl rfl,trivial⟩ rfl (aas true) (fun o ho=>(Jj o ho).1) ?_;refine Fork.mk (fun q=>absurd (q.symm.trans (rfl)).symm Bool.false_ne_true) (fun _=>?_);refine aC.fam 20000 [65,2] (fun i:Nat=>[(66,.int i),(64,.own 9),(7,.own 9)]) (fun i=>wz [(0,Aw r),(9,xU RS.length)]++iL 10000 (fR (xW RS r.fr i))) (fun i=>i<=RS.length) (fun i=>RS.length-i) 0 (nJ 10000 (fun j=>34+j) (gG [(0,Aw r),(9,xU RS.length)] [0,33])) _ rfl (by decide) (fun _=>rfl) (Nat.zero_le _) (sR rfl) (.inl rfl) ?_ ?_
    ·refine jX.fam (g:=fun j=>34+j) [(0,Aw r),(9,xU RS.length)] [0,33] ?_ rfl (Nat.zero_le _) (by rw[gU,uQ (Nat.zero_le _)]; omega) (fun j o q=>?_) (fun j j' o o' q q' e=>by replace e:34+j=34+j':=e; omega)
     ·refine kD rfl nofun rfl rfl ⟨_,RX (by decide),rfl,rfl,by rw[OV.dU rfl]; exact .refl _⟩ (kD rfl nofun rfl (dB (by omega)) ⟨_,rfl,rfl,rfl,by rw[List.length_map]; exact V3⟩ trivial)
     ·rw[wB] at q;have hj:j<(fR RS).length:=(List.getElem?_eq_some_iff.1 q).1;obtain⟨g1,g2⟩:=iV (nx:=20000) o (List.mem_of_getElem? q);exact⟨g1,g2,⟨o,by rw[RJ]; exact(V4 (n:=33) hj).trans (by rw[q]; rfl),rfl⟩,aaz (by omega) (by omega)⟩
    refine⟨(sR rfl),rfl,?_⟩;rintro i hi;have hpl:=uQ (f:=r.fr) hi;refine⟨fun h5=>?_,fun h5=>?_⟩
    ·have hi':i<RS.length:=by
      have:=of_decide_eq_true h5
      (try simp only[List.length_map,List.length_range,List.length_cons,List.length_nil] at this)
      first|omega|(replace h5:decide ((i:Int)<1)=true:=h5; have:=of_decide_eq_true h5; omega)
     have hg:=F5 (f:=r.fr) hi';obtain⟨hR1,hR2⟩:=hRS (RS.getD i []) (by rw[getD_some hi']; exact List.getElem_mem hi');rw[<- hg] at hR1 hR2;have YB:=hR2 r.fr.toNat;refine .mk (by show 0<=(i:Int)/\(i:Int)<((ru 10000 RS.length).length:Int); rw[oG]; omega) ?_;refine AtZ.inn hi' ?_;refine Nz.fR 20000 2 rfl rfl (by omega) (by rw[hpl]; exact hi') ?_;refine .mk (by simp only[Rw.rng] at *; first|omega|(simp_all; done)|(simp_all; omega)) ?_;refine Nz.fR 20000 2 rfl rfl (by omega) (by rw[hpl]; exact hi') ?_;repeat(refine VC.mk (by simp only[okI,Rw.rng] at *; first|omega|(simp_all; done)|(simp_all; omega)) ?_)
     refine Nz.fR 20000 2 rfl rfl (by omega) (by rw[hpl]; exact hi') ?_;refine .mk (by simp only[Rw.rng] at *; first|omega|(simp_all; done)|(simp_all; omega)) ?_;refine Mc.fR 20000 2 (dH (RS.getD i []) r.fr 1) rfl rfl (by omega) (by rw[hpl]; exact hi') (by show r.fr.toNat<((xW RS r.fr i).getD i []).length; omega) (by show some _=some _; rw[<- hg]; rfl) ?_;refine .mk (by simp only[okI] at *; first|omega|(simp_all; done)|(simp_all; omega)) ?_;refine sH.FU 20000 (i+1) (fR ((xW RS r.fr i).set i (dH (RS.getD i []) r.fr 1))) [(0,Aw r),(9,xU RS.length)] [0,9] (by rw[F6 hi']) hi' (by omega) ?_ rfl rfl (Nat.zero_le _) (by rw[gU,List.length_set,hpl]; omega) (by decide) iV (sR rfl) (sR rfl) ?_
     (repeat' (first|refine dh.lo rfl ?_|refine dh.hi rfl ?_|exact dh.nil))
     ·exact kD rfl nofun rfl rfl ⟨_,rfl,rfl,rfl,by rw[OV.dU rfl]; exact .refl _⟩ (kD rfl nofun rfl (dB (by omega)) ⟨_,rfl,rfl,rfl,jE⟩ trivial)
    ·have hi':i=RS.length:=by
      have:=of_decide_eq_false h5
      (try simp only[List.length_map,List.length_range,List.length_cons,List.length_nil] at this)
      first|omega|(replace h5:decide ((i:Int)<1)=false:=h5; have:=of_decide_eq_false h5; omega)
     subst hi';rw[F7] at hpl ⊢;rw[<- hres];refine iI.XH (iI.RH 20000 (by rw[List.length_map]; rfl) (by decide) ?_ (by rw[List.length_map]; omega))
     (repeat' (first|refine dh.lo rfl ?_|refine dh.hi rfl ?_|exact dh.nil))
   |false =>
    refine ah.lend (hS.2 hso) ⟨aI _,EH trivial rfl,trivial⟩ rfl rfl ?_;unfold Ap at hso;cases hst:vw r.response (lQ c r.to) with
    |true =>
     have hcR:DJ r c=[]:=by rw[zY,show(r.kind==1)=false by rw[hk3]; rfl,show(r.kind==2)=false by rw[hk3]; rfl,show(r.kind==3)=true by rw[hk3]; rfl,hst]; rfl
     have hres:V.dn [.row 0 false (.dW []),.bool true]=res:=by
      rw[<- hv]; unfold KR; rw[hB,hcR]; rfl
     refine Fork.mk (fun q=>absurd (q.symm.trans (rfl)).symm Bool.false_ne_true) (fun _=>?_);refine aC.times 1 rfl ?_;refine Fork.mk (fun q=>absurd (q.symm.trans ((rfl:decide ((0:Int)<0)=false))).symm Bool.false_ne_true) (fun _=>?_);conv=>whnf
     rw[<- hres];exact iI.same
    |false =>
     have hbig: ¬ (pI r.response (lQ c r.to) (oI (lQ c r.to)) (lQ c r.to).length).length<=100:=by
      rw[hst] at hso;simpa using hso
     have hcR:DJ r c=pI r.response (lQ c r.to) (oI (lQ c r.to)) (lQ c r.to).length:=by rw[zY,show(r.kind==1)=false by rw[hk3]; rfl,show(r.kind==2)=false by rw[hk3]; rfl,show(r.kind==3)=true by rw[hk3]; rfl,hst]; rfl
     have hres:V.dn [.row 0 false (.dW []),.bool false]=res:=by
      rw[<- hv]; unfold KR; rw[hB,hcR,decide_eq_false (by rw[List.length_map]; exact hbig)]; rfl
     refine Fork.mk (fun _=>?_) (fun q=>absurd (q.symm.trans (rfl)) Bool.false_ne_true);conv=>whnf
     rw[<- hres];exact iI.RI
end Go.Proofs.YtdhobgbagphngaaGreatDoor
