/-
 What a broadcast comes from: the program's lists. No condition.
-/
import Derived.Test.YtkmldgihhaooaaaGreatDoorQa
namespace Go.Proofs.YtkmldgihhaooaaaGreatDoor
open Go.Ab Go.Proofs
set_option maxRecDepth 100000
theorem abJ{Z:Nat->Prop}{h:Hz}{i:Nat}{R:List (List Int)}(C:Nat)(hi:h.get i=some (yw R.length))(hz: ¬ Z i)(hZ: ∀ j,j<R.length->Z (10000+j))(q:bQ 10000 C (iG 10000 (fR R)) h)(hC:10000+R.length<=C) :
  ∃ o',h.get i=some o'/\ ¬ Z i/\o'.au.ty=(OV.row 24 0 (.bH R) []).au.ty/\o'.au.k=(OV.row 24 0 (.bH R) []).au.k/\T.dD Z h.ay (OV.row 24 0 (.bH R) []).au.l o'.au.l/\(OV.row 24 0 (.bH R) []).au.l.map T.kd=o'.au.l.map T.kd/\(OV.row 24 0 (.bH R) []).au.l.map fZ=o'.au.l.map fZ:=by
 have e1:(OV.row 24 0 (.bH R) []).au.l=R.map Go.Ab.ints:=by simp[OV.au,Rw.aT,V.aT]
 have e2:(yw R.length).au.l=(List.range R.length).map fun j=>T.own (10000+j):=lU
 refine⟨_,hi,hz,rfl,rfl,?_,?_,?_⟩
 ·rw[e1,e2];refine Gp (by simp) fun j t u h1 h2=>?_
  have hj:j<R.length:=by have:=(List.getElem?_eq_some_iff.1 h1).1; simpa using this
  rw[List.getElem?_map,List.getElem?_eq_getElem hj] at h1;rw[List.getElem?_map,List.getElem?_range hj] at h2;cases h1; cases h2;refine⟨rfl,hZ j hj,?_,by decide,3,?_⟩
  ·rw[fU]; intro t ht; obtain⟨x,_,rfl⟩:=List.mem_map.1 ht; rfl
  ·have:=aK (q.get (by rw[gY]; exact hC) (LZ hj));rw[this,getD_some hj];simp[OV.au,V.aT,Rw.aT]
 ·rw[e1,e2,List.map_map,List.map_map];apply List.ext_getElem
  ·simp
  ·intro j h1 h2;simp only[List.getElem_map,Function.comp]; rfl
 ·rw[e1,e2,List.map_map,List.map_map];apply List.ext_getElem
  ·simp
  ·intro j h1 h2;simp only[List.getElem_map,Function.comp]; rfl
theorem Zb{Z:Nat->Prop}{h:Hz}{i:Nat}{R:List (List Int)}{r:Hz}(C:Nat)(hi:h.get i=some (yw R.length))(hz: ¬ Z i)(hZ: ∀ j,j<R.length->Z (10000+j))(q:bQ 10000 C (iG 10000 (fR R)) h)(hC:10000+R.length<=C)(hr:LV Z h r):LV Z h ((i,some (.row 24 0 (.bH R) []))::r):=⟨abJ C hi hz hZ q hC,hr⟩
theorem DV{Z:Nat->Prop}{h:Hz}{i:Nat}{o:OV}{r:Hz}(hi:h.get i=some o)(hz: ¬ Z i)(hr:LV Z h r):LV Z h ((i,some o)::r):=⟨dJ hi hz,hr⟩
def lY(resp:List Int)(t i:Nat):List Int:=((List.range i).filter fun x=>resp.getD x 0==(t:Int)).map fun x:Nat=>(x:Int)
theorem xW{resp:List Int}{t i:Nat}:lY resp t (i+1)=bif resp.getD i 0==(t:Int) then lY resp t i++[(i:Int)] else lY resp t i:=by
 unfold lY;rw[List.range_succ,List.filter_append,List.map_append,List.filter_cons,List.filter_nil];show _++List.map _ (if(resp.getD i 0==(t:Int))=true then [i] else [])=_;cases (resp.getD i 0==(t:Int))
 ·exact List.append_nil _
 ·rfl
theorem zH{resp:List Int}{t i:Nat}:(lY resp t i).length<=i:=by
 unfold lY;rw[List.length_map];exact Nat.le_trans (List.length_filter_le ..) (by simp)
theorem OO{resp:List Int}{t i:Nat}: ∀ x∈lY resp t i,0<=x/\x<i:=by
 intro x hx;obtain⟨k,hk,rfl⟩:=List.mem_map.1 hx;have:=List.mem_range.1 (List.mem_filter.1 hk).1;omega
def EZ(resp need:List Int)(i:Nat):Bool:=(List.range i).any fun t=>decide (0<need.getD t 0)&& !(Ji resp t)
theorem Jd{resp need:List Int}{i:Nat}:EZ resp need (i+1)=(EZ resp need i||(decide (0<need.getD i 0)&& !(Ji resp i))):=by
 unfold EZ;rw[List.range_succ,List.any_append]; simp
theorem L8{resp need:List Int}:EZ resp need need.length=lX resp need:=rfl
theorem OQ{resp need:List Int}{i:Nat}(hi:i<need.length)(h:(decide (0<need.getD i 0)&& !(Ji resp i))=true):lX resp need=true:=by
 unfold lX;rw[List.any_eq_true];exact⟨i,List.mem_range.2 hi,h⟩
def IQ(c xs ks:List Int)(i:Nat):List Int:=og c (xs.take i) (ks.take i)
theorem abK: ∀ {xs ks:List Int} {c:List Int} {x k:Int},xs.length=ks.length->og c (xs++[x]) (ks++[k])=aS (og c xs ks) x k:=by
 intro xs;induction xs with
 |nil=>intro ks c x k h; cases ks with|nil=>rfl|cons _ _=>cases h
 |cons a xs ih =>
  intro ks c x k h;cases ks with
  |nil=>cases h
  |cons b ks=>exact ih (Nat.succ.inj h)
theorem Zc{c xs ks:List Int}{i:Nat}(h1:i<xs.length)(h2:i<ks.length):IQ c xs ks (i+1)=aS (IQ c xs ks i) (xs.getD i 0) (ks.getD i 0):=by
 unfold IQ;rw[List.take_succ_eq_append_getElem h1,List.take_succ_eq_append_getElem h2,abK (by simp; omega),getD_some h1,getD_some h2]
theorem abL{c xs ks:List Int}(h:xs.length=ks.length):IQ c xs ks ks.length=og c xs ks:=by
 unfold IQ;rw[<- h,List.take_length,h,List.take_length]
theorem abM{c xs ks:List Int}{i:Nat}:(IQ c xs ks i).length=c.length:=Tm
def Ep(O S:List (List Int))(xs:List Int)(i j:Nat):List (List Int):=((O.take i).flatMap fun c=>S.map fun s=>og c xs s)++(S.take j).map fun s=>og (O.getD i []) xs s
theorem Qo{O S:List (List Int)}{xs:List Int}{i j:Nat}(hi:i<=O.length)(hj:j<=S.length):(Ep O S xs i j).length=i*S.length+j:=by
 have: ∀ L:List (List Int),(L.flatMap fun c=>S.map fun s=>og c xs s).length=L.length*S.length:=by
  intro L;induction L with
  |nil=>simp
  |cons c L ih=>rw[List.flatMap_cons,List.length_append,ih,List.length_map,List.length_cons,Nat.succ_mul,Nat.add_comm]
 unfold Ep;rw[List.length_append,this,List.length_map,List.length_take,List.length_take,Nat.min_eq_left hi,Nat.min_eq_left hj]
theorem abN{O S:List (List Int)}{xs:List Int}{i j:Nat}(hj:j<S.length):Ep O S xs i (j+1)=Ep O S xs i j++[og (O.getD i []) xs (S.getD j [])]:=by
 unfold Ep;rw[List.take_succ_eq_append_getElem hj,List.map_append,<- List.append_assoc,getD_some hj]; rfl
theorem abO{O S:List (List Int)}{xs:List Int}{i:Nat}(hi:i<O.length):Ep O S xs (i+1) 0=Ep O S xs i S.length:=by
 unfold Ep;rw[List.take_succ_eq_append_getElem hi,List.flatMap_append,List.take_length,getD_some hi];simp
theorem ad9{O S:List (List Int)}{xs:List Int}:Ep O S xs O.length 0=O.flatMap fun c=>S.map fun s=>og c xs s:=by
 unfold Ep;rw[List.take_length]; simp
theorem Qp{resp need b:List Int}(hb:b.length=resp.length)(_hn:need.length=resp.length)(h0: ∀ i,0<=need.getD i 0){n:Nat}(h:n<=need.length): ∀ c∈lq resp need [b] n,c.length=resp.length:=(Xm hb h h0).len
theorem ak.TG{b:Bool}{k:Nat}{h:Hz}:ak (.eX [.row 0 false (.bH []),.bool b]) (.eX [.row k true .nil,.bool b]) h:=⟨by
  show T.sub _ _ (.eX [.sl 0 false [],(V.bool b).aH]) (.eX [.sl k true [],(V.bool b).aH]);simp only[T.sub,T.dD]
  exact⟨⟨.inl trivial,.inr trivial,fun h=>by cases h⟩,aF _,trivial⟩⟩
def nM(need:List Int):List (List Int):=[List.replicate need.length 0]
theorem GN{c:List Int}{i d B M:Int}(hc: ∀ j,0<=c.getD j 0/\c.getD j 0<=B)(hd:0<=d/\d<=M)(j:Nat):0<=(aS c i d).getD j 0/\(aS c i d).getD j 0<=B+M:=by
 have:=hc j;rw[mZ];split<;>omega
theorem TK: ∀ {xs ks c:List Int} {B M:Int},(∀ j,0<=c.getD j 0/\c.getD j 0<=B)->(∀ k∈ks,0<=k/\k<=M)->0<=M-> ∀ j,0<=(og c xs ks).getD j 0/\(og c xs ks).getD j 0<=B+xs.length*M:=by
 intro xs;induction xs with
 |nil=>intro ks c B M hc _ _ j; have:=hc j; simp only[og,List.length_nil]; omega
 |cons x xs ih =>
  intro ks c B M hc hk hM j;have hm:(0:Int)<=(xs.length:Int)*M:=Int.mul_nonneg (by omega) hM;have e:(((x::xs).length:Nat):Int)*M=M+(xs.length:Int)*M:=by rw[List.length_cons,Int.natCast_add,Int.add_mul]; simp only[Int.natCast_one,Int.one_mul]; omega
  cases ks with
  |nil=>have:=hc j; rw[e]; simp only[og]; omega
  |cons k ks =>
   have:=ih (c:=aS c x k) (B:=B+M) (ks:=ks) (GN hc (hk k (by simp))) (fun y hy=>hk y (List.mem_cons_of_mem _ hy)) hM j;rw[e];simp only[og];omega
theorem Xt: ∀ {l:List Int} {x:Int},(∀ y∈l,0<=y)->x∈l->x<=l.sum:=by
 intro l;induction l with
 |nil=>intro x _ h; cases h
 |cons a l ih =>
  intro x h0 hx;have ha:=h0 a (by simp);have hl: ∀ y∈l,0<=y:=fun y hy=>h0 y (List.mem_cons_of_mem _ hy)
  have hs:0<=l.sum:=by
   cases l with
   |nil=>simp
   |cons b l=>exact Int.le_trans (hl b (by simp)) (ih hl (by simp))
  rw[List.sum_cons];rcases List.mem_cons.1 hx with rfl|hx
  ·omega
  ·have:=ih hl hx; omega
theorem Qq{resp need:List Int}(h0:Nw need)(hl:resp.length<=6): ∀ t:Nat,∀ c∈lq resp need (nM need) t,∀ j,0<=c.getD j 0/\c.getD j 0<=(t:Int)*6291456:=by
 intro t;induction t with
 |zero =>
  intro c hc j
  have:c=List.replicate need.length 0:=by simpa [lq,nM] using hc
  subst this;rw[List.getD_eq_getElem?_getD,List.getElem?_replicate];split<;>simp
 |succ t ih =>
  intro c hc j;rw[uw] at hc;unfold yu at hc;cases hz:(need.getD t 0==0) with
  |true =>
   rw[hz] at hc;have:=ih c hc j;omega
  |false =>
   rw[hz,cond_false,List.mem_flatMap] at hc;obtain⟨b,hb,hc⟩:=hc;rw[vV,List.mem_map] at hc;obtain⟨s,hs,rfl⟩:=hc;have hm:=jC h0 t;obtain⟨hs1,hs2⟩:=Qk hs;have hx:(gZ resp t).length<=6:=Nat.le_trans (zH (resp:=resp) (t:=t) (i:=resp.length)) hl;have:=TK (xs:=gZ resp t) (ks:=s) (M:=1048576) (ih b hb) (fun k hk=>⟨hs2 k hk,by have:=Xt hs2 hk; rw[hs1] at this; omega⟩) (by decide) j
   have:((gZ resp t).length:Int)*1048576<=6*1048576:=Int.mul_le_mul_of_nonneg_right (by omega) (by decide)
   omega
def AX(resp need:List Int):Bool:= !(lX resp need)&&decide ((lq resp need (nM need) need.length).length<=100)
abbrev Jp(O:List (List Int))(xs:List Int)(k:Nat):List (Nat×OV):=[(9,.row 24 0 (.bH O) []),(10,iV xs),(11,yw k)]
theorem kM{ρ:Nat->Nat}{nx pn:Nat}{h:Hz}{c n:Nat}{o:OV}{l:List (Nat×OV)}{s:List Nat}(h1:Nat.blt c nx=true)(h2:Nat.blt c pn=true->n=c)(h3:oO n s=true)(h4:o.good nx=true)(h5: ∃ o',h.get n=some o'/\o'.au.ty=o.au.ty/\o'.au.k=o.au.k/\dU (T.bJ ρ o.au.l) o'.au.l)(h6:okR ρ nx pn h l s):okR ρ nx pn h ((c,o)::l) (n::s):=⟨⟨h1,h2,h3,h4,h5⟩,h6⟩
set_option maxHeartbeats 4000000 in
theorem S.qM(resp need:List Int)(f g:Bool)(hn:need.length=resp.length)(hn0:0<need.length)(ZH:need.length<=6)(h0:Nw need)(_hp:qQ need.length resp) :
  (AX resp need=true->CV Tryz.prog 121 [.row 0 f (.ints resp),.row 0 g (.ints need)] (fun n=>.eX [.own n,.bool true]) 24 ((lq resp need (nM need) need.length).map iV)) /\
  (AX resp need=false->aj Tryz.prog 121 [.row 0 f (.ints resp),.row 0 g (.ints need)] (.eX [.row 0 false (.bH []),.bool (lX resp need)])):=by
 have hpos: ∀ i,0<=need.getD i 0:=fun i=>(jC h0 i).1
 refine afV.of (AX resp need) Bd.qM (by simp) rfl (abI true) JW rfl ?_;refine aA.objs 0 [24,25,0,1] (fun i:Nat=>[(26,.int i)]) (fun _=>[]) (fun i=>i<=need.length/\EZ resp need i=false) (fun i=>need.length-i) 0 [] rfl (by decide) (fun _=>rfl) ⟨Nat.zero_le _,rfl⟩ (sR rfl) trivial ?_;refine⟨(sR rfl),rfl,?_⟩;rintro i ⟨hi,hs⟩;refine⟨fun h1=>?_,fun h1=>?_⟩
 ·have hi':i<need.length:=by simpa using h1
  repeat(refine VC.mk (by first|exact fun h=>⟨h,h⟩|(simp only[Rw.rng] at *; omega)) ?_)
  refine ah.fV (fun _=>S.slices_Contains_int resp i f (by omega)) rfl ?_;repeat(refine VC.mk id ?_)
  refine⟨fun h2=>?_,fun h2=>?_⟩
  ·replace h2:(decide (0<need.getD i 0)&& !(Ji resp i))=true:=h2;have hS:=OQ hi' h2;conv=>whnf
   rw[show AX resp need=false by unfold AX; rw[hS]; rfl,hS];exact⟨nofun,fun _=>ak.TG⟩
  ·replace h2:(decide (0<need.getD i 0)&& !(Ji resp i))=false:=h2;refine .mk (by simp only[okI] at *; omega) ?_;exact⟨i+1,[],⟨hi',by rw[Jd,hs,h2]; rfl⟩,by omega,(sR rfl),(sR rfl),trivial⟩
 ·have hi':i=need.length:=by have:=of_decide_eq_false h1; omega
  subst hi';rw[L8] at hs;conv=>whnf
  rw[Bq hn0];refine .mk (by omega) ?_;conv=>whnf
  have hz:(nM need).length=1:=rfl;have ag9: ∀ t,need.getD t 0≠0->gZ resp t≠[]:=Am hs hpos;refine aA.fam 20000 [44,45,0] (fun t:Nat=>[(46,.int t),(8,.own 9)]) (fun t=>yt [(9,yw (lq resp need (nM need) t).length)]++iG 10000 (fR (lq resp need (nM need) t))) (fun t=>t<=need.length/\(lq resp need (nM need) t).length<=100) (fun t=>need.length-t) 0 (lS 10000 (fun _=>3) (iL [(9,yw 1)] [4])) _ rfl (by decide) (fun _=>rfl) ⟨Nat.zero_le _,by show 1<=100; decide⟩ (sR rfl) (.inl rfl) ?_ ?_
  ·refine jX.fam (g:=fun _=>3) [(9,yw 1)] [4] ?_ rfl (Nat.zero_le _) (show 10000+1<=20000 by decide) (fun j o q=>?_) (fun j j' o o' q q' _=>?_)
   ·exact kM rfl nofun rfl (dw (by decide)) ⟨_,rfl,rfl,rfl,.refl _⟩ trivial
   ·match j,q with
    |0,q=>cases q; exact⟨rfl,rfl,⟨_,rfl,rfl⟩,rfl⟩
    |j+1,q=>cases q
   ·match j,j',q,q' with
    |0,0,_,_=>rfl
    |j+1,_,q,_=>cases q
    |0,j+1,_,q=>cases q
  refine⟨(sR rfl),rfl,?_⟩;clear h1 hi;rintro t ⟨ht,hL⟩;have hlen: ∀ c∈lq resp need (nM need) t,c.length=resp.length:=Qp (by simp[hn]) hn hpos ht;have aay:=Qq h0 (by omega:resp.length<=6) t;have hne:(lq resp need (nM need) t)≠[]:=by
   have:=TA (resp:=resp) (need:=need) (out:=nM need) ag9 (n:=0) t;rw[Nat.zero_add] at this;intro h;rw[h] at this;exact absurd this (by show ¬ 1<=0; decide)
  have hnx:lq resp need (nM need) (t+1)=yu resp need (lq resp need (nM need) t) t:=uw;have hbig: ∀ u,u<=need.length->100<(lq resp need (nM need) u).length->AX resp need=false:=fun u hu hb=>by
   have:=ad8 ag9 hu hb;unfold AX;rw[decide_eq_false (by omega),Bool.and_false]
  generalize hO:lq resp need (nM need) t=OUT at hL hlen hne hnx aay;refine⟨fun h1=>?_,fun h1=>?_⟩
  ·have ht':t<need.length:=by simpa using h1
   refine .mk (by simp only[Rw.rng] at *; omega) ?_;refine⟨fun h2=>?_,fun h2=>?_⟩
   ·replace h2:(need.getD t 0==0)=true:=h2;have hsame:lq resp need (nM need) (t+1)=OUT:=by rw[hnx]; unfold yu; rw[h2]; rfl
    refine .mk (by simp only[okI] at *; omega) ?_;refine qL.Gx 20000 (t+1) (fR OUT) [(9,yw OUT.length)] [9] (by rw[hsame]) ⟨ht',by rw[hsame]; exact hL⟩ (by omega) ?_ rfl rfl (Nat.zero_le _) (by rw[gY]; omega) (by decide) jv (sR rfl) (sR rfl) ?_
    (repeat' (first|refine bQ.lo rfl ?_|refine bQ.hi rfl ?_|exact bQ.nil))
    ·exact kM rfl nofun rfl (dw (by omega)) ⟨_,rfl,rfl,rfl,jY⟩ trivial
   ·replace h2:(need.getD t 0==0)=false:=h2;refine aA.nil 11 3 0 (by rfl) rfl rfl rfl ?_;refine aA.fam 20000 [53,54,9,10,8,46,44,45,0] (fun i:Nat=>[(55,.int i),(11,.own 10)]) (fun i=>yt [(9,yw OUT.length),(10,iV (lY resp t i))]++iG 10000 (fR OUT)) (fun i=>i<=resp.length) (fun i=>resp.length-i) 0 (lS 10000 (fun j=>10000+j) (iL [(9,yw OUT.length),(10,iV [])] [9,20012])) _ rfl (by decide) (fun _=>rfl) (Nat.zero_le _) (sR rfl) (.inl rfl) ?_ ?_
    ·refine jX.Xj 20000 [(9,yw OUT.length),(10,iV [])] [9,20012] ?_ rfl rfl (Nat.zero_le _) (by rw[gY]; omega) (by decide) jv ?_
     (repeat' (first|refine bQ.lo rfl ?_|refine bQ.hi rfl ?_|exact bQ.nil))
     ·exact kM rfl nofun rfl (dw (by omega)) ⟨_,rfl,rfl,rfl,jY⟩ (kM rfl nofun rfl rfl ⟨_,rfl,rfl,rfl,.refl _⟩ trivial)
    refine⟨(sR rfl),rfl,?_⟩;rintro i hi;have hfl:=zH (resp:=resp) (t:=t) (i:=i);refine⟨fun h3=>?_,fun h3=>?_⟩
    ·have hi':i<resp.length:=by simpa using h3
     refine .mk (by simp only[Rw.rng] at *; omega) ?_;refine⟨fun h4=>?_,fun h4=>?_⟩
     ·replace h4:(resp.getD i 0==(t:Int))=true:=h4;have hf:lY resp t (i+1)=lY resp t i++[(i:Int)]:=by rw[xW,h4]; rfl
      repeat(refine VC.mk (by first|(simp only[jl,jF,Rw.len,List.length_cons,List.length_nil]; omega)|(simp only[okI] at *; omega)) ?_)
      refine qL.Gx 20000 (i+1) (fR OUT) [(9,yw OUT.length),(10,iV (lY resp t (i+1)))] [9,20012] rfl hi' (by omega) ?_ rfl rfl (Nat.zero_le _) (by rw[gY]; omega) (by decide) jv (sR rfl) (sR rfl) ?_
      (repeat' (first|refine bQ.lo rfl ?_|refine bQ.hi rfl ?_|exact bQ.nil))
      ·exact kM rfl nofun rfl (dw (by omega)) ⟨_,rfl,rfl,rfl,jY⟩ (kM rfl nofun rfl rfl ⟨_,rfl,rfl,rfl,by rw[hf,OV.dV rfl]; exact .refl _⟩ trivial)
     ·replace h4:(resp.getD i 0==(t:Int))=false:=h4;have hf:lY resp t (i+1)=lY resp t i:=by rw[xW,h4]; rfl
      refine .mk (by simp only[okI] at *; omega) ?_;refine qL.Gx 20000 (i+1) (fR OUT) [(9,yw OUT.length),(10,iV (lY resp t (i+1)))] [9,10] rfl hi' (by omega) ?_ rfl rfl (Nat.zero_le _) (by rw[gY]; omega) (by decide) jv (sR rfl) (sR rfl) ?_
      (repeat' (first|refine bQ.lo rfl ?_|refine bQ.hi rfl ?_|exact bQ.nil))
      ·exact kM rfl nofun rfl (dw (by omega)) ⟨_,rfl,rfl,rfl,jY⟩ (kM rfl nofun rfl rfl ⟨_,rfl,rfl,rfl,by rw[hf,OV.dV rfl]; exact .refl _⟩ trivial)
    ·have hi':i=resp.length:=by have:=of_decide_eq_false h3; omega
     subst hi';have hFr:lY resp t resp.length=gZ resp t:=rfl;rw[hFr] at hfl ⊢;have hrg: ∀ x∈gZ resp t,0<=x/\x<resp.length:=fun x hx=>OO x (hFr▸hx)
     have hm:=jC h0 t;have hm0:need.getD t 0≠0:=by simpa using h2
     generalize hX:gZ resp t=XS at hfl hrg;obtain⟨m,hm'⟩: ∃ m:Nat,need.getD t 0=(m:Int):=⟨(need.getD t 0).toNat,by omega⟩
     have hmT:(need.getD t 0).toNat=m:=by omega
     have htl:=ad4 (resp:=resp) (out:=OUT) hm0;rw[hX,hmT,<- hnx] at htl;conv=>whnf
     rw[show need.getD ((t:Int)).toNat 0=(m:Int) from hm'];refine ah.pure (S.ng XS.length m (by omega) (by omega)) IL ?_;by_cases hd:(kL XS.length m).length<=100
     ·rw[zG hd];have hmul:OUT.length*(kL XS.length m).length<=100*100:=Nat.mul_le_mul hL hd;repeat(refine VC.mk (by first|(intro _; refine⟨rfl,rfl,?_⟩; show okI (((rO 10000 OUT.length).length:Int)*((kL XS.length m).length:Int)); rw[o9,<- Int.natCast_mul]; simp only[okI]; omega)|exact fun h=>h|(intro h; rw[h]; rfl)) ?_)
      refine⟨fun h4=>?_,fun h4=>?_⟩
      ·have hf:100<OUT.length*(kL XS.length m).length:=by
        replace h4:decide (100<((rO 10000 OUT.length).length:Int)*((kL XS.length m).length:Int))=true:=h4;have:=of_decide_eq_true h4;rw[o9,<- Int.natCast_mul] at this;omega
       have hno:=hbig (t+1) ht' (by rw[htl]; exact hf);rw[hno,hs];exact⟨nofun,fun _=>ak.TG⟩
      ·have hf:OUT.length*(kL XS.length m).length<=100:=by
        replace h4:decide (100<((rO 10000 OUT.length).length:Int)*((kL XS.length m).length:Int))=false:=h4;have:=of_decide_eq_false h4;rw[o9,<- Int.natCast_mul] at this;omega
       have hsl: ∀ x∈kL XS.length m,x.length=XS.length/\(x.sum=m/\ ∀ y∈x,0<=y):=fun x hx=>⟨GK hx,Qk hx⟩
       have hfin:(OUT.flatMap fun c=>(kL XS.length m).map fun x=>og c XS x)=lq resp need (nM need) (t+1):=by
        rw[hnx];unfold yu;rw[h2,hX,hmT];show _=OUT.flatMap _
        congr 1
        funext c;rw[vV]
       generalize hS:kL XS.length m=SH at hf hsl hd hfin;refine aA.nil 16 24 0 (by rfl) rfl rfl rfl ?_;refine aA.fam 20000 [85,86,14,11,46,44,45,0] (fun i:Nat=>[(87,.int i),(16,.own 11)]) (fun i=>yt (Jp OUT XS (Ep OUT SH XS i 0).length)++iG 10000 (fR (Ep OUT SH XS i 0))) (fun i=>i<=OUT.length) (fun i=>OUT.length-i) 0 (lS 10000 (fun j=>10000+j) (iL (Jp OUT XS 0) [9,10,20024])) [(9,some (.row 24 0 (.bH OUT) [])),(10,some (iV XS)),(20024,some (.row 24 0 .nil []))] rfl (by decide) (fun _=>rfl) (Nat.zero_le _) (sR rfl) (.inr ⟨fun c=>10000<=c/\c<20000,Zb (R:=OUT) 20000 rfl (show ¬ (10000<=9/\9<20000) by omega) (fun j hj=>show 10000<=10000+j/\10000+j<20000 by omega) ?_ (by omega) (DV rfl (show ¬ (10000<=10/\10<20000) by omega) (DV rfl (show ¬ (10000<=20024/\20024<20000) by omega) trivial))⟩) ?_ ?_
       (repeat' (first|refine bQ.lo rfl ?_|refine bQ.hi rfl ?_|exact bQ.nil))
       ·refine jX.fam (g:=fun j=>10000+j) (Jp OUT XS 0) [9,10,20024] ?_ rfl (Nat.zero_le _) (show 10000+0<=20000 by decide) (fun j o q=>by cases q) (fun j _ o _ q=>by cases q);exact kM rfl nofun rfl rfl ⟨_,rfl,rfl,rfl,by rw[OV.dV rfl]; exact .refl _⟩ (kM rfl nofun rfl rfl ⟨_,rfl,rfl,rfl,by rw[OV.dV rfl]; exact .refl _⟩ (kM rfl nofun rfl rfl ⟨_,rfl,rfl,rfl,.refl _⟩ trivial))
       refine⟨(sR rfl),rfl,?_⟩;clear hi;rintro i hi;have hN0:=Qo (xs:=XS) hi (Nat.zero_le SH.length);have afZ: ∀ i j,i<OUT.length->j<=SH.length->i*SH.length+j<=100:=fun i j h1 h2=>by
        have:=Nat.mul_le_mul_right SH.length h1;rw[Nat.succ_mul] at this;omega
       have hN0':i*SH.length<=100:=Nat.le_trans (Nat.mul_le_mul_right _ hi) hf;refine⟨fun h5=>?_,fun h5=>?_⟩
       ·have hi':i<OUT.length:=by simpa using h5
        have hmem:OUT.getD ((i:Int)).toNat []∈OUT:=by show OUT.getD i []∈OUT; rw[getD_some hi']; exact List.getElem_mem hi'
        have hb:=hlen _ hmem;have hbb:=aay _ hmem;repeat(refine VC.mk (by simp only[Rw.rng] at *; omega) ?_)
        refine aA.fam 20000 [91,92,18,11,87,85,86,14,46,44,45,0] (fun j:Nat=>[(93,.int j),(16,.own 11)]) (fun j=>yt (Jp OUT XS (Ep OUT SH XS i j).length)++iG 10000 (fR (Ep OUT SH XS i j))) (fun j=>j<=SH.length) (fun j=>SH.length-j) 0 (lS 10000 (fun j=>10000+j) (iL (Jp OUT XS (Ep OUT SH XS i 0).length) [9,10,11])) _ rfl (by decide) (fun _=>rfl) (Nat.zero_le _) (sR rfl) (.inl rfl) ?_ ?_
        ·refine jX.Xj 20000 (Jp OUT XS (Ep OUT SH XS i 0).length) [9,10,11] ?_ rfl rfl (Nat.zero_le _) (by rw[gY]; omega) (by decide) jv ?_
         (repeat' (first|refine bQ.lo rfl ?_|refine bQ.hi rfl ?_|exact bQ.nil))
         ·exact kM rfl nofun rfl rfl ⟨_,rfl,rfl,rfl,by rw[OV.dV rfl]; exact .refl _⟩ (kM rfl nofun rfl rfl ⟨_,rfl,rfl,rfl,by rw[OV.dV rfl]; exact .refl _⟩ (kM rfl nofun rfl (dw (by omega)) ⟨_,rfl,rfl,rfl,jY⟩ trivial))
        refine⟨(sR rfl),rfl,?_⟩;rintro j hj;have hNj:=Qo (xs:=XS) hi hj;have ah3:=afZ i j hi' hj;refine⟨fun h6=>?_,fun h6=>?_⟩
        ·have hj':j<SH.length:=by simpa using h6
         have hNs:Ep OUT SH XS i (j+1)=Ep OUT SH XS i j++[og (OUT.getD ((i:Int)).toNat []) XS (SH.getD ((j:Int)).toNat [])]:=abN hj';have hN1:=Qo (xs:=XS) hi hj';rw[hNs] at hN1;have ah4:=afZ i (j+1) hi' hj';obtain⟨hs1,hs2,hs3⟩:=hsl (SH.getD ((j:Int)).toNat []) (by show SH.getD j []∈SH; rw[getD_some hj']; exact List.getElem_mem hj');have hs4: ∀ k∈SH.getD ((j:Int)).toNat [],0<=k/\k<=1048576:=fun k hk=>⟨hs3 k hk,by have:=Xt hs3 hk; rw[hs2] at this; omega⟩
         repeat(refine VC.mk (by first|(simp only[jl,jF,Rw.len]; omega)|(simp only[Rw.rng] at *; omega)) ?_)
         generalize hbase:OUT.getD ((i:Int)).toNat []=base at hb hbb hNs hN1 ⊢;generalize ah5:SH.getD ((j:Int)).toNat []=shr at hs1 hs2 hs3 hs4 hNs hN1 ⊢;refine aA.fam 20000 [99,100,11,16,93,91,92,18,87,85,86,14,46,44,45,0] (fun x:Nat=>[(101,.int x),(21,.own 12)]) (fun x=>yt (Jp OUT XS (Ep OUT SH XS i j).length++[(12,iV (IQ base XS shr x))])++iG 10000 (fR (Ep OUT SH XS i j))) (fun x=>x<=shr.length) (fun x=>shr.length-x) 0 (lS 10000 (fun j=>10000+j) (iL (Jp OUT XS (Ep OUT SH XS i j).length++[(12,iV (IQ base XS shr 0))]) [9,10,11,20005])) _ rfl (by decide) (fun _=>rfl) (Nat.zero_le _) (sR rfl) (.inl rfl) ?_ ?_
         ·refine jX.Xj 20000 (Jp OUT XS (Ep OUT SH XS i j).length++[(12,iV (IQ base XS shr 0))]) [9,10,11,20005] ?_ rfl rfl (Nat.zero_le _) (by rw[gY]; omega) (by decide) jv ?_
          (repeat' (first|refine bQ.lo rfl ?_|refine bQ.hi rfl ?_|exact bQ.nil))
          ·exact kM rfl nofun rfl rfl ⟨_,rfl,rfl,rfl,by rw[OV.dV rfl]; exact .refl _⟩ (kM rfl nofun rfl rfl ⟨_,rfl,rfl,rfl,by rw[OV.dV rfl]; exact .refl _⟩ (kM rfl nofun rfl (dw (by omega)) ⟨_,rfl,rfl,rfl,jY⟩ (kM rfl nofun rfl rfl ⟨_,rfl,rfl,rfl,by rw[OV.dV rfl]; exact .refl _⟩ trivial)))
         refine⟨(sR rfl),rfl,?_⟩;rintro x hx;have hpl:=@abM base XS shr x;have hpb: ∀ k,0<=(IQ base XS shr x).getD k 0/\(IQ base XS shr x).getD k 0<=50000000:=fun k=>by
          have h1:=TK (xs:=XS.take x) (ks:=shr.take x) (M:=1048576) hbb (fun k hk=>hs4 k (List.mem_of_mem_take hk)) (by decide) k;have h2:((XS.take x).length:Int)*1048576<=6*1048576:=Int.mul_le_mul_of_nonneg_right (by rw[List.length_take]; omega) (by decide);have h3:(t:Int)*6291456<=6*6291456:=Int.mul_le_mul_of_nonneg_right (by omega) (by decide);unfold IQ;omega
         refine⟨fun h7=>?_,fun h7=>?_⟩
         ·have hx':x<shr.length:=by simpa using h7
          have ahQ:=Zc (c:=base) (xs:=XS) (ks:=shr) (i:=x) (by omega) hx';have hxr:=hrg (XS.getD x 0) (by rw[getD_some (by omega)]; exact List.getElem_mem _);have hxk:=hs4 (shr.getD x 0) (by rw[getD_some hx']; exact List.getElem_mem _);have hpx:=hpb (XS.getD ((x:Int)).toNat 0).toNat;replace hxr:0<=XS.getD ((x:Int)).toNat 0/\XS.getD ((x:Int)).toNat 0<resp.length:=hxr;replace hxk:0<=shr.getD ((x:Int)).toNat 0/\shr.getD ((x:Int)).toNat 0<=1048576:=hxk;repeat(refine VC.mk (by first|(simp only[Rw.rng]; omega)|(simp only[okI]; omega)) ?_)
          refine qL.Gx 20000 (x+1) (fR (Ep OUT SH XS i j)) (Jp OUT XS (Ep OUT SH XS i j).length++[(12,iV (IQ base XS shr (x+1)))]) [9,10,11,12] rfl hx' (by omega) ?_ rfl rfl (Nat.zero_le _) (by rw[gY]; omega) (by decide) jv (sR rfl) (sR rfl) ?_
          (repeat' (first|refine bQ.lo rfl ?_|refine bQ.hi rfl ?_|exact bQ.nil))
          ·exact kM rfl nofun rfl rfl ⟨_,rfl,rfl,rfl,by rw[OV.dV rfl]; exact .refl _⟩ (kM rfl nofun rfl rfl ⟨_,rfl,rfl,rfl,by rw[OV.dV rfl]; exact .refl _⟩ (kM rfl nofun rfl (dw (by omega)) ⟨_,rfl,rfl,rfl,jY⟩ (kM rfl nofun rfl rfl ⟨_,rfl,rfl,rfl,by rw[ahQ,OV.dV rfl]; exact .refl _⟩ trivial)))
         ·have hx':x=shr.length:=by have:=of_decide_eq_false h7; omega
          subst hx';rw[abL hs1.symm] at hpl ⊢;repeat(refine VC.mk (by first|(show((rO 10000 (Ep OUT SH XS i j).length).length+(0+1))*24<=140737488355328/\(rO 10000 (Ep OUT SH XS i j).length).length+(0+1)<=1152921504606846976; rw[o9]; omega)|(simp only[okI] at *; omega)) ?_)
          refine qL.VI 20000 (j+1) (Ep OUT SH XS i j).length 12 (fR (Ep OUT SH XS i j)) (fR (Ep OUT SH XS i j++[og base XS shr])) (Jp OUT XS ((Ep OUT SH XS i j).length+1)) [9,10,20004] (by rw[hNs,List.length_append]; rfl) hj' (by omega) ?_ rfl rfl rfl (Nat.zero_le _) (by rw[gY]; omega) (by rw[gY]; omega) (by decide) jv ?_ (VR rfl) (sR rfl) (sR rfl) ?_
          (repeat' (first|refine bQ.lo rfl ?_|refine bQ.hi rfl ?_|exact bQ.nil))
          ·intro o ho;rw[Ql rfl] at ho;cases ho;exact⟨_,rfl,rfl⟩
          ·exact kM rfl nofun rfl rfl ⟨_,rfl,rfl,rfl,by rw[OV.dV rfl]; exact .refl _⟩ (kM rfl nofun rfl rfl ⟨_,rfl,rfl,rfl,by rw[OV.dV rfl]; exact .refl _⟩ (kM rfl nofun rfl (dw (by omega)) ⟨_,rfl,rfl,rfl,IE⟩ trivial))
        ·have hj':j=SH.length:=by have:=of_decide_eq_false h6; omega
         subst hj';have hst:=abO (S:=SH) (xs:=XS) hi';refine .mk (by simp only[okI] at *; omega) ?_;refine qL.Gx 20000 (i+1) (fR (Ep OUT SH XS i SH.length)) (Jp OUT XS (Ep OUT SH XS i SH.length).length) [9,10,11] (by rw[hst]) hi' (by omega) ?_ rfl rfl (Nat.zero_le _) (by rw[gY]; omega) (by decide) jv (sR rfl) (sR rfl) ?_
         (repeat' (first|refine bQ.lo rfl ?_|refine bQ.hi rfl ?_|exact bQ.nil))
         ·exact kM rfl nofun rfl rfl ⟨_,rfl,rfl,rfl,by rw[OV.dV rfl]; exact .refl _⟩ (kM rfl nofun rfl rfl ⟨_,rfl,rfl,rfl,by rw[OV.dV rfl]; exact .refl _⟩ (kM rfl nofun rfl (dw (by omega)) ⟨_,rfl,rfl,rfl,jY⟩ trivial))
       ·have hi':i=OUT.length:=by have:=of_decide_eq_false h5; rw[o9] at this; omega
        subst hi';rw[ad9,hfin] at hN0 ⊢;refine .mk (by simp only[okI] at *; omega) ?_;refine qL.Gx 20000 (t+1) (fR (lq resp need (nM need) (t+1))) [(9,yw (lq resp need (nM need) (t+1)).length)] [11] rfl ⟨ht',by omega⟩ (by omega) ?_ rfl rfl (Nat.zero_le _) (by rw[gY]; omega) (by decide) jv (sR rfl) (sR rfl) ?_
        (repeat' (first|refine bQ.lo rfl ?_|refine bQ.hi rfl ?_|exact bQ.nil))
        ·exact kM rfl nofun rfl (dw (by omega)) ⟨_,rfl,rfl,rfl,jY⟩ trivial
     ·have hnone:divO XS.length m=none:=by unfold divO; rw[if_neg hd]
      rw[DU hnone]
      have hno:=hbig (t+1) ht' (by
       rw[htl]
       have:0<OUT.length:=List.length_pos_iff.2 hne
       exact Nat.lt_of_lt_of_le (by omega:100<(kL XS.length m).length) (Nat.le_mul_of_pos_left _ this))
      rw[hno,hs];repeat(refine VC.mk (by first|exact id|(intro h; rw[h]; rfl)|(intro h; simp_all; done)) ?_)
      refine Fork.mk (fun _=>?_) (fun q=>absurd (q.symm.trans (rfl)) Bool.false_ne_true);exact⟨nofun,fun _=>ak.TG⟩
  ·have ht':t=need.length:=by have:=of_decide_eq_false h1; omega
   subst ht';have hok:AX resp need=true:=by unfold AX; rw[hs,hO,decide_eq_true hL]; rfl
   rw[hok,hO];refine⟨fun _=>Qj.fam 20000 rfl (by decide) ?_ (by omega),nofun⟩
   (repeat' (first|refine bQ.lo rfl ?_|refine bQ.hi rfl ?_|exact bQ.nil))
theorem Ou.fR(C k:Nat){j:Nat}{R:List (List Int)}{h:Hz}{K:Nat->Rw->Prop}(e:h.drop k=iG 10000 (fR R))(ho:CS 10000 C (h.take k)=true)(hC:10000+R.length<=C)(hj:j<R.length)(hK:K 0 (.ints (R.getD j []))):Ou h (10000+j) K :=
 Ou.fam C (show Ak (h.take k) _ h from by rw[Ak,<- e,List.take_append_drop]) ho (by rw[gY]; exact hC) (LZ hj) hK
theorem af0{R:List (List Int)}{j:Nat}{r:List Int}:(fR R).set j (some (iV r))=fR (R.set j r):=(List.map_set ..).symm
theorem Nq.fR(C k:Nat){j x:Nat}{R:List (List Int)}{v:V}{h:Hz}{K:Hz->Prop}(r':List Int)(e:h.drop k=iG 10000 (fR R))(ho:CS 10000 C (h.take k)=true)(hC:10000+R.length<=C)(hj:j<R.length)(hr:x<(R.getD j []).length)(hs:(Rw.ints (R.getD j [])).set x v=some (.ints r'))
  (hK:K (h.take k++iG 10000 (fR (R.set j r')))):Nq h (10000+j) x 0 v K :=
 Nq.fam C (show Ak (h.take k) _ h from by rw[Ak,<- e,List.take_append_drop]) ho (by rw[gY]; exact hC) (LZ hj) hs (by show 0<=(x:Int)/\(x:Int)<_; omega) (by rw[af0]; exact hK)
theorem Xu{B k:Nat}{f:Nat->Nat}:dU (T.bJ (lS 10000 (fun j=>B+j) f) (yw k).au.l) (CU 24 B k).au.l:=by
 refine dU.of_eq ?_;show T.bJ _ (V.aT (rO 10000 k))=V.aT (rO B k);rw[lU,lU,zC,List.map_map];refine List.map_congr_left fun j _=>?_
 show T.own (lS 10000 (fun j=>B+j) f (10000+j))=T.own (B+j);rw[sS]
theorem Xv{n j:Nat}{x:Option OV}{L:List (Option OV)}{h:Hz}(hj:j<L.length):Hz.get (n+1+j) ((n,x)::(iG (n+1) L++h))=(L[j]?).join:=by
 simp only[Hz.get];have hne:Nat.beq n (n+1+j)=false:=by
  cases e:Nat.beq n (n+1+j) with
  |false=>rfl
  |true=>have:=fC e; omega
 rw[hne,cond_false,VK hj]
theorem abP{a x y:Nat}(h1:a≠x)(h2:a≠y):oO a [x,y]=true:=by
 have e: ∀ z,a≠z->Nat.beq a z=false:=fun z h=>by
  cases e:Nat.beq a z with
  |false=>rfl
  |true=>exact absurd (fC e) h
 simp only[oO,e x h1,e y h2]; rfl
def yx(R:List (List Int))(f:Int)(i:Nat):List (List Int):=(R.take i).map (fun l=>aS l f 1)++R.drop i
theorem uU{R:List (List Int)}{f:Int}{i:Nat}(h:i<=R.length):(yx R f i).length=R.length:=by
 unfold yx;rw[List.length_append,List.length_map,List.length_take,List.length_drop]; omega
theorem GR{R:List (List Int)}{f:Int}{i:Nat}(h:i<R.length):(yx R f i).getD i []=R.getD i []:=by
 unfold yx;rw[List.getD_eq_getElem?_getD,List.getElem?_append_right (by rw[List.length_map,List.length_take]; omega),List.length_map,List.length_take,Nat.min_eq_left (by omega),Nat.sub_self,List.getElem?_drop,Nat.add_zero,<- List.getD_eq_getElem?_getD]
theorem GU{R:List (List Int)}{f:Int}{i:Nat}(h:i<R.length):yx R f (i+1)=(yx R f i).set i (aS (R.getD i []) f 1):=by
 unfold yx;rw[List.take_succ_eq_append_getElem h,List.map_append,List.set_append_right _ _ (by rw[List.length_map,List.length_take]; omega),List.length_map,List.length_take,Nat.min_eq_left (by omega),Nat.sub_self,List.drop_eq_getElem_cons h,List.set_cons_zero,getD_some h,List.append_assoc]; rfl
theorem GV{R:List (List Int)}{f:Int}:yx R f R.length=R.map fun l=>aS l f 1:=by
 unfold yx;rw[List.take_length,List.drop_length,List.append_nil]
theorem wJ{R:List (List Int)}{f:Int}:yx R f 0=R:=rfl
theorem TM{n:Nat}{x:Option OV}{L:List (Option OV)}{i:Nat}{o:OV}{h:Hz}(hi:i<n)(e:h.get i=some o:=by rfl):Hz.get i ((n,x)::(iG (n+1) L++h))=some o:=by
 simp only[Hz.get];have hne:Nat.beq n i=false:=by
  cases e:Nat.beq n i with
  |false=>rfl
  |true=>have:=fC e; omega
 rw[hne,cond_false,Qi (.inl (by omega)),e]
def L9(r:Rule)(c:List Int):V:=bif decide ((tK r c).length<=100) then .eX [.row 0 false (.bH (tK r c)),.bool true] else .eX [.row 0 false (.bH []),.bool false]
theorem OT{r:Rule}{c:List Int}:(L9 r c).free=true:=by unfold L9; cases decide ((tK r c).length<=100)<;>rfl
theorem Ap{r:Rule}{c:List Int}:zF r c=(bif r.kind==1 then(bif qR r (cu c r.to) then [cu c r.to] else r.ex.map fun x=>aS (cu c r.to) x 1) else
  bif r.kind==2 then [aS (cu (cu c r.to) r.zQ) r.je 1] else
  bif r.kind==3 then(bif lX r.response (cu c r.to) then [] else lq r.response (cu c r.to) (nM (cu c r.to)) (cu c r.to).length) else [cu c r.to]):=rfl
theorem xX{c:List Int}{i:Int}(h:Nw c):Nw (cu c i):=by
 intro x hx;rcases List.mem_or_eq_of_mem_set hx with h1|h1
 ·exact h x h1
 ·have:=jC h i.toNat; omega
theorem Mc{r:Rule}{c:List Int}(hp:oN c.length r)(h0:Nw c)(hl:c.length<=6): ∀ l∈zF r c,l.length=c.length/\ ∀ j,0<=l.getD j 0/\l.getD j 0<=50000000:=by
 have hd:Nw (cu c r.to):=xX h0;have hone: ∀ (d:List Int) (x:Int),Nw d-> ∀ j,0<=(aS d x 1).getD j 0/\(aS d x 1).getD j 0<=50000000:=fun d x h j=>by
  have:=GN (B:=1048576) (M:=1) (i:=x) (d:=1) (jC h) (by omega) j;omega
 intro l hl';rw[Ap] at hl';cases h1:(r.kind==1) with
 |true =>
  rw[h1,cond_true] at hl';cases ha:qR r (cu c r.to) with
  |true =>
   rw[ha,cond_true,List.mem_singleton] at hl';subst hl';exact⟨dL,fun j=>by have:=jC hd j; omega⟩
  |false =>
   rw[ha,cond_false,List.mem_map] at hl';obtain⟨x,_,rfl⟩:=hl';exact⟨by rw[iR,dL],hone _ x hd⟩
 |false =>
  rw[h1,cond_false] at hl';cases h2:(r.kind==2) with
  |true =>
   rw[h2,cond_true,List.mem_singleton] at hl';subst hl';exact⟨by rw[iR,dL,dL],hone _ _ (xX hd)⟩
  |false =>
   rw[h2,cond_false] at hl';cases h3:(r.kind==3) with
   |true =>
    obtain⟨abQ,aha⟩:=hp.rsp (by simpa using h3);rw[h3,cond_true] at hl';cases hs:lX r.response (cu c r.to) with
    |true=>rw[hs,cond_true] at hl'; cases hl'
    |false =>
     rw[hs,cond_false] at hl';have h1:=Qp (b:=List.replicate (cu c r.to).length 0) (by simp[dL,abQ]) (by rw[dL,abQ]) (fun i=>(jC hd i).1) (Nat.le_refl _) l hl';refine⟨by rw[h1,abQ],fun j=>?_⟩;have:=Qq hd (by omega) _ l hl' j;rw[dL] at this
     have:(c.length:Int)*6291456<=6*6291456:=Int.mul_le_mul_of_nonneg_right (by omega) (by decide)
     omega
   |false =>
    rw[h3,cond_false,List.mem_singleton] at hl';subst hl';exact⟨dL,fun j=>by have:=jC hd j; omega⟩
abbrev vF(r:Rule):OV:=.box 86 19 (.dat (.rule r))
set_option maxHeartbeats 4000000 in
theorem S.kC(r:Rule)(c:List Int)(f:Bool)(hr:vg r)(hp:oN c.length r)(h0:Nw c)(hl0:0<c.length)(hl:c.length<=6)(hx:r.ex.length<=100)(hk:r.kind=1\/r.kind=2\/r.kind=3):aj Tryz.prog 85 [.dat (.rule r),.row 0 f (.ints c)] (L9 r c):=by
 have hfree:=@OT r c;have hsm:=Mc hp h0 hl;have hB:tK r c=(zF r c).map fun l=>aS l r.fr 1:=rfl
 obtain⟨q1,q2⟩:=hp.dst;obtain⟨q3,q4⟩:=hp.agn;obtain⟨q5,q6⟩:=hp.agm;obtain⟨q7,q8⟩:=hp.src;have hc0:=jC h0;generalize hv:L9 r c=res;rw[hv] at hfree;refine aj.ofF Bd.kC rfl (by simp) rfl hfree ?_;have hdt:=hc0 r.to.toNat;repeat(refine VC.mk (by first|(simp only[Rw.rng]; omega)|(simp only[okI]; omega)|(simp only[jl,jF,Rw.len]; omega)) ?_)
 refine⟨fun h1=>?_,fun h1=>?_⟩
 ·have hk1:r.kind=1:=by simpa using h1
  conv=>whnf
  cases ha:qR r (cu c r.to) with
  |true =>
   obtain⟨RS,Df⟩: ∃ RS,RS=[cu c r.to]:=⟨_,rfl⟩
   have hlen:RS.length=1:=by rw[Df]; rfl
   have hcR:zF r c=RS:=by rw[Df,Ap,show(r.kind==1)=true by rw[hk1]; rfl,ha]; rfl
   have Md:RS.length<=100:=by omega
   have hRS: ∀ l∈RS,l.length=c.length/\ ∀ j,0<=l.getD j 0/\l.getD j 0<=50000000:=fun l hl'=>hsm l (by rw[hcR]; exact hl')
   have hres:V.eX [.row 0 false (.bH (RS.map fun l=>aS l r.fr 1)),.bool true]=res:=by
    rw[<- hv]; unfold L9; rw[hB,hcR,decide_eq_true (by rw[List.length_map]; exact Md)]; rfl
   refine ah.VE [4] (S.Qm r (cu c r.to) hr (by rw[dL]; omega) ha) rfl rfl rfl rfl rfl ⟨⟨_,rfl,uT rfl _⟩,trivial⟩ rfl (by decide) ?_;rintro t hp' ⟨rfl,rfl⟩;refine⟨.own 27,[some (iV (cu c r.to)),some (.gen 24 0 [.inn 4])],rfl,rfl,⟨congrArg some (uT rfl _).symm,rfl,trivial⟩,?_⟩;refine aA.fam 20000 [65,2] (fun i:Nat=>[(66,.int i),(64,.own 9),(7,.own 9)]) (fun i=>yt [(0,vF r),(9,yw RS.length)]++iG 10000 (fR (yx RS r.fr i))) (fun i=>i<=RS.length) (fun i=>RS.length-i) 0 (lS 10000 (fun _=>4) (iL [(0,vF r),(9,yw RS.length)] [0,27])) _ rfl (by decide) (fun _=>rfl) (Nat.zero_le _) (sR rfl) (.inl rfl) ?_ ?_
   ·refine jX.fam (g:=fun _=>4) [(0,vF r),(9,yw RS.length)] [0,27] ?_ rfl (Nat.zero_le _) (by rw[gY,uU (Nat.zero_le _)]; omega) (fun j o q=>?_) (fun j j' o o' q q' _=>?_)
    ·exact kM rfl nofun rfl rfl ⟨_,rfl,rfl,rfl,by rw[OV.dV rfl]; exact .refl _⟩ (kM rfl nofun rfl (dw (by omega)) ⟨_,rfl,rfl,rfl,by rw[hlen]; exact .refl _⟩ trivial)
    ·rw[wJ,Df] at q;match j,q with
     |0,q=>cases q; exact⟨rfl,rfl,⟨_,rfl,rfl⟩,rfl⟩
     |j+1,q=>cases q
    ·rw[wJ,Df] at q q';match j,j',q,q' with
     |0,0,_,_=>rfl
     |j+1,_,q,_=>cases q
     |0,j+1,_,q=>cases q
   refine⟨(sR rfl),rfl,?_⟩;rintro i hi;have hpl:=uU (f:=r.fr) hi;refine⟨fun h5=>?_,fun h5=>?_⟩
   ·have hi':i<RS.length:=by
     have:=of_decide_eq_true h5
     (try simp only[List.length_cons,List.length_nil] at this)
     first|omega|(replace h5:decide ((i:Int)<1)=true:=h5; have:=of_decide_eq_true h5; omega)
    have hg:=GR (f:=r.fr) hi';obtain⟨hR1,hR2⟩:=hRS (RS.getD i []) (by rw[getD_some hi']; exact List.getElem_mem hi');rw[<- hg] at hR1 hR2;have ZJ:=hR2 r.fr.toNat;refine .mk (by show 0<=(i:Int)/\(i:Int)<((rO 10000 RS.length).length:Int); rw[o9]; omega) ?_;refine AtZ.inn hi' ?_;refine Ou.fR 20000 2 rfl rfl (by omega) (by rw[hpl]; exact hi') ?_;refine .mk (by simp only[Rw.rng] at *; first|omega|(simp_all; done)|(simp_all; omega)) ?_;refine Ou.fR 20000 2 rfl rfl (by omega) (by rw[hpl]; exact hi') ?_;repeat(refine VC.mk (by simp only[okI,Rw.rng] at *; first|omega|(simp_all; done)|(simp_all; omega)) ?_)
    refine Ou.fR 20000 2 rfl rfl (by omega) (by rw[hpl]; exact hi') ?_;refine .mk (by simp only[Rw.rng] at *; first|omega|(simp_all; done)|(simp_all; omega)) ?_;refine Nq.fR 20000 2 (aS (RS.getD i []) r.fr 1) rfl rfl (by omega) (by rw[hpl]; exact hi') (by show r.fr.toNat<((yx RS r.fr i).getD i []).length; omega) (by show some _=some _; rw[<- hg]; rfl) ?_;refine .mk (by simp only[okI] at *; first|omega|(simp_all; done)|(simp_all; omega)) ?_;refine qL.Gx 20000 (i+1) (fR ((yx RS r.fr i).set i (aS (RS.getD i []) r.fr 1))) [(0,vF r),(9,yw RS.length)] [0,9] (by rw[GU hi']) hi' (by omega) ?_ rfl rfl (Nat.zero_le _) (by rw[gY,List.length_set,hpl]; omega) (by decide) jv (sR rfl) (sR rfl) ?_
    (repeat' (first|refine bQ.lo rfl ?_|refine bQ.hi rfl ?_|exact bQ.nil))
    ·exact kM rfl nofun rfl rfl ⟨_,rfl,rfl,rfl,by rw[OV.dV rfl]; exact .refl _⟩ (kM rfl nofun rfl (dw (by omega)) ⟨_,rfl,rfl,rfl,jY⟩ trivial)
   ·have hi':i=RS.length:=by
     have:=of_decide_eq_false h5
     (try simp only[List.length_cons,List.length_nil] at this)
     first|omega|(replace h5:decide ((i:Int)<1)=false:=h5; have:=of_decide_eq_false h5; omega)
    subst hi';rw[GV] at hpl ⊢;rw[<- hres];refine iU.YM (iU.TF 20000 (by rw[List.length_map]; rfl) (by decide) ?_ (by rw[List.length_map]; omega))
    (repeat' (first|refine bQ.lo rfl ?_|refine bQ.hi rfl ?_|exact bQ.nil))
  |false =>
   obtain⟨RS,Df⟩: ∃ RS,RS=r.ex.map fun x=>aS (cu c r.to) x 1:=⟨_,rfl⟩
   have Md:RS.length<=100:=by rw[Df,List.length_map]; exact hx
   have hcR:zF r c=RS:=by rw[Df,Ap,show(r.kind==1)=true by rw[hk1]; rfl,ha]; rfl
   have hRS: ∀ l∈RS,l.length=c.length/\ ∀ j,0<=l.getD j 0/\l.getD j 0<=50000000:=fun l hl'=>hsm l (by rw[hcR]; exact hl')
   have hres:V.eX [.row 0 false (.bH (RS.map fun l=>aS l r.fr 1)),.bool true]=res:=by
    rw[<- hv]; unfold L9; rw[hB,hcR,decide_eq_true (by rw[List.length_map]; exact Md)]; rfl
   have hW:=S.Qn r (cu c r.to) false hr (by rw[dL]; omega) (by rw[dL]; exact hp.exs) hx (xX h0) ha;rw[<- Df] at hW;refine ah.nest (fun c=>c=4) (DV (i:=0) (o:=vF r) (r:=[]) rfl (by decide) trivial) hW ⟨aF _,AL rfl rfl,trivial⟩ rfl aeU (fun o ho=>(JW o ho).1) ?_;refine aA.fam 20000 [65,2] (fun i:Nat=>[(66,.int i),(64,.own 9),(7,.own 9)]) (fun i=>yt [(0,vF r),(9,yw RS.length)]++iG 10000 (fR (yx RS r.fr i))) (fun i=>i<=RS.length) (fun i=>RS.length-i) 0 (lS 10000 (fun j=>28+j) (iL [(0,vF r),(9,yw RS.length)] [0,27])) _ rfl (by decide) (fun _=>rfl) (Nat.zero_le _) (sR rfl) (.inl rfl) ?_ ?_
   ·refine jX.fam (g:=fun j=>28+j) [(0,vF r),(9,yw RS.length)] [0,27] ?_ rfl (Nat.zero_le _) (by rw[gY,uU (Nat.zero_le _)]; omega) (fun j o q=>?_) (fun j j' o o' q q' e=>by replace e:28+j=28+j':=e; omega)
    ·refine kM rfl nofun rfl rfl ⟨_,TM (by decide),rfl,rfl,by rw[OV.dV rfl]; exact .refl _⟩ (kM rfl nofun rfl (dw (by omega)) ⟨_,rfl,rfl,rfl,by rw[List.length_map]; exact Xu⟩ trivial)
    ·rw[wJ] at q;have hj:j<(fR RS).length:=(List.getElem?_eq_some_iff.1 q).1;obtain⟨g1,g2⟩:=jv (nx:=20000) o (List.mem_of_getElem? q);exact⟨g1,g2,⟨o,by rw[TJ]; exact(Xv (n:=27) hj).trans (by rw[q]; rfl),rfl⟩,abP (by omega) (by omega)⟩
   refine⟨(sR rfl),rfl,?_⟩;rintro i hi;have hpl:=uU (f:=r.fr) hi;refine⟨fun h5=>?_,fun h5=>?_⟩
   ·have hi':i<RS.length:=by
     have:=of_decide_eq_true h5
     (try simp only[List.length_map,List.length_range,List.length_cons,List.length_nil] at this)
     first|omega|(replace h5:decide ((i:Int)<1)=true:=h5; have:=of_decide_eq_true h5; omega)
    have hg:=GR (f:=r.fr) hi';obtain⟨hR1,hR2⟩:=hRS (RS.getD i []) (by rw[getD_some hi']; exact List.getElem_mem hi');rw[<- hg] at hR1 hR2;have ZJ:=hR2 r.fr.toNat;refine .mk (by show 0<=(i:Int)/\(i:Int)<((rO 10000 RS.length).length:Int); rw[o9]; omega) ?_;refine AtZ.inn hi' ?_;refine Ou.fR 20000 2 rfl rfl (by omega) (by rw[hpl]; exact hi') ?_;refine .mk (by simp only[Rw.rng] at *; first|omega|(simp_all; done)|(simp_all; omega)) ?_;refine Ou.fR 20000 2 rfl rfl (by omega) (by rw[hpl]; exact hi') ?_;repeat(refine VC.mk (by simp only[okI,Rw.rng] at *; first|omega|(simp_all; done)|(simp_all; omega)) ?_)
    refine Ou.fR 20000 2 rfl rfl (by omega) (by rw[hpl]; exact hi') ?_;refine .mk (by simp only[Rw.rng] at *; first|omega|(simp_all; done)|(simp_all; omega)) ?_;refine Nq.fR 20000 2 (aS (RS.getD i []) r.fr 1) rfl rfl (by omega) (by rw[hpl]; exact hi') (by show r.fr.toNat<((yx RS r.fr i).getD i []).length; omega) (by show some _=some _; rw[<- hg]; rfl) ?_;refine .mk (by simp only[okI] at *; first|omega|(simp_all; done)|(simp_all; omega)) ?_;refine qL.Gx 20000 (i+1) (fR ((yx RS r.fr i).set i (aS (RS.getD i []) r.fr 1))) [(0,vF r),(9,yw RS.length)] [0,9] (by rw[GU hi']) hi' (by omega) ?_ rfl rfl (Nat.zero_le _) (by rw[gY,List.length_set,hpl]; omega) (by decide) jv (sR rfl) (sR rfl) ?_
    (repeat' (first|refine bQ.lo rfl ?_|refine bQ.hi rfl ?_|exact bQ.nil))
    ·exact kM rfl nofun rfl rfl ⟨_,rfl,rfl,rfl,by rw[OV.dV rfl]; exact .refl _⟩ (kM rfl nofun rfl (dw (by omega)) ⟨_,rfl,rfl,rfl,jY⟩ trivial)
   ·have hi':i=RS.length:=by
     have:=of_decide_eq_false h5
     (try simp only[List.length_map,List.length_range,List.length_cons,List.length_nil] at this)
     first|omega|(replace h5:decide ((i:Int)<1)=false:=h5; have:=of_decide_eq_false h5; omega)
    subst hi';rw[GV] at hpl ⊢;rw[<- hres];refine iU.YM (iU.TF 20000 (by rw[List.length_map]; rfl) (by decide) ?_ (by rw[List.length_map]; omega))
    (repeat' (first|refine bQ.lo rfl ?_|refine bQ.hi rfl ?_|exact bQ.nil))
 ·conv=>whnf
  refine⟨fun h2=>?_,fun h2=>?_⟩
  ·have hk2:r.kind=2:=by simpa using h2
   obtain⟨RS,Df⟩: ∃ RS,RS=[aS (cu (cu c r.to) r.zQ) r.je 1]:=⟨_,rfl⟩
   have hlen:RS.length=1:=by rw[Df]; rfl
   have hcR:zF r c=RS:=by rw[Df,Ap,show(r.kind==1)=false by rw[hk2]; rfl,show(r.kind==2)=true by rw[hk2]; rfl]; rfl
   have Md:RS.length<=100:=by omega
   have hRS: ∀ l∈RS,l.length=c.length/\ ∀ j,0<=l.getD j 0/\l.getD j 0<=50000000:=fun l hl'=>hsm l (by rw[hcR]; exact hl')
   have hres:V.eX [.row 0 false (.bH (RS.map fun l=>aS l r.fr 1)),.bool true]=res:=by
    rw[<- hv]; unfold L9; rw[hB,hcR,decide_eq_true (by rw[List.length_map]; exact Md)]; rfl
   have hd1:0<=(c.set r.to.toNat (max (c.getD r.to.toNat 0-1) 0)).getD r.zQ.toNat 0/\(c.set r.to.toNat (max (c.getD r.to.toNat 0-1) 0)).getD r.zQ.toNat 0<=1048576:=jC (xX h0) _;have hd2:0<=((c.set r.to.toNat (max (c.getD r.to.toNat 0-1) 0)).set r.zQ.toNat (max ((c.set r.to.toNat (max (c.getD r.to.toNat 0-1) 0)).getD r.zQ.toNat 0-1) 0)).getD r.je.toNat 0/\((c.set r.to.toNat (max (c.getD r.to.toNat 0-1) 0)).set r.zQ.toNat (max ((c.set r.to.toNat (max (c.getD r.to.toNat 0-1) 0)).getD r.zQ.toNat 0-1) 0)).getD r.je.toNat 0<=1048576:=jC (xX (xX h0)) _;repeat(refine VC.mk (by first|(simp only[Rw.rng,List.length_set]; omega)|(simp only[okI]; omega)) ?_)
   refine aA.fam 20000 [65,2] (fun i:Nat=>[(66,.int i),(64,.own 9),(7,.own 9)]) (fun i=>yt [(0,vF r),(9,yw RS.length)]++iG 10000 (fR (yx RS r.fr i))) (fun i=>i<=RS.length) (fun i=>RS.length-i) 0 (lS 10000 (fun _=>4) (iL [(0,vF r),(9,yw RS.length)] [0,19])) _ rfl (by decide) (fun _=>rfl) (Nat.zero_le _) (sR rfl) (.inl rfl) ?_ ?_
   ·refine jX.fam (g:=fun _=>4) [(0,vF r),(9,yw RS.length)] [0,19] ?_ rfl (Nat.zero_le _) (by rw[gY,uU (Nat.zero_le _)]; omega) (fun j o q=>?_) (fun j j' o o' q q' _=>?_)
    ·exact kM rfl nofun rfl rfl ⟨_,rfl,rfl,rfl,by rw[OV.dV rfl]; exact .refl _⟩ (kM rfl nofun rfl (dw (by omega)) ⟨_,rfl,rfl,rfl,by rw[hlen]; exact .refl _⟩ trivial)
    ·rw[wJ,Df] at q;match j,q with
     |0,q=>cases q; exact⟨rfl,rfl,⟨_,rfl,rfl⟩,rfl⟩
     |j+1,q=>cases q
    ·rw[wJ,Df] at q q';match j,j',q,q' with
     |0,0,_,_=>rfl
     |j+1,_,q,_=>cases q
     |0,j+1,_,q=>cases q
   refine⟨(sR rfl),rfl,?_⟩;rintro i hi;have hpl:=uU (f:=r.fr) hi;refine⟨fun h5=>?_,fun h5=>?_⟩
   ·have hi':i<RS.length:=by
     have:=of_decide_eq_true h5
     (try simp only[List.length_cons,List.length_nil] at this)
     first|omega|(replace h5:decide ((i:Int)<1)=true:=h5; have:=of_decide_eq_true h5; omega)
    have hg:=GR (f:=r.fr) hi';obtain⟨hR1,hR2⟩:=hRS (RS.getD i []) (by rw[getD_some hi']; exact List.getElem_mem hi');rw[<- hg] at hR1 hR2;have ZJ:=hR2 r.fr.toNat;refine .mk (by show 0<=(i:Int)/\(i:Int)<((rO 10000 RS.length).length:Int); rw[o9]; omega) ?_;refine AtZ.inn hi' ?_;refine Ou.fR 20000 2 rfl rfl (by omega) (by rw[hpl]; exact hi') ?_;refine .mk (by simp only[Rw.rng] at *; first|omega|(simp_all; done)|(simp_all; omega)) ?_;refine Ou.fR 20000 2 rfl rfl (by omega) (by rw[hpl]; exact hi') ?_;repeat(refine VC.mk (by simp only[okI,Rw.rng] at *; first|omega|(simp_all; done)|(simp_all; omega)) ?_)
    refine Ou.fR 20000 2 rfl rfl (by omega) (by rw[hpl]; exact hi') ?_;refine .mk (by simp only[Rw.rng] at *; first|omega|(simp_all; done)|(simp_all; omega)) ?_;refine Nq.fR 20000 2 (aS (RS.getD i []) r.fr 1) rfl rfl (by omega) (by rw[hpl]; exact hi') (by show r.fr.toNat<((yx RS r.fr i).getD i []).length; omega) (by show some _=some _; rw[<- hg]; rfl) ?_;refine .mk (by simp only[okI] at *; first|omega|(simp_all; done)|(simp_all; omega)) ?_;refine qL.Gx 20000 (i+1) (fR ((yx RS r.fr i).set i (aS (RS.getD i []) r.fr 1))) [(0,vF r),(9,yw RS.length)] [0,9] (by rw[GU hi']) hi' (by omega) ?_ rfl rfl (Nat.zero_le _) (by rw[gY,List.length_set,hpl]; omega) (by decide) jv (sR rfl) (sR rfl) ?_
    (repeat' (first|refine bQ.lo rfl ?_|refine bQ.hi rfl ?_|exact bQ.nil))
    ·exact kM rfl nofun rfl rfl ⟨_,rfl,rfl,rfl,by rw[OV.dV rfl]; exact .refl _⟩ (kM rfl nofun rfl (dw (by omega)) ⟨_,rfl,rfl,rfl,jY⟩ trivial)
   ·have hi':i=RS.length:=by
     have:=of_decide_eq_false h5
     (try simp only[List.length_cons,List.length_nil] at this)
     first|omega|(replace h5:decide ((i:Int)<1)=false:=h5; have:=of_decide_eq_false h5; omega)
    subst hi';rw[GV] at hpl ⊢;rw[<- hres];refine iU.YM (iU.TF 20000 (by rw[List.length_map]; rfl) (by decide) ?_ (by rw[List.length_map]; omega))
    (repeat' (first|refine bQ.lo rfl ?_|refine bQ.hi rfl ?_|exact bQ.nil))
  ·have hk3:r.kind=3:=by
    rcases hk with h|h|h
    ·rw[h] at h1; cases h1
    ·rw[h] at h2; cases h2
    ·exact h
   obtain⟨abQ,aha⟩:=hp.rsp hk3;have hS:=S.qM r.response (cu c r.to) false false (by rw[dL,abQ]) (by rw[dL]; exact hl0) (by rw[dL]; exact hl) (xX h0) (by rw[dL]; exact aha);refine Fork.mk (fun _=>?_) (fun q=>absurd (q.symm.trans (by rw[hk3]; rfl)) Bool.false_ne_true);conv=>whnf
   cases hso:AX r.response (cu c r.to) with
   |true =>
    have hW:=hS.1 hso;have aea:=hso;unfold AX at aea;rw[Bool.and_eq_true] at aea;have hst:lX r.response (cu c r.to)=false:=by simpa using aea.1
    obtain⟨RS,Df⟩: ∃ RS,RS=lq r.response (cu c r.to) (nM (cu c r.to)) (cu c r.to).length:=⟨_,rfl⟩
    have Md:RS.length<=100:=by rw[Df]; exact of_decide_eq_true aea.2
    have hcR:zF r c=RS:=by rw[Df,Ap,show(r.kind==1)=false by rw[hk3]; rfl,show(r.kind==2)=false by rw[hk3]; rfl,show(r.kind==3)=true by rw[hk3]; rfl,hst]; rfl
    have hRS: ∀ l∈RS,l.length=c.length/\ ∀ j,0<=l.getD j 0/\l.getD j 0<=50000000:=fun l hl'=>hsm l (by rw[hcR]; exact hl')
    have hres:V.eX [.row 0 false (.bH (RS.map fun l=>aS l r.fr 1)),.bool true]=res:=by
     rw[<- hv]; unfold L9; rw[hB,hcR,decide_eq_true (by rw[List.length_map]; exact Md)]; rfl
    rw[<- Df] at hW;refine ah.nest (fun c=>c=4) (DV (i:=0) (o:=vF r) (r:=[]) rfl (by decide) trivial) hW ⟨aF _,AL rfl rfl,trivial⟩ rfl (abI true) (fun o ho=>(JW o ho).1) ?_;refine Fork.mk (fun q=>absurd (q.symm.trans (rfl)).symm Bool.false_ne_true) (fun _=>?_);refine aA.fam 20000 [65,2] (fun i:Nat=>[(66,.int i),(64,.own 9),(7,.own 9)]) (fun i=>yt [(0,vF r),(9,yw RS.length)]++iG 10000 (fR (yx RS r.fr i))) (fun i=>i<=RS.length) (fun i=>RS.length-i) 0 (lS 10000 (fun j=>34+j) (iL [(0,vF r),(9,yw RS.length)] [0,33])) _ rfl (by decide) (fun _=>rfl) (Nat.zero_le _) (sR rfl) (.inl rfl) ?_ ?_
    ·refine jX.fam (g:=fun j=>34+j) [(0,vF r),(9,yw RS.length)] [0,33] ?_ rfl (Nat.zero_le _) (by rw[gY,uU (Nat.zero_le _)]; omega) (fun j o q=>?_) (fun j j' o o' q q' e=>by replace e:34+j=34+j':=e; omega)
     ·refine kM rfl nofun rfl rfl ⟨_,TM (by decide),rfl,rfl,by rw[OV.dV rfl]; exact .refl _⟩ (kM rfl nofun rfl (dw (by omega)) ⟨_,rfl,rfl,rfl,by rw[List.length_map]; exact Xu⟩ trivial)
     ·rw[wJ] at q;have hj:j<(fR RS).length:=(List.getElem?_eq_some_iff.1 q).1;obtain⟨g1,g2⟩:=jv (nx:=20000) o (List.mem_of_getElem? q);exact⟨g1,g2,⟨o,by rw[TJ]; exact(Xv (n:=33) hj).trans (by rw[q]; rfl),rfl⟩,abP (by omega) (by omega)⟩
    refine⟨(sR rfl),rfl,?_⟩;rintro i hi;have hpl:=uU (f:=r.fr) hi;refine⟨fun h5=>?_,fun h5=>?_⟩
    ·have hi':i<RS.length:=by
      have:=of_decide_eq_true h5
      (try simp only[List.length_map,List.length_range,List.length_cons,List.length_nil] at this)
      first|omega|(replace h5:decide ((i:Int)<1)=true:=h5; have:=of_decide_eq_true h5; omega)
     have hg:=GR (f:=r.fr) hi';obtain⟨hR1,hR2⟩:=hRS (RS.getD i []) (by rw[getD_some hi']; exact List.getElem_mem hi');rw[<- hg] at hR1 hR2;have ZJ:=hR2 r.fr.toNat;refine .mk (by show 0<=(i:Int)/\(i:Int)<((rO 10000 RS.length).length:Int); rw[o9]; omega) ?_;refine AtZ.inn hi' ?_;refine Ou.fR 20000 2 rfl rfl (by omega) (by rw[hpl]; exact hi') ?_;refine .mk (by simp only[Rw.rng] at *; first|omega|(simp_all; done)|(simp_all; omega)) ?_;refine Ou.fR 20000 2 rfl rfl (by omega) (by rw[hpl]; exact hi') ?_;repeat(refine VC.mk (by simp only[okI,Rw.rng] at *; first|omega|(simp_all; done)|(simp_all; omega)) ?_)
     refine Ou.fR 20000 2 rfl rfl (by omega) (by rw[hpl]; exact hi') ?_;refine .mk (by simp only[Rw.rng] at *; first|omega|(simp_all; done)|(simp_all; omega)) ?_;refine Nq.fR 20000 2 (aS (RS.getD i []) r.fr 1) rfl rfl (by omega) (by rw[hpl]; exact hi') (by show r.fr.toNat<((yx RS r.fr i).getD i []).length; omega) (by show some _=some _; rw[<- hg]; rfl) ?_;refine .mk (by simp only[okI] at *; first|omega|(simp_all; done)|(simp_all; omega)) ?_;refine qL.Gx 20000 (i+1) (fR ((yx RS r.fr i).set i (aS (RS.getD i []) r.fr 1))) [(0,vF r),(9,yw RS.length)] [0,9] (by rw[GU hi']) hi' (by omega) ?_ rfl rfl (Nat.zero_le _) (by rw[gY,List.length_set,hpl]; omega) (by decide) jv (sR rfl) (sR rfl) ?_
     (repeat' (first|refine bQ.lo rfl ?_|refine bQ.hi rfl ?_|exact bQ.nil))
     ·exact kM rfl nofun rfl rfl ⟨_,rfl,rfl,rfl,by rw[OV.dV rfl]; exact .refl _⟩ (kM rfl nofun rfl (dw (by omega)) ⟨_,rfl,rfl,rfl,jY⟩ trivial)
    ·have hi':i=RS.length:=by
      have:=of_decide_eq_false h5
      (try simp only[List.length_map,List.length_range,List.length_cons,List.length_nil] at this)
      first|omega|(replace h5:decide ((i:Int)<1)=false:=h5; have:=of_decide_eq_false h5; omega)
     subst hi';rw[GV] at hpl ⊢;rw[<- hres];refine iU.YM (iU.TF 20000 (by rw[List.length_map]; rfl) (by decide) ?_ (by rw[List.length_map]; omega))
     (repeat' (first|refine bQ.lo rfl ?_|refine bQ.hi rfl ?_|exact bQ.nil))
   |false =>
    refine ah.lend (hS.2 hso) ⟨aF _,AL trivial rfl,trivial⟩ rfl rfl ?_;unfold AX at hso;cases hst:lX r.response (cu c r.to) with
    |true =>
     have hcR:zF r c=[]:=by rw[Ap,show(r.kind==1)=false by rw[hk3]; rfl,show(r.kind==2)=false by rw[hk3]; rfl,show(r.kind==3)=true by rw[hk3]; rfl,hst]; rfl
     have hres:V.eX [.row 0 false (.bH []),.bool true]=res:=by
      rw[<- hv]; unfold L9; rw[hB,hcR]; rfl
     refine Fork.mk (fun q=>absurd (q.symm.trans (rfl)).symm Bool.false_ne_true) (fun _=>?_);refine aA.times 1 rfl ?_;refine Fork.mk (fun q=>absurd (q.symm.trans ((rfl:decide ((0:Int)<0)=false))).symm Bool.false_ne_true) (fun _=>?_);conv=>whnf
     rw[<- hres];exact iU.same
    |false =>
     have hbig: ¬ (lq r.response (cu c r.to) (nM (cu c r.to)) (cu c r.to).length).length<=100:=by
      rw[hst] at hso;simpa using hso
     have hcR:zF r c=lq r.response (cu c r.to) (nM (cu c r.to)) (cu c r.to).length:=by rw[Ap,show(r.kind==1)=false by rw[hk3]; rfl,show(r.kind==2)=false by rw[hk3]; rfl,show(r.kind==3)=true by rw[hk3]; rfl,hst]; rfl
     have hres:V.eX [.row 0 false (.bH []),.bool false]=res:=by
      rw[<- hv]; unfold L9; rw[hB,hcR,decide_eq_false (by rw[List.length_map]; exact hbig)]; rfl
     refine Fork.mk (fun _=>?_) (fun q=>absurd (q.symm.trans (rfl)) Bool.false_ne_true);conv=>whnf
     rw[<- hres];exact iU.TG
end Go.Proofs.YtkmldgihhaooaaaGreatDoor
