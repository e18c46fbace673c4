/-
 What a broadcast comes from: the program's lists. No condition.
-/
import Derived.Test.YtdloaandiobgdaaGreatDoorQa
namespace Go.Proofs.YtdloaandiobgdaaGreatDoor
open Go.Ab Go.Proofs
set_option maxRecDepth 100000
theorem afo{Z:Nat->Prop}{h:Hz}{i:Nat}{R:List (List Int)}(C:Nat)(hi:h.get i=some (Ap R.length))(hz: ¬ Z i)(hZ: ∀ j,j<R.length->Z (10000+j))(q:dP 10000 C (kJ 10000 (fR R)) h)(hC:10000+R.length<=C) :
  ∃ o',h.get i=some o'/\ ¬ Z i/\o'.au.ty=(OV.row 24 0 (.eF R) []).au.ty/\o'.au.k=(OV.row 24 0 (.eF R) []).au.k/\T.dY Z h.aj (OV.row 24 0 (.eF R) []).au.l o'.au.l/\(OV.row 24 0 (.eF R) []).au.l.map T.kd=o'.au.l.map T.kd/\(OV.row 24 0 (.eF R) []).au.l.map iw=o'.au.l.map iw:=by
 have e1:(OV.row 24 0 (.eF R) []).au.l=R.map Go.Ab.ints:=by simp[OV.au,Rw.aS,V.aS]
 have e2:(Ap R.length).au.l=(List.range R.length).map fun j=>T.own (10000+j):=pJ
 refine⟨_,hi,hz,rfl,rfl,?_,?_,?_⟩
 ·rw[e1,e2];refine NP (by simp) fun j t u h1 h2=>?_
  have hj:j<R.length:=by have:=(bo.1 h1).1; simpa using this
  rw[cM,bS hj] at h1;rw[cM,gF hj] at h2;cases h1; cases h2;refine⟨rfl,hZ j hj,?_,by decide,3,?_⟩
  ·rw[iO]; intro t ht; obtain⟨x,_,rfl⟩:=ax.1 ht; rfl
  ·have:=aK (q.get (by rw[jw]; exact hC) (PD hj));rw[this,getD_some hj];simp[OV.au,V.aS,Rw.aS]
 ·rw[e1,e2,cy,cy];apply eW
  ·simp
  ·intro j h1 h2;simp only[ep,Function.comp]; rfl
 ·rw[e1,e2,cy,cy];apply eW
  ·simp
  ·intro j h1 h2;simp only[ep,Function.comp]; rfl
theorem acF{Z:Nat->Prop}{h:Hz}{i:Nat}{R:List (List Int)}{r:Hz}(C:Nat)(hi:h.get i=some (Ap R.length))(hz: ¬ Z i)(hZ: ∀ j,j<R.length->Z (10000+j))(q:dP 10000 C (kJ 10000 (fR R)) h)(hC:10000+R.length<=C)(hr:QO Z h r):QO Z h ((i,some (.row 24 0 (.eF R) []))::r):=⟨afo C hi hz hZ q hC,hr⟩
theorem Gj{Z:Nat->Prop}{h:Hz}{i:Nat}{o:OV}{r:Hz}(hi:h.get i=some o)(hz: ¬ Z i)(hr:QO Z h r):QO Z h ((i,some o)::r):=⟨jR hi hz,hr⟩
def tX(resp:List Int)(t i:Nat):List Int:=((List.range i).filter fun x=>resp.getD x 0==(t:Int)).map fun x:Nat=>(x:Int)
theorem Hg{resp:List Int}{t i:Nat}:tX resp t (i+1)=bif resp.getD i 0==(t:Int) then tX resp t i++[(i:Int)] else tX resp t i:=by
 unfold tX;rw[cp,List.filter_append,cP,fq,List.filter_nil];show _++List.map _ (if(resp.getD i 0==(t:Int))=true then [i] else [])=_;cases (resp.getD i 0==(t:Int))
 ·exact cS _
 ·rfl
theorem SV{resp:List Int}{t i:Nat}:(tX resp t i).length<=i:=by
 unfold tX;rw[bL];exact di (fw ..) (by simp)
theorem acG{resp:List Int}{t i:Nat}: ∀ x∈tX resp t i,0<=x/\x<i:=by
 intro x hx;obtain⟨k,hk,rfl⟩:=ax.1 hx;have:=cD.1 (eE.1 hk).1;omega
def PG(resp need:List Int)(i:Nat):Bool:=(List.range i).any fun t=>decide (0<need.getD t 0)&& !(Gp resp t)
theorem Xb{resp need:List Int}{i:Nat}:PG resp need (i+1)=(PG resp need i||(decide (0<need.getD i 0)&& !(Gp resp i))):=by
 unfold PG;rw[cp,eT]; simp
theorem Zd{resp need:List Int}:PG resp need need.length=uF resp need:=rfl
theorem acH{resp need:List Int}{i:Nat}(hi:i<need.length)(h:(decide (0<need.getD i 0)&& !(Gp resp i))=true):uF resp need=true:=by
 unfold uF;rw[cL];exact⟨i,cD.2 hi,h⟩
def LK(c xs ks:List Int)(i:Nat):List Int:=pR c (xs.take i) (ks.take i)
theorem afp: ∀ {xs ks:List Int} {c:List Int} {x k:Int},xs.length=ks.length->pR c (xs++[x]) (ks++[k])=aV (pR c xs ks) x k:=by
 intro xs;induction xs with
 |nil=>intro ks c x k h; cases ks with|nil=>rfl|cons _ _=>cases h
 |cons a xs ih =>
  intro ks c x k h;cases ks with
  |nil=>cases h
  |cons b ks=>exact ih (Nat.succ.inj h)
theorem acI{c xs ks:List Int}{i:Nat}(h1:i<xs.length)(h2:i<ks.length):LK c xs ks (i+1)=aV (LK c xs ks i) (xs.getD i 0) (ks.getD i 0):=by
 unfold LK;rw[bw h1,bw h2,afp (by simp; omega),getD_some h1,getD_some h2]
theorem afq{c xs ks:List Int}(h:xs.length=ks.length):LK c xs ks ks.length=pR c xs ks:=by
 unfold LK;rw[<- h,bx,h,bx]
theorem afr{c xs ks:List Int}{i:Nat}:(LK c xs ks i).length=c.length:=NY
def G6(O S:List (List Int))(xs:List Int)(i j:Nat):List (List Int):=((O.take i).flatMap fun c=>S.map fun s=>pR c xs s)++(S.take j).map fun s=>pR (O.getD i []) xs s
theorem UF{O S:List (List Int)}{xs:List Int}{i j:Nat}(hi:i<=O.length)(hj:j<=S.length):(G6 O S xs i j).length=i*S.length+j:=by
 have: ∀ L:List (List Int),(L.flatMap fun c=>S.map fun s=>pR c xs s).length=L.length*S.length:=by
  intro L;induction L with
  |nil=>simp
  |cons c L ih=>rw[ef,aL,ih,bL,bX,eM,gR]
 unfold G6;rw[aL,this,bL,bR,bR,em hi,em hj]
theorem afs{O S:List (List Int)}{xs:List Int}{i j:Nat}(hj:j<S.length):G6 O S xs i (j+1)=G6 O S xs i j++[pR (O.getD i []) xs (S.getD j [])]:=by
 unfold G6;rw[bw hj,cP,<- bO,getD_some hj]; rfl
theorem aft{O S:List (List Int)}{xs:List Int}{i:Nat}(hi:i<O.length):G6 O S xs (i+1) 0=G6 O S xs i S.length:=by
 unfold G6;rw[bw hi,db,bx,getD_some hi];simp
theorem aif{O S:List (List Int)}{xs:List Int}:G6 O S xs O.length 0=O.flatMap fun c=>S.map fun s=>pR c xs s:=by
 unfold G6;rw[bx]; simp
theorem aaz{resp need b:List Int}(hb:b.length=resp.length)(_hn:need.length=resp.length)(h0: ∀ i,0<=need.getD i 0){n:Nat}(h:n<=need.length): ∀ c∈qV resp need [b] n,c.length=resp.length:=(Zz hb h h0).len
theorem ay.WZ{b:Bool}{k:Nat}{h:Hz}:ay (.dD [.row 0 false (.eF []),.bool b]) (.dD [.row k true .nil,.bool b]) h:=⟨by
  show T.sub _ _ (.dD [.sl 0 false [],(V.bool b).aI]) (.dD [.sl k true [],(V.bool b).aI]);simp only[T.sub,T.dY]
  exact⟨⟨.inl trivial,.inr trivial,fun h=>by cases h⟩,aH _,trivial⟩⟩
def oZ(need:List Int):List (List Int):=[List.replicate need.length 0]
theorem Xd{c:List Int}{i d B M:Int}(hc: ∀ j,0<=c.getD j 0/\c.getD j 0<=B)(hd:0<=d/\d<=M)(j:Nat):0<=(aV c i d).getD j 0/\(aV c i d).getD j 0<=B+M:=by
 have:=hc j;rw[gG];split<;>omega
theorem Xe: ∀ {xs ks c:List Int} {B M:Int},(∀ j,0<=c.getD j 0/\c.getD j 0<=B)->(∀ k∈ks,0<=k/\k<=M)->0<=M-> ∀ j,0<=(pR c xs ks).getD j 0/\(pR c xs ks).getD j 0<=B+xs.length*M:=by
 intro xs;induction xs with
 |nil=>intro ks c B M hc _ _ j; have:=hc j; simp only[pR,cC]; omega
 |cons x xs ih =>
  intro ks c B M hc hk hM j;have hm:(0:Int)<=(xs.length:Int)*M:=Int.mul_nonneg (by omega) hM;have e:(((x::xs).length:Nat):Int)*M=M+(xs.length:Int)*M:=by rw[bX,Int.natCast_add,Int.add_mul]; simp only[Int.natCast_one,Int.one_mul]; omega
  cases ks with
  |nil=>have:=hc j; rw[e]; simp only[pR]; omega
  |cons k ks =>
   have:=ih (c:=aV c x k) (B:=B+M) (ks:=ks) (Xd hc (hk k (by simp))) (fun y hy=>hk y (dE _ hy)) hM j;rw[e];simp only[pR];omega
theorem aaA: ∀ {l:List Int} {x:Int},(∀ y∈l,0<=y)->x∈l->x<=l.sum:=by
 intro l;induction l with
 |nil=>intro x _ h; cases h
 |cons a l ih =>
  intro x h0 hx;have ha:=h0 a (by simp);have hl: ∀ y∈l,0<=y:=fun y hy=>h0 y (dE _ hy)
  have hs:0<=l.sum:=by
   cases l with
   |nil=>simp
   |cons b l=>exact Int.le_trans (hl b (by simp)) (ih hl (by simp))
  rw[eJ];rcases bv.1 hx with rfl|hx
  ·omega
  ·have:=ih hl hx; omega
theorem aaB{resp need:List Int}(h0:X0 need)(hl:resp.length<=6): ∀ t:Nat,∀ c∈qV resp need (oZ need) t,∀ j,0<=c.getD j 0/\c.getD j 0<=(t:Int)*6291456:=by
 intro t;induction t with
 |zero =>
  intro c hc j
  have:c=List.replicate need.length 0:=by simpa [qV,oZ] using hc
  subst this;rw[ab,List.getElem?_replicate];split<;>simp
 |succ t ih =>
  intro c hc j;rw[BK] at hc;unfold Ku at hc;cases hz:(need.getD t 0==0) with
  |true =>
   rw[hz] at hc;have:=ih c hc j;omega
  |false =>
   rw[hz,ap,cX] at hc;obtain⟨b,hb,hc⟩:=hc;rw[Aw,ax] at hc;obtain⟨s,hs,rfl⟩:=hc;have hm:=uG h0 t;obtain⟨hs1,hs2⟩:=Np hs;have hx:(iQ resp t).length<=6:=di (SV (resp:=resp) (t:=t) (i:=resp.length)) hl;have:=Xe (xs:=iQ resp t) (ks:=s) (M:=1048576) (ih b hb) (fun k hk=>⟨hs2 k hk,by have:=aaA hs2 hk; rw[hs1] at this; omega⟩) (by decide) j
   have:((iQ resp t).length:Int)*1048576<=6*1048576:=fY (by omega) (by decide)
   omega
def Eh(resp need:List Int):Bool:= !(uF resp need)&&decide ((qV resp need (oZ need) need.length).length<=100)
abbrev MW(O:List (List Int))(xs:List Int)(k:Nat):List (Nat×OV):=[(9,.row 24 0 (.eF O) []),(10,lq xs),(11,Ap k)]
theorem nX{ρ:Nat->Nat}{nx pn:Nat}{h:Hz}{c n:Nat}{o:OV}{l:List (Nat×OV)}{s:List Nat}(h1:Nat.blt c nx=true)(h2:Nat.blt c pn=true->n=c)(h3:rF n s=true)(h4:o.good nx=true)(h5: ∃ o',h.get n=some o'/\o'.au.ty=o.au.ty/\o'.au.k=o.au.k/\dB (T.dF ρ o.au.l) o'.au.l)(h6:okR ρ nx pn h l s):okR ρ nx pn h ((c,o)::l) (n::s):=⟨⟨h1,h2,h3,h4,h5⟩,h6⟩
set_option maxHeartbeats 4000000 in
theorem S.oK(resp need:List Int)(f g:Bool)(hn:need.length=resp.length)(hn0:0<need.length)(hn6:need.length<=6)(h0:X0 need)(_hp:vX need.length resp) :
  (Eh resp need=true->Fz Tryz.prog 123 [.row 0 f (.ints resp),.row 0 g (.ints need)] (fun n=>.dD [.own n,.bool true]) 24 ((qV resp need (oZ need) need.length).map lq)) /\
  (Eh resp need=false->ak Tryz.prog 123 [.row 0 f (.ints resp),.row 0 g (.ints need)] (.dD [.row 0 false (.eF []),.bool (uF resp need)])):=by
 have hpos: ∀ i,0<=need.getD i 0:=fun i=>(uG h0 i).1
 refine akR.of (Eh resp need) Bd.oK (by simp) rfl (afn true) NR rfl ?_;refine aG.objs 0 [24,25,0,1] (fun i:Nat=>[(26,.int i)]) (fun _=>[]) (fun i=>i<=need.length/\PG resp need i=false) (fun i=>need.length-i) 0 [] rfl (by decide) (fun _=>rfl) ⟨ao _,rfl⟩ (sR rfl) trivial ?_;refine⟨(sR rfl),rfl,?_⟩;rintro i ⟨hi,hs⟩;refine⟨fun h1=>?_,fun h1=>?_⟩
 ·have hi':i<need.length:=by simpa using h1
  repeat(refine VC.mk (by first|exact fun h=>⟨h,h⟩|(simp only[Rw.rng] at *; omega)) ?_)
  refine ah.iJ (fun _=>S.slices_Contains_int resp i f (by omega)) rfl ?_;repeat(refine VC.mk id ?_)
  refine⟨fun h2=>?_,fun h2=>?_⟩
  ·replace h2:(decide (0<need.getD i 0)&& !(Gp resp i))=true:=h2;have hS:=acH hi' h2;conv=>whnf
   rw[show Eh resp need=false by unfold Eh; rw[hS]; rfl,hS];exact⟨nofun,fun _=>ay.WZ⟩
  ·replace h2:(decide (0<need.getD i 0)&& !(Gp resp i))=false:=h2;refine .mk (by simp only[okI] at *; omega) ?_;exact⟨i+1,[],⟨hi',by rw[Xb,hs,h2]; rfl⟩,by omega,(sR rfl),(sR rfl),trivial⟩
 ·have hi':i=need.length:=by have:=aM h1; omega
  subst hi';rw[Zd] at hs;conv=>whnf
  rw[I4 hn0];refine .mk (by omega) ?_;conv=>whnf
  have hz:(oZ need).length=1:=rfl;have amG: ∀ t,need.getD t 0≠0->iQ resp t≠[]:=NZ hs hpos;refine aG.fam 20000 [44,45,0] (fun t:Nat=>[(46,.int t),(8,.own 9)]) (fun t=>rD [(9,Ap (qV resp need (oZ need) t).length)]++kJ 10000 (fR (qV resp need (oZ need) t))) (fun t=>t<=need.length/\(qV resp need (oZ need) t).length<=100) (fun t=>need.length-t) 0 (qW 10000 (fun _=>3) (gU [(9,Ap 1)] [4])) _ rfl (by decide) (fun _=>rfl) ⟨ao _,by show 1<=100; decide⟩ (sR rfl) (.inl rfl) ?_ ?_
  ·refine nU.fam (g:=fun _=>3) [(9,Ap 1)] [4] ?_ rfl (ao _) (show 10000+1<=20000 by decide) (fun j o q=>?_) (fun j j' o o' q q' _=>?_)
   ·exact nX rfl nofun rfl (dS (by decide)) ⟨_,rfl,rfl,rfl,.refl _⟩ trivial
   ·match j,q with
    |0,q=>cases q; exact⟨rfl,rfl,⟨_,rfl,rfl⟩,rfl⟩
    |j+1,q=>cases q
   ·match j,j',q,q' with
    |0,0,_,_=>rfl
    |j+1,_,q,_=>cases q
    |0,j+1,_,q=>cases q
  refine⟨(sR rfl),rfl,?_⟩;clear h1 hi;rintro t ⟨ht,hL⟩;have hlen: ∀ c∈qV resp need (oZ need) t,c.length=resp.length:=aaz (by simp[hn]) hn hpos ht;have ad3:=aaB h0 (by omega:resp.length<=6) t;have hne:(qV resp need (oZ need) t)≠[]:=by
   have:=WW (resp:=resp) (need:=need) (out:=oZ need) amG (n:=0) t;rw[fS] at this;intro h;rw[h] at this;exact absurd this (by show ¬ 1<=0; decide)
  have hnx:qV resp need (oZ need) (t+1)=Ku resp need (qV resp need (oZ need) t) t:=BK;have hbig: ∀ u,u<=need.length->100<(qV resp need (oZ need) u).length->Eh resp need=false:=fun u hu hb=>by
   have:=aie amG hu hb;unfold Eh;rw[cB (by omega),Bool.and_false]
  generalize hO:qV resp need (oZ need) t=OUT at hL hlen hne hnx ad3;refine⟨fun h1=>?_,fun h1=>?_⟩
  ·have ht':t<need.length:=by simpa using h1
   refine .mk (by simp only[Rw.rng] at *; omega) ?_;refine⟨fun h2=>?_,fun h2=>?_⟩
   ·replace h2:(need.getD t 0==0)=true:=h2;have hsame:qV resp need (oZ need) (t+1)=OUT:=by rw[hnx]; unfold Ku; rw[h2]; rfl
    refine .mk (by simp only[okI] at *; omega) ?_;refine wI.JF 20000 (t+1) (fR OUT) [(9,Ap OUT.length)] [9] (by rw[hsame]) ⟨ht',by rw[hsame]; exact hL⟩ (by omega) ?_ rfl rfl (ao _) (by rw[jw]; omega) (by decide) kW (sR rfl) (sR rfl) ?_
    (repeat' (first|refine dP.lo rfl ?_|refine dP.hi rfl ?_|exact dP.nil))
    ·exact nX rfl nofun rfl (dS (by omega)) ⟨_,rfl,rfl,rfl,nC⟩ trivial
   ·replace h2:(need.getD t 0==0)=false:=h2;refine aG.nil 11 3 0 (by rfl) rfl rfl rfl ?_;refine aG.fam 20000 [53,54,9,10,8,46,44,45,0] (fun i:Nat=>[(55,.int i),(11,.own 10)]) (fun i=>rD [(9,Ap OUT.length),(10,lq (tX resp t i))]++kJ 10000 (fR OUT)) (fun i=>i<=resp.length) (fun i=>resp.length-i) 0 (qW 10000 (fun j=>10000+j) (gU [(9,Ap OUT.length),(10,lq [])] [9,20012])) _ rfl (by decide) (fun _=>rfl) (ao _) (sR rfl) (.inl rfl) ?_ ?_
    ·refine nU.aaq 20000 [(9,Ap OUT.length),(10,lq [])] [9,20012] ?_ rfl rfl (ao _) (by rw[jw]; omega) (by decide) kW ?_
     (repeat' (first|refine dP.lo rfl ?_|refine dP.hi rfl ?_|exact dP.nil))
     ·exact nX rfl nofun rfl (dS (by omega)) ⟨_,rfl,rfl,rfl,nC⟩ (nX rfl nofun rfl rfl ⟨_,rfl,rfl,rfl,.refl _⟩ trivial)
    refine⟨(sR rfl),rfl,?_⟩;rintro i hi;have hfl:=SV (resp:=resp) (t:=t) (i:=i);refine⟨fun h3=>?_,fun h3=>?_⟩
    ·have hi':i<resp.length:=by simpa using h3
     refine .mk (by simp only[Rw.rng] at *; omega) ?_;refine⟨fun h4=>?_,fun h4=>?_⟩
     ·replace h4:(resp.getD i 0==(t:Int))=true:=h4;have hf:tX resp t (i+1)=tX resp t i++[(i:Int)]:=by rw[Hg,h4]; rfl
      repeat(refine VC.mk (by first|(simp only[kT,qX,Rw.len,bX,cC]; omega)|(simp only[okI] at *; omega)) ?_)
      refine wI.JF 20000 (i+1) (fR OUT) [(9,Ap OUT.length),(10,lq (tX resp t (i+1)))] [9,20012] rfl hi' (by omega) ?_ rfl rfl (ao _) (by rw[jw]; omega) (by decide) kW (sR rfl) (sR rfl) ?_
      (repeat' (first|refine dP.lo rfl ?_|refine dP.hi rfl ?_|exact dP.nil))
      ·exact nX rfl nofun rfl (dS (by omega)) ⟨_,rfl,rfl,rfl,nC⟩ (nX rfl nofun rfl rfl ⟨_,rfl,rfl,rfl,by rw[hf,OV.fC rfl]; exact .refl _⟩ trivial)
     ·replace h4:(resp.getD i 0==(t:Int))=false:=h4;have hf:tX resp t (i+1)=tX resp t i:=by rw[Hg,h4]; rfl
      refine .mk (by simp only[okI] at *; omega) ?_;refine wI.JF 20000 (i+1) (fR OUT) [(9,Ap OUT.length),(10,lq (tX resp t (i+1)))] [9,10] rfl hi' (by omega) ?_ rfl rfl (ao _) (by rw[jw]; omega) (by decide) kW (sR rfl) (sR rfl) ?_
      (repeat' (first|refine dP.lo rfl ?_|refine dP.hi rfl ?_|exact dP.nil))
      ·exact nX rfl nofun rfl (dS (by omega)) ⟨_,rfl,rfl,rfl,nC⟩ (nX rfl nofun rfl rfl ⟨_,rfl,rfl,rfl,by rw[hf,OV.fC rfl]; exact .refl _⟩ trivial)
    ·have hi':i=resp.length:=by have:=aM h3; omega
     subst hi';have hFr:tX resp t resp.length=iQ resp t:=rfl;rw[hFr] at hfl ⊢;have hrg: ∀ x∈iQ resp t,0<=x/\x<resp.length:=fun x hx=>acG x (hFr▸hx)
     have hm:=uG h0 t;have hm0:need.getD t 0≠0:=by simpa using h2
     generalize hX:iQ resp t=XS at hfl hrg;obtain⟨m,hm'⟩: ∃ m:Nat,need.getD t 0=(m:Int):=⟨(need.getD t 0).toNat,by omega⟩
     have hmT:(need.getD t 0).toNat=m:=by omega
     have htl:=aia (resp:=resp) (out:=OUT) hm0;rw[hX,hmT,<- hnx] at htl;conv=>whnf
     rw[show need.getD ((t:Int)).toNat 0=(m:Int) from hm'];refine ah.pure (S.mD XS.length m (by omega) (by omega)) LJ ?_;by_cases hd:(lN XS.length m).length<=100
     ·rw[CZ hd];have hmul:OUT.length*(lN XS.length m).length<=100*100:=ek hL hd;repeat(refine VC.mk (by first|(intro _; refine⟨rfl,rfl,?_⟩; show okI (((vU 10000 OUT.length).length:Int)*((lN XS.length m).length:Int)); rw[rY,<- gA]; simp only[okI]; omega)|exact fun h=>h|(intro h; rw[h]; rfl)) ?_)
      refine⟨fun h4=>?_,fun h4=>?_⟩
      ·have hf:100<OUT.length*(lN XS.length m).length:=by
        replace h4:decide (100<((vU 10000 OUT.length).length:Int)*((lN XS.length m).length:Int))=true:=h4;have:=ag h4;rw[rY,<- gA] at this;omega
       have hno:=hbig (t+1) ht' (by rw[htl]; exact hf);rw[hno,hs];exact⟨nofun,fun _=>ay.WZ⟩
      ·have hf:OUT.length*(lN XS.length m).length<=100:=by
        replace h4:decide (100<((vU 10000 OUT.length).length:Int)*((lN XS.length m).length:Int))=false:=h4;have:=aM h4;rw[rY,<- gA] at this;omega
       have hsl: ∀ x∈lN XS.length m,x.length=XS.length/\(x.sum=m/\ ∀ y∈x,0<=y):=fun x hx=>⟨Du hx,Np hx⟩
       have hfin:(OUT.flatMap fun c=>(lN XS.length m).map fun x=>pR c XS x)=qV resp need (oZ need) (t+1):=by
        rw[hnx];unfold Ku;rw[h2,hX,hmT];show _=OUT.flatMap _
        congr 1
        funext c;rw[Aw]
       generalize hS:lN XS.length m=SH at hf hsl hd hfin;refine aG.nil 16 24 0 (by rfl) rfl rfl rfl ?_;refine aG.fam 20000 [85,86,14,11,46,44,45,0] (fun i:Nat=>[(87,.int i),(16,.own 11)]) (fun i=>rD (MW OUT XS (G6 OUT SH XS i 0).length)++kJ 10000 (fR (G6 OUT SH XS i 0))) (fun i=>i<=OUT.length) (fun i=>OUT.length-i) 0 (qW 10000 (fun j=>10000+j) (gU (MW OUT XS 0) [9,10,20024])) [(9,some (.row 24 0 (.eF OUT) [])),(10,some (lq XS)),(20024,some (.row 24 0 .nil []))] rfl (by decide) (fun _=>rfl) (ao _) (sR rfl) (.inr ⟨fun c=>10000<=c/\c<20000,acF (R:=OUT) 20000 rfl (show ¬ (10000<=9/\9<20000) by omega) (fun j hj=>show 10000<=10000+j/\10000+j<20000 by omega) ?_ (by omega) (Gj rfl (show ¬ (10000<=10/\10<20000) by omega) (Gj rfl (show ¬ (10000<=20024/\20024<20000) by omega) trivial))⟩) ?_ ?_
       (repeat' (first|refine dP.lo rfl ?_|refine dP.hi rfl ?_|exact dP.nil))
       ·refine nU.fam (g:=fun j=>10000+j) (MW OUT XS 0) [9,10,20024] ?_ rfl (ao _) (show 10000+0<=20000 by decide) (fun j o q=>by cases q) (fun j _ o _ q=>by cases q);exact nX rfl nofun rfl rfl ⟨_,rfl,rfl,rfl,by rw[OV.fC rfl]; exact .refl _⟩ (nX rfl nofun rfl rfl ⟨_,rfl,rfl,rfl,by rw[OV.fC rfl]; exact .refl _⟩ (nX rfl nofun rfl rfl ⟨_,rfl,rfl,rfl,.refl _⟩ trivial))
       refine⟨(sR rfl),rfl,?_⟩;clear hi;rintro i hi;have hN0:=UF (xs:=XS) hi (ao SH.length);have akX: ∀ i j,i<OUT.length->j<=SH.length->i*SH.length+j<=100:=fun i j h1 h2=>by
        have:=cr SH.length h1;rw[eM] at this;omega
       have hN0':i*SH.length<=100:=di (cr _ hi) hf;refine⟨fun h5=>?_,fun h5=>?_⟩
       ·have hi':i<OUT.length:=by simpa using h5
        have hmem:OUT.getD ((i:Int)).toNat []∈OUT:=by show OUT.getD i []∈OUT; rw[getD_some hi']; exact bh hi'
        have hb:=hlen _ hmem;have hbb:=ad3 _ hmem;repeat(refine VC.mk (by simp only[Rw.rng] at *; omega) ?_)
        refine aG.fam 20000 [91,92,18,11,87,85,86,14,46,44,45,0] (fun j:Nat=>[(93,.int j),(16,.own 11)]) (fun j=>rD (MW OUT XS (G6 OUT SH XS i j).length)++kJ 10000 (fR (G6 OUT SH XS i j))) (fun j=>j<=SH.length) (fun j=>SH.length-j) 0 (qW 10000 (fun j=>10000+j) (gU (MW OUT XS (G6 OUT SH XS i 0).length) [9,10,11])) _ rfl (by decide) (fun _=>rfl) (ao _) (sR rfl) (.inl rfl) ?_ ?_
        ·refine nU.aaq 20000 (MW OUT XS (G6 OUT SH XS i 0).length) [9,10,11] ?_ rfl rfl (ao _) (by rw[jw]; omega) (by decide) kW ?_
         (repeat' (first|refine dP.lo rfl ?_|refine dP.hi rfl ?_|exact dP.nil))
         ·exact nX rfl nofun rfl rfl ⟨_,rfl,rfl,rfl,by rw[OV.fC rfl]; exact .refl _⟩ (nX rfl nofun rfl rfl ⟨_,rfl,rfl,rfl,by rw[OV.fC rfl]; exact .refl _⟩ (nX rfl nofun rfl (dS (by omega)) ⟨_,rfl,rfl,rfl,nC⟩ trivial))
        refine⟨(sR rfl),rfl,?_⟩;rintro j hj;have hNj:=UF (xs:=XS) hi hj;have aok:=akX i j hi' hj;refine⟨fun h6=>?_,fun h6=>?_⟩
        ·have hj':j<SH.length:=by simpa using h6
         have hNs:G6 OUT SH XS i (j+1)=G6 OUT SH XS i j++[pR (OUT.getD ((i:Int)).toNat []) XS (SH.getD ((j:Int)).toNat [])]:=afs hj';have hN1:=UF (xs:=XS) hi hj';rw[hNs] at hN1;have aol:=akX i (j+1) hi' hj';obtain⟨hs1,hs2,hs3⟩:=hsl (SH.getD ((j:Int)).toNat []) (by show SH.getD j []∈SH; rw[getD_some hj']; exact bh hj');have hs4: ∀ k∈SH.getD ((j:Int)).toNat [],0<=k/\k<=1048576:=fun k hk=>⟨hs3 k hk,by have:=aaA hs3 hk; rw[hs2] at this; omega⟩
         repeat(refine VC.mk (by first|(simp only[kT,qX,Rw.len]; omega)|(simp only[Rw.rng] at *; omega)) ?_)
         generalize hbase:OUT.getD ((i:Int)).toNat []=base at hb hbb hNs hN1 ⊢;generalize aom:SH.getD ((j:Int)).toNat []=shr at hs1 hs2 hs3 hs4 hNs hN1 ⊢;refine aG.fam 20000 [99,100,11,16,93,91,92,18,87,85,86,14,46,44,45,0] (fun x:Nat=>[(101,.int x),(21,.own 12)]) (fun x=>rD (MW OUT XS (G6 OUT SH XS i j).length++[(12,lq (LK base XS shr x))])++kJ 10000 (fR (G6 OUT SH XS i j))) (fun x=>x<=shr.length) (fun x=>shr.length-x) 0 (qW 10000 (fun j=>10000+j) (gU (MW OUT XS (G6 OUT SH XS i j).length++[(12,lq (LK base XS shr 0))]) [9,10,11,20005])) _ rfl (by decide) (fun _=>rfl) (ao _) (sR rfl) (.inl rfl) ?_ ?_
         ·refine nU.aaq 20000 (MW OUT XS (G6 OUT SH XS i j).length++[(12,lq (LK base XS shr 0))]) [9,10,11,20005] ?_ rfl rfl (ao _) (by rw[jw]; omega) (by decide) kW ?_
          (repeat' (first|refine dP.lo rfl ?_|refine dP.hi rfl ?_|exact dP.nil))
          ·exact nX rfl nofun rfl rfl ⟨_,rfl,rfl,rfl,by rw[OV.fC rfl]; exact .refl _⟩ (nX rfl nofun rfl rfl ⟨_,rfl,rfl,rfl,by rw[OV.fC rfl]; exact .refl _⟩ (nX rfl nofun rfl (dS (by omega)) ⟨_,rfl,rfl,rfl,nC⟩ (nX rfl nofun rfl rfl ⟨_,rfl,rfl,rfl,by rw[OV.fC rfl]; exact .refl _⟩ trivial)))
         refine⟨(sR rfl),rfl,?_⟩;rintro x hx;have hpl:=@afr base XS shr x;have hpb: ∀ k,0<=(LK base XS shr x).getD k 0/\(LK base XS shr x).getD k 0<=50000000:=fun k=>by
          have h1:=Xe (xs:=XS.take x) (ks:=shr.take x) (M:=1048576) hbb (fun k hk=>hs4 k (eQ hk)) (by decide) k;have h2:((XS.take x).length:Int)*1048576<=6*1048576:=fY (by rw[bR]; omega) (by decide);have h3:(t:Int)*6291456<=6*6291456:=fY (by omega) (by decide);unfold LK;omega
         refine⟨fun h7=>?_,fun h7=>?_⟩
         ·have hx':x<shr.length:=by simpa using h7
          have anS:=acI (c:=base) (xs:=XS) (ks:=shr) (i:=x) (by omega) hx';have hxr:=hrg (XS.getD x 0) (by rw[getD_some (by omega)]; exact bh _);have hxk:=hs4 (shr.getD x 0) (by rw[getD_some hx']; exact bh _);have hpx:=hpb (XS.getD ((x:Int)).toNat 0).toNat;replace hxr:0<=XS.getD ((x:Int)).toNat 0/\XS.getD ((x:Int)).toNat 0<resp.length:=hxr;replace hxk:0<=shr.getD ((x:Int)).toNat 0/\shr.getD ((x:Int)).toNat 0<=1048576:=hxk;repeat(refine VC.mk (by first|(simp only[Rw.rng]; omega)|(simp only[okI]; omega)) ?_)
          refine wI.JF 20000 (x+1) (fR (G6 OUT SH XS i j)) (MW OUT XS (G6 OUT SH XS i j).length++[(12,lq (LK base XS shr (x+1)))]) [9,10,11,12] rfl hx' (by omega) ?_ rfl rfl (ao _) (by rw[jw]; omega) (by decide) kW (sR rfl) (sR rfl) ?_
          (repeat' (first|refine dP.lo rfl ?_|refine dP.hi rfl ?_|exact dP.nil))
          ·exact nX rfl nofun rfl rfl ⟨_,rfl,rfl,rfl,by rw[OV.fC rfl]; exact .refl _⟩ (nX rfl nofun rfl rfl ⟨_,rfl,rfl,rfl,by rw[OV.fC rfl]; exact .refl _⟩ (nX rfl nofun rfl (dS (by omega)) ⟨_,rfl,rfl,rfl,nC⟩ (nX rfl nofun rfl rfl ⟨_,rfl,rfl,rfl,by rw[anS,OV.fC rfl]; exact .refl _⟩ trivial)))
         ·have hx':x=shr.length:=by have:=aM h7; omega
          subst hx';rw[afq hs1.symm] at hpl ⊢;repeat(refine VC.mk (by first|(show((vU 10000 (G6 OUT SH XS i j).length).length+(0+1))*24<=140737488355328/\(vU 10000 (G6 OUT SH XS i j).length).length+(0+1)<=1152921504606846976; rw[rY]; omega)|(simp only[okI] at *; omega)) ?_)
          refine wI.aeS 20000 (j+1) (G6 OUT SH XS i j).length 12 (fR (G6 OUT SH XS i j)) (fR (G6 OUT SH XS i j++[pR base XS shr])) (MW OUT XS ((G6 OUT SH XS i j).length+1)) [9,10,20004] (by rw[hNs,aL]; rfl) hj' (by omega) ?_ rfl rfl rfl (ao _) (by rw[jw]; omega) (by rw[jw]; omega) (by decide) kW ?_ (Zc rfl) (sR rfl) (sR rfl) ?_
          (repeat' (first|refine dP.lo rfl ?_|refine dP.hi rfl ?_|exact dP.nil))
          ·intro o ho;rw[UA rfl] at ho;cases ho;exact⟨_,rfl,rfl⟩
          ·exact nX rfl nofun rfl rfl ⟨_,rfl,rfl,rfl,by rw[OV.fC rfl]; exact .refl _⟩ (nX rfl nofun rfl rfl ⟨_,rfl,rfl,rfl,by rw[OV.fC rfl]; exact .refl _⟩ (nX rfl nofun rfl (dS (by omega)) ⟨_,rfl,rfl,rfl,Ls⟩ trivial))
        ·have hj':j=SH.length:=by have:=aM h6; omega
         subst hj';have hst:=aft (S:=SH) (xs:=XS) hi';refine .mk (by simp only[okI] at *; omega) ?_;refine wI.JF 20000 (i+1) (fR (G6 OUT SH XS i SH.length)) (MW OUT XS (G6 OUT SH XS i SH.length).length) [9,10,11] (by rw[hst]) hi' (by omega) ?_ rfl rfl (ao _) (by rw[jw]; omega) (by decide) kW (sR rfl) (sR rfl) ?_
         (repeat' (first|refine dP.lo rfl ?_|refine dP.hi rfl ?_|exact dP.nil))
         ·exact nX rfl nofun rfl rfl ⟨_,rfl,rfl,rfl,by rw[OV.fC rfl]; exact .refl _⟩ (nX rfl nofun rfl rfl ⟨_,rfl,rfl,rfl,by rw[OV.fC rfl]; exact .refl _⟩ (nX rfl nofun rfl (dS (by omega)) ⟨_,rfl,rfl,rfl,nC⟩ trivial))
       ·have hi':i=OUT.length:=by have:=aM h5; rw[rY] at this; omega
        subst hi';rw[aif,hfin] at hN0 ⊢;refine .mk (by simp only[okI] at *; omega) ?_;refine wI.JF 20000 (t+1) (fR (qV resp need (oZ need) (t+1))) [(9,Ap (qV resp need (oZ need) (t+1)).length)] [11] rfl ⟨ht',by omega⟩ (by omega) ?_ rfl rfl (ao _) (by rw[jw]; omega) (by decide) kW (sR rfl) (sR rfl) ?_
        (repeat' (first|refine dP.lo rfl ?_|refine dP.hi rfl ?_|exact dP.nil))
        ·exact nX rfl nofun rfl (dS (by omega)) ⟨_,rfl,rfl,rfl,nC⟩ trivial
     ·have hnone:divO XS.length m=none:=by unfold divO; rw[bB hd]
      rw[Gi hnone]
      have hno:=hbig (t+1) ht' (by
       rw[htl]
       have:0<OUT.length:=fg.2 hne
       exact cU (by omega:100<(lN XS.length m).length) (Nat.le_mul_of_pos_left _ this))
      rw[hno,hs];repeat(refine VC.mk (by first|exact id|(intro h; rw[h]; rfl)|(intro h; simp_all; done)) ?_)
      refine Fork.mk (fun _=>?_) (fun q=>absurd (q.symm.trans (rfl)) aR);exact⟨nofun,fun _=>ay.WZ⟩
  ·have ht':t=need.length:=by have:=aM h1; omega
   subst ht';have hok:Eh resp need=true:=by unfold Eh; rw[hs,hO,cI hL]; rfl
   rw[hok,hO];refine⟨fun _=>Uw.fam 20000 rfl (by decide) ?_ (by omega),nofun⟩
   (repeat' (first|refine dP.lo rfl ?_|refine dP.hi rfl ?_|exact dP.nil))
theorem SA.fR(C k:Nat){j:Nat}{R:List (List Int)}{h:Hz}{K:Nat->Rw->Prop}(e:h.drop k=kJ 10000 (fR R))(ho:BD 10000 C (h.take k)=true)(hC:10000+R.length<=C)(hj:j<R.length)(hK:K 0 (.ints (R.getD j []))):SA h (10000+j) K :=
 SA.fam C (show Gu (h.take k) _ h from by rw[Gu,<- e,cK]) ho (by rw[jw]; exact hC) (PD hj) hK
theorem akY{R:List (List Int)}{j:Nat}{r:List Int}:(fR R).set j (some (lq r))=fR (R.set j r):=(List.map_set ..).symm
theorem QM.fR(C k:Nat){j x:Nat}{R:List (List Int)}{v:V}{h:Hz}{K:Hz->Prop}(r':List Int)(e:h.drop k=kJ 10000 (fR R))(ho:BD 10000 C (h.take k)=true)(hC:10000+R.length<=C)(hj:j<R.length)(hr:x<(R.getD j []).length)(hs:(Rw.ints (R.getD j [])).set x v=some (.ints r'))
  (hK:K (h.take k++kJ 10000 (fR (R.set j r')))):QM h (10000+j) x 0 v K :=
 QM.fam C (show Gu (h.take k) _ h from by rw[Gu,<- e,cK]) ho (by rw[jw]; exact hC) (PD hj) hs (by show 0<=(x:Int)/\(x:Int)<_; omega) (by rw[akY]; exact hK)
theorem aaC{B k:Nat}{f:Nat->Nat}:dB (T.dF (qW 10000 (fun j=>B+j) f) (Ap k).au.l) (Fv 24 B k).au.l:=by
 refine dB.of_eq ?_;show T.dF _ (V.aS (vU 10000 k))=V.aS (vU B k);rw[pJ,pJ,Lr,cy];refine ce fun j _=>?_
 show T.own (qW 10000 (fun j=>B+j) f (10000+j))=T.own (B+j);rw[yP]
theorem aaD{n j:Nat}{x:Option OV}{L:List (Option OV)}{h:Hz}(hj:j<L.length):Hz.get (n+1+j) ((n,x)::(kJ (n+1) L++h))=(L[j]?).join:=by
 simp only[Hz.get];have hne:Nat.beq n (n+1+j)=false:=by
  cases e:Nat.beq n (n+1+j) with
  |false=>rfl
  |true=>have:=fO e; omega
 rw[hne,ap,Y5 hj]
theorem afu{a x y:Nat}(h1:a≠x)(h2:a≠y):rF a [x,y]=true:=by
 have e: ∀ z,a≠z->Nat.beq a z=false:=fun z h=>by
  cases e:Nat.beq a z with
  |false=>rfl
  |true=>exact absurd (fO e) h
 simp only[rF,e x h1,e y h2]; rfl
def Aq(R:List (List Int))(f:Int)(i:Nat):List (List Int):=(R.take i).map (fun l=>aV l f 1)++R.drop i
theorem yg{R:List (List Int)}{f:Int}{i:Nat}(h:i<=R.length):(Aq R f i).length=R.length:=by
 unfold Aq;rw[aL,bL,bR,cA]; omega
theorem JK{R:List (List Int)}{f:Int}{i:Nat}(h:i<R.length):(Aq R f i).getD i []=R.getD i []:=by
 unfold Aq;rw[ab,ck (by rw[bL,bR]; omega),bL,bR,em (by omega),eN,cT,fo,<- ab]
theorem JL{R:List (List Int)}{f:Int}{i:Nat}(h:i<R.length):Aq R f (i+1)=(Aq R f i).set i (aV (R.getD i []) f 1):=by
 unfold Aq;rw[bw h,cP,ga _ _ (by rw[bL,bR]; omega),bL,bR,em (by omega),eN,eD h,eV,getD_some h,bO]; rfl
theorem JM{R:List (List Int)}{f:Int}:Aq R f R.length=R.map fun l=>aV l f 1:=by
 unfold Aq;rw[bx,List.drop_length,cS]
theorem zf{R:List (List Int)}{f:Int}:Aq R f 0=R:=rfl
theorem Xf{n:Nat}{x:Option OV}{L:List (Option OV)}{i:Nat}{o:OV}{h:Hz}(hi:i<n)(e:h.get i=some o:=by rfl):Hz.get i ((n,x)::(kJ (n+1) L++h))=some o:=by
 simp only[Hz.get];have hne:Nat.beq n i=false:=by
  cases e:Nat.beq n i with
  |false=>rfl
  |true=>have:=fO e; omega
 rw[hne,ap,Uu (.inl (by omega)),e]
def PI(r:Rule)(c:List Int):V:=bif decide ((BG r c).length<=100) then .dD [.row 0 false (.eF (BG r c)),.bool true] else .dD [.row 0 false (.eF []),.bool false]
theorem SX{r:Rule}{c:List Int}:(PI r c).free=true:=by unfold PI; cases decide ((BG r c).length<=100)<;>rfl
theorem Az{r:Rule}{c:List Int}:ED r c=(bif r.kind==1 then(bif oW r (iP c r.to) then [iP c r.to] else r.ex.map fun x=>aV (iP c r.to) x 1) else
  bif r.kind==2 then [aV (iP (iP c r.to) r.yT) r.dQ 1] else
  bif r.kind==3 then(bif uF r.response (iP c r.to) then [] else qV r.response (iP c r.to) (oZ (iP c r.to)) (iP c r.to).length) else [iP c r.to]):=rfl
theorem zZ{c:List Int}{i:Int}(h:X0 c):X0 (iP c i):=by
 intro x hx;rcases List.mem_or_eq_of_mem_set hx with h1|h1
 ·exact h x h1
 ·have:=uG h i.toNat; omega
theorem Hl{r:Rule}{c:List Int}(hp:EG c.length r)(h0:X0 c)(hl:c.length<=6): ∀ l∈ED r c,l.length=c.length/\ ∀ j,0<=l.getD j 0/\l.getD j 0<=50000000:=by
 have hd:X0 (iP c r.to):=zZ h0;have hone: ∀ (d:List Int) (x:Int),X0 d-> ∀ j,0<=(aV d x 1).getD j 0/\(aV d x 1).getD j 0<=50000000:=fun d x h j=>by
  have:=Xd (B:=1048576) (M:=1) (i:=x) (d:=1) (uG h) (by omega) j;omega
 intro l hl';rw[Az] at hl';cases h1:(r.kind==1) with
 |true =>
  rw[h1,bE] at hl';cases ha:oW r (iP c r.to) with
  |true =>
   rw[ha,bE,br] at hl';subst hl';exact⟨jB,fun j=>by have:=uG hd j; omega⟩
  |false =>
   rw[ha,ap,ax] at hl';obtain⟨x,_,rfl⟩:=hl';exact⟨by rw[kZ,jB],hone _ x hd⟩
 |false =>
  rw[h1,ap] at hl';cases h2:(r.kind==2) with
  |true =>
   rw[h2,bE,br] at hl';subst hl';exact⟨by rw[kZ,jB,jB],hone _ _ (zZ hd)⟩
  |false =>
   rw[h2,ap] at hl';cases h3:(r.kind==3) with
   |true =>
    obtain⟨afv,amH⟩:=hp.rsp (by simpa using h3);rw[h3,bE] at hl';cases hs:uF r.response (iP c r.to) with
    |true=>rw[hs,bE] at hl'; cases hl'
    |false =>
     rw[hs,ap] at hl';have h1:=aaz (b:=List.replicate (iP c r.to).length 0) (by simp[jB,afv]) (by rw[jB,afv]) (fun i=>(uG hd i).1) (ba _) l hl';refine⟨by rw[h1,afv],fun j=>?_⟩;have:=aaB hd (by omega) _ l hl' j;rw[jB] at this
     have:(c.length:Int)*6291456<=6*6291456:=fY (by omega) (by decide)
     omega
   |false =>
    rw[h3,ap,br] at hl';subst hl';exact⟨jB,fun j=>by have:=uG hd j; omega⟩
abbrev Et(r:Rule):OV:=.box 85 19 (.dat (.rule r))
set_option maxHeartbeats 4000000 in
theorem S.jf(r:Rule)(c:List Int)(f:Bool)(hr:wS r)(hp:EG c.length r)(h0:X0 c)(hl0:0<c.length)(hl:c.length<=6)(hx:r.ex.length<=100)(hk:r.kind=1\/r.kind=2\/r.kind=3):ak Tryz.prog 88 [.dat (.rule r),.row 0 f (.ints c)] (PI r c):=by
 have hfree:=@SX r c;have hsm:=Hl hp h0 hl;have hB:BG r c=(ED r c).map fun l=>aV l r.fr 1:=rfl
 obtain⟨q1,q2⟩:=hp.dst;obtain⟨q3,q4⟩:=hp.ajK;obtain⟨q5,q6⟩:=hp.agS;obtain⟨q7,q8⟩:=hp.src;have hc0:=uG h0;generalize hv:PI r c=res;rw[hv] at hfree;refine ak.ofF Bd.jf rfl (by simp) rfl hfree ?_;have hdt:=hc0 r.to.toNat;repeat(refine VC.mk (by first|(simp only[Rw.rng]; omega)|(simp only[okI]; omega)|(simp only[kT,qX,Rw.len]; omega)) ?_)
 refine⟨fun h1=>?_,fun h1=>?_⟩
 ·have hk1:r.kind=1:=by simpa using h1
  conv=>whnf
  cases ha:oW r (iP c r.to) with
  |true =>
   obtain⟨RS,FI⟩: ∃ RS,RS=[iP c r.to]:=⟨_,rfl⟩
   have hlen:RS.length=1:=by rw[FI]; rfl
   have hcR:ED r c=RS:=by rw[FI,Az,show(r.kind==1)=true by rw[hk1]; rfl,ha]; rfl
   have PK:RS.length<=100:=by omega
   have hRS: ∀ l∈RS,l.length=c.length/\ ∀ j,0<=l.getD j 0/\l.getD j 0<=50000000:=fun l hl'=>hsm l (by rw[hcR]; exact hl')
   have hres:V.dD [.row 0 false (.eF (RS.map fun l=>aV l r.fr 1)),.bool true]=res:=by
    rw[<- hv]; unfold PI; rw[hB,hcR,cI (by rw[bL]; exact PK)]; rfl
   refine ah.DY [4] (S.UD r (iP c r.to) hr (by rw[jB]; omega) ha) rfl rfl rfl rfl rfl ⟨⟨_,rfl,ng rfl _⟩,trivial⟩ rfl (by decide) ?_;rintro t hp' ⟨rfl,rfl⟩;refine⟨.own 27,[some (lq (iP c r.to)),some (.gen 24 0 [.inn 4])],rfl,rfl,⟨dC some (ng rfl _).symm,rfl,trivial⟩,?_⟩;refine aG.fam 20000 [65,2] (fun i:Nat=>[(66,.int i),(64,.own 9),(7,.own 9)]) (fun i=>rD [(0,Et r),(9,Ap RS.length)]++kJ 10000 (fR (Aq RS r.fr i))) (fun i=>i<=RS.length) (fun i=>RS.length-i) 0 (qW 10000 (fun _=>4) (gU [(0,Et r),(9,Ap RS.length)] [0,27])) _ rfl (by decide) (fun _=>rfl) (ao _) (sR rfl) (.inl rfl) ?_ ?_
   ·refine nU.fam (g:=fun _=>4) [(0,Et r),(9,Ap RS.length)] [0,27] ?_ rfl (ao _) (by rw[jw,yg (ao _)]; omega) (fun j o q=>?_) (fun j j' o o' q q' _=>?_)
    ·exact nX rfl nofun rfl rfl ⟨_,rfl,rfl,rfl,by rw[OV.fC rfl]; exact .refl _⟩ (nX rfl nofun rfl (dS (by omega)) ⟨_,rfl,rfl,rfl,by rw[hlen]; exact .refl _⟩ trivial)
    ·rw[zf,FI] at q;match j,q with
     |0,q=>cases q; exact⟨rfl,rfl,⟨_,rfl,rfl⟩,rfl⟩
     |j+1,q=>cases q
    ·rw[zf,FI] at q q';match j,j',q,q' with
     |0,0,_,_=>rfl
     |j+1,_,q,_=>cases q
     |0,j+1,_,q=>cases q
   refine⟨(sR rfl),rfl,?_⟩;rintro i hi;have hpl:=yg (f:=r.fr) hi;refine⟨fun h5=>?_,fun h5=>?_⟩
   ·have hi':i<RS.length:=by
     have:=ag h5
     (try simp only[bX,cC] at this)
     first|omega|(replace h5:decide ((i:Int)<1)=true:=h5; have:=ag h5; omega)
    have hg:=JK (f:=r.fr) hi';obtain⟨hR1,hR2⟩:=hRS (RS.getD i []) (by rw[getD_some hi']; exact bh hi');rw[<- hg] at hR1 hR2;have hrv:=hR2 r.fr.toNat;refine .mk (by show 0<=(i:Int)/\(i:Int)<((vU 10000 RS.length).length:Int); rw[rY]; omega) ?_;refine AtZ.inn hi' ?_;refine SA.fR 20000 2 rfl rfl (by omega) (by rw[hpl]; exact hi') ?_;refine .mk (by simp only[Rw.rng] at *; first|omega|(simp_all; done)|(simp_all; omega)) ?_;refine SA.fR 20000 2 rfl rfl (by omega) (by rw[hpl]; exact hi') ?_;repeat(refine VC.mk (by simp only[okI,Rw.rng] at *; first|omega|(simp_all; done)|(simp_all; omega)) ?_)
    refine SA.fR 20000 2 rfl rfl (by omega) (by rw[hpl]; exact hi') ?_;refine .mk (by simp only[Rw.rng] at *; first|omega|(simp_all; done)|(simp_all; omega)) ?_;refine QM.fR 20000 2 (aV (RS.getD i []) r.fr 1) rfl rfl (by omega) (by rw[hpl]; exact hi') (by show r.fr.toNat<((Aq RS r.fr i).getD i []).length; omega) (by show some _=some _; rw[<- hg]; rfl) ?_;refine .mk (by simp only[okI] at *; first|omega|(simp_all; done)|(simp_all; omega)) ?_;refine wI.JF 20000 (i+1) (fR ((Aq RS r.fr i).set i (aV (RS.getD i []) r.fr 1))) [(0,Et r),(9,Ap RS.length)] [0,9] (by rw[JL hi']) hi' (by omega) ?_ rfl rfl (ao _) (by rw[jw,dv,hpl]; omega) (by decide) kW (sR rfl) (sR rfl) ?_
    (repeat' (first|refine dP.lo rfl ?_|refine dP.hi rfl ?_|exact dP.nil))
    ·exact nX rfl nofun rfl rfl ⟨_,rfl,rfl,rfl,by rw[OV.fC rfl]; exact .refl _⟩ (nX rfl nofun rfl (dS (by omega)) ⟨_,rfl,rfl,rfl,nC⟩ trivial)
   ·have hi':i=RS.length:=by
     have:=aM h5
     (try simp only[bX,cC] at this)
     first|omega|(replace h5:decide ((i:Int)<1)=false:=h5; have:=aM h5; omega)
    subst hi';rw[JM] at hpl ⊢;rw[<- hres];refine kF.ab8 (kF.WY 20000 (by rw[bL]; rfl) (by decide) ?_ (by rw[bL]; omega))
    (repeat' (first|refine dP.lo rfl ?_|refine dP.hi rfl ?_|exact dP.nil))
  |false =>
   obtain⟨RS,FI⟩: ∃ RS,RS=r.ex.map fun x=>aV (iP c r.to) x 1:=⟨_,rfl⟩
   have PK:RS.length<=100:=by rw[FI,bL]; exact hx
   have hcR:ED r c=RS:=by rw[FI,Az,show(r.kind==1)=true by rw[hk1]; rfl,ha]; rfl
   have hRS: ∀ l∈RS,l.length=c.length/\ ∀ j,0<=l.getD j 0/\l.getD j 0<=50000000:=fun l hl'=>hsm l (by rw[hcR]; exact hl')
   have hres:V.dD [.row 0 false (.eF (RS.map fun l=>aV l r.fr 1)),.bool true]=res:=by
    rw[<- hv]; unfold PI; rw[hB,hcR,cI (by rw[bL]; exact PK)]; rfl
   have hW:=S.UE r (iP c r.to) false hr (by rw[jB]; omega) (by rw[jB]; exact hp.exs) hx (zZ h0) ha;rw[<- FI] at hW;refine ah.nest (fun c=>c=4) (Gj (i:=0) (o:=Et r) (r:=[]) rfl (by decide) trivial) hW ⟨aH _,zl rfl rfl,trivial⟩ rfl ajC (fun o ho=>(NR o ho).1) ?_;refine aG.fam 20000 [65,2] (fun i:Nat=>[(66,.int i),(64,.own 9),(7,.own 9)]) (fun i=>rD [(0,Et r),(9,Ap RS.length)]++kJ 10000 (fR (Aq RS r.fr i))) (fun i=>i<=RS.length) (fun i=>RS.length-i) 0 (qW 10000 (fun j=>28+j) (gU [(0,Et r),(9,Ap RS.length)] [0,27])) _ rfl (by decide) (fun _=>rfl) (ao _) (sR rfl) (.inl rfl) ?_ ?_
   ·refine nU.fam (g:=fun j=>28+j) [(0,Et r),(9,Ap RS.length)] [0,27] ?_ rfl (ao _) (by rw[jw,yg (ao _)]; omega) (fun j o q=>?_) (fun j j' o o' q q' e=>by replace e:28+j=28+j':=e; omega)
    ·refine nX rfl nofun rfl rfl ⟨_,Xf (by decide),rfl,rfl,by rw[OV.fC rfl]; exact .refl _⟩ (nX rfl nofun rfl (dS (by omega)) ⟨_,rfl,rfl,rfl,by rw[bL]; exact aaC⟩ trivial)
    ·rw[zf] at q;have hj:j<(fR RS).length:=(bo.1 q).1;obtain⟨g1,g2⟩:=kW (nx:=20000) o (cx q);exact⟨g1,g2,⟨o,by rw[W9]; exact(aaD (n:=27) hj).trans (by rw[q]; rfl),rfl⟩,afu (by omega) (by omega)⟩
   refine⟨(sR rfl),rfl,?_⟩;rintro i hi;have hpl:=yg (f:=r.fr) hi;refine⟨fun h5=>?_,fun h5=>?_⟩
   ·have hi':i<RS.length:=by
     have:=ag h5
     (try simp only[bL,gC,bX,cC] at this)
     first|omega|(replace h5:decide ((i:Int)<1)=true:=h5; have:=ag h5; omega)
    have hg:=JK (f:=r.fr) hi';obtain⟨hR1,hR2⟩:=hRS (RS.getD i []) (by rw[getD_some hi']; exact bh hi');rw[<- hg] at hR1 hR2;have hrv:=hR2 r.fr.toNat;refine .mk (by show 0<=(i:Int)/\(i:Int)<((vU 10000 RS.length).length:Int); rw[rY]; omega) ?_;refine AtZ.inn hi' ?_;refine SA.fR 20000 2 rfl rfl (by omega) (by rw[hpl]; exact hi') ?_;refine .mk (by simp only[Rw.rng] at *; first|omega|(simp_all; done)|(simp_all; omega)) ?_;refine SA.fR 20000 2 rfl rfl (by omega) (by rw[hpl]; exact hi') ?_;repeat(refine VC.mk (by simp only[okI,Rw.rng] at *; first|omega|(simp_all; done)|(simp_all; omega)) ?_)
    refine SA.fR 20000 2 rfl rfl (by omega) (by rw[hpl]; exact hi') ?_;refine .mk (by simp only[Rw.rng] at *; first|omega|(simp_all; done)|(simp_all; omega)) ?_;refine QM.fR 20000 2 (aV (RS.getD i []) r.fr 1) rfl rfl (by omega) (by rw[hpl]; exact hi') (by show r.fr.toNat<((Aq RS r.fr i).getD i []).length; omega) (by show some _=some _; rw[<- hg]; rfl) ?_;refine .mk (by simp only[okI] at *; first|omega|(simp_all; done)|(simp_all; omega)) ?_;refine wI.JF 20000 (i+1) (fR ((Aq RS r.fr i).set i (aV (RS.getD i []) r.fr 1))) [(0,Et r),(9,Ap RS.length)] [0,9] (by rw[JL hi']) hi' (by omega) ?_ rfl rfl (ao _) (by rw[jw,dv,hpl]; omega) (by decide) kW (sR rfl) (sR rfl) ?_
    (repeat' (first|refine dP.lo rfl ?_|refine dP.hi rfl ?_|exact dP.nil))
    ·exact nX rfl nofun rfl rfl ⟨_,rfl,rfl,rfl,by rw[OV.fC rfl]; exact .refl _⟩ (nX rfl nofun rfl (dS (by omega)) ⟨_,rfl,rfl,rfl,nC⟩ trivial)
   ·have hi':i=RS.length:=by
     have:=aM h5
     (try simp only[bL,gC,bX,cC] at this)
     first|omega|(replace h5:decide ((i:Int)<1)=false:=h5; have:=aM h5; omega)
    subst hi';rw[JM] at hpl ⊢;rw[<- hres];refine kF.ab8 (kF.WY 20000 (by rw[bL]; rfl) (by decide) ?_ (by rw[bL]; omega))
    (repeat' (first|refine dP.lo rfl ?_|refine dP.hi rfl ?_|exact dP.nil))
 ·conv=>whnf
  refine⟨fun h2=>?_,fun h2=>?_⟩
  ·have hk2:r.kind=2:=by simpa using h2
   obtain⟨RS,FI⟩: ∃ RS,RS=[aV (iP (iP c r.to) r.yT) r.dQ 1]:=⟨_,rfl⟩
   have hlen:RS.length=1:=by rw[FI]; rfl
   have hcR:ED r c=RS:=by rw[FI,Az,show(r.kind==1)=false by rw[hk2]; rfl,show(r.kind==2)=true by rw[hk2]; rfl]; rfl
   have PK:RS.length<=100:=by omega
   have hRS: ∀ l∈RS,l.length=c.length/\ ∀ j,0<=l.getD j 0/\l.getD j 0<=50000000:=fun l hl'=>hsm l (by rw[hcR]; exact hl')
   have hres:V.dD [.row 0 false (.eF (RS.map fun l=>aV l r.fr 1)),.bool true]=res:=by
    rw[<- hv]; unfold PI; rw[hB,hcR,cI (by rw[bL]; exact PK)]; rfl
   have hd1:0<=(c.set r.to.toNat (max (c.getD r.to.toNat 0-1) 0)).getD r.yT.toNat 0/\(c.set r.to.toNat (max (c.getD r.to.toNat 0-1) 0)).getD r.yT.toNat 0<=1048576:=uG (zZ h0) _;have hd2:0<=((c.set r.to.toNat (max (c.getD r.to.toNat 0-1) 0)).set r.yT.toNat (max ((c.set r.to.toNat (max (c.getD r.to.toNat 0-1) 0)).getD r.yT.toNat 0-1) 0)).getD r.dQ.toNat 0/\((c.set r.to.toNat (max (c.getD r.to.toNat 0-1) 0)).set r.yT.toNat (max ((c.set r.to.toNat (max (c.getD r.to.toNat 0-1) 0)).getD r.yT.toNat 0-1) 0)).getD r.dQ.toNat 0<=1048576:=uG (zZ (zZ h0)) _;repeat(refine VC.mk (by first|(simp only[Rw.rng,dv]; omega)|(simp only[okI]; omega)) ?_)
   refine aG.fam 20000 [65,2] (fun i:Nat=>[(66,.int i),(64,.own 9),(7,.own 9)]) (fun i=>rD [(0,Et r),(9,Ap RS.length)]++kJ 10000 (fR (Aq RS r.fr i))) (fun i=>i<=RS.length) (fun i=>RS.length-i) 0 (qW 10000 (fun _=>4) (gU [(0,Et r),(9,Ap RS.length)] [0,19])) _ rfl (by decide) (fun _=>rfl) (ao _) (sR rfl) (.inl rfl) ?_ ?_
   ·refine nU.fam (g:=fun _=>4) [(0,Et r),(9,Ap RS.length)] [0,19] ?_ rfl (ao _) (by rw[jw,yg (ao _)]; omega) (fun j o q=>?_) (fun j j' o o' q q' _=>?_)
    ·exact nX rfl nofun rfl rfl ⟨_,rfl,rfl,rfl,by rw[OV.fC rfl]; exact .refl _⟩ (nX rfl nofun rfl (dS (by omega)) ⟨_,rfl,rfl,rfl,by rw[hlen]; exact .refl _⟩ trivial)
    ·rw[zf,FI] at q;match j,q with
     |0,q=>cases q; exact⟨rfl,rfl,⟨_,rfl,rfl⟩,rfl⟩
     |j+1,q=>cases q
    ·rw[zf,FI] at q q';match j,j',q,q' with
     |0,0,_,_=>rfl
     |j+1,_,q,_=>cases q
     |0,j+1,_,q=>cases q
   refine⟨(sR rfl),rfl,?_⟩;rintro i hi;have hpl:=yg (f:=r.fr) hi;refine⟨fun h5=>?_,fun h5=>?_⟩
   ·have hi':i<RS.length:=by
     have:=ag h5
     (try simp only[bX,cC] at this)
     first|omega|(replace h5:decide ((i:Int)<1)=true:=h5; have:=ag h5; omega)
    have hg:=JK (f:=r.fr) hi';obtain⟨hR1,hR2⟩:=hRS (RS.getD i []) (by rw[getD_some hi']; exact bh hi');rw[<- hg] at hR1 hR2;have hrv:=hR2 r.fr.toNat;refine .mk (by show 0<=(i:Int)/\(i:Int)<((vU 10000 RS.length).length:Int); rw[rY]; omega) ?_;refine AtZ.inn hi' ?_;refine SA.fR 20000 2 rfl rfl (by omega) (by rw[hpl]; exact hi') ?_;refine .mk (by simp only[Rw.rng] at *; first|omega|(simp_all; done)|(simp_all; omega)) ?_;refine SA.fR 20000 2 rfl rfl (by omega) (by rw[hpl]; exact hi') ?_;repeat(refine VC.mk (by simp only[okI,Rw.rng] at *; first|omega|(simp_all; done)|(simp_all; omega)) ?_)
    refine SA.fR 20000 2 rfl rfl (by omega) (by rw[hpl]; exact hi') ?_;refine .mk (by simp only[Rw.rng] at *; first|omega|(simp_all; done)|(simp_all; omega)) ?_;refine QM.fR 20000 2 (aV (RS.getD i []) r.fr 1) rfl rfl (by omega) (by rw[hpl]; exact hi') (by show r.fr.toNat<((Aq RS r.fr i).getD i []).length; omega) (by show some _=some _; rw[<- hg]; rfl) ?_;refine .mk (by simp only[okI] at *; first|omega|(simp_all; done)|(simp_all; omega)) ?_;refine wI.JF 20000 (i+1) (fR ((Aq RS r.fr i).set i (aV (RS.getD i []) r.fr 1))) [(0,Et r),(9,Ap RS.length)] [0,9] (by rw[JL hi']) hi' (by omega) ?_ rfl rfl (ao _) (by rw[jw,dv,hpl]; omega) (by decide) kW (sR rfl) (sR rfl) ?_
    (repeat' (first|refine dP.lo rfl ?_|refine dP.hi rfl ?_|exact dP.nil))
    ·exact nX rfl nofun rfl rfl ⟨_,rfl,rfl,rfl,by rw[OV.fC rfl]; exact .refl _⟩ (nX rfl nofun rfl (dS (by omega)) ⟨_,rfl,rfl,rfl,nC⟩ trivial)
   ·have hi':i=RS.length:=by
     have:=aM h5
     (try simp only[bX,cC] at this)
     first|omega|(replace h5:decide ((i:Int)<1)=false:=h5; have:=aM h5; omega)
    subst hi';rw[JM] at hpl ⊢;rw[<- hres];refine kF.ab8 (kF.WY 20000 (by rw[bL]; rfl) (by decide) ?_ (by rw[bL]; omega))
    (repeat' (first|refine dP.lo rfl ?_|refine dP.hi rfl ?_|exact dP.nil))
  ·have hk3:r.kind=3:=by
    rcases hk with h|h|h
    ·rw[h] at h1; cases h1
    ·rw[h] at h2; cases h2
    ·exact h
   obtain⟨afv,amH⟩:=hp.rsp hk3;have hS:=S.oK r.response (iP c r.to) false false (by rw[jB,afv]) (by rw[jB]; exact hl0) (by rw[jB]; exact hl) (zZ h0) (by rw[jB]; exact amH);refine Fork.mk (fun _=>?_) (fun q=>absurd (q.symm.trans (by rw[hk3]; rfl)) aR);conv=>whnf
   cases hso:Eh r.response (iP c r.to) with
   |true =>
    have hW:=hS.1 hso;have aii:=hso;unfold Eh at aii;rw[aD] at aii;have hst:uF r.response (iP c r.to)=false:=by simpa using aii.1
    obtain⟨RS,FI⟩: ∃ RS,RS=qV r.response (iP c r.to) (oZ (iP c r.to)) (iP c r.to).length:=⟨_,rfl⟩
    have PK:RS.length<=100:=by rw[FI]; exact ag aii.2
    have hcR:ED r c=RS:=by rw[FI,Az,show(r.kind==1)=false by rw[hk3]; rfl,show(r.kind==2)=false by rw[hk3]; rfl,show(r.kind==3)=true by rw[hk3]; rfl,hst]; rfl
    have hRS: ∀ l∈RS,l.length=c.length/\ ∀ j,0<=l.getD j 0/\l.getD j 0<=50000000:=fun l hl'=>hsm l (by rw[hcR]; exact hl')
    have hres:V.dD [.row 0 false (.eF (RS.map fun l=>aV l r.fr 1)),.bool true]=res:=by
     rw[<- hv]; unfold PI; rw[hB,hcR,cI (by rw[bL]; exact PK)]; rfl
    rw[<- FI] at hW;refine ah.nest (fun c=>c=4) (Gj (i:=0) (o:=Et r) (r:=[]) rfl (by decide) trivial) hW ⟨aH _,zl rfl rfl,trivial⟩ rfl (afn true) (fun o ho=>(NR o ho).1) ?_;refine Fork.mk (fun q=>absurd (q.symm.trans (rfl)).symm aR) (fun _=>?_);refine aG.fam 20000 [65,2] (fun i:Nat=>[(66,.int i),(64,.own 9),(7,.own 9)]) (fun i=>rD [(0,Et r),(9,Ap RS.length)]++kJ 10000 (fR (Aq RS r.fr i))) (fun i=>i<=RS.length) (fun i=>RS.length-i) 0 (qW 10000 (fun j=>34+j) (gU [(0,Et r),(9,Ap RS.length)] [0,33])) _ rfl (by decide) (fun _=>rfl) (ao _) (sR rfl) (.inl rfl) ?_ ?_
    ·refine nU.fam (g:=fun j=>34+j) [(0,Et r),(9,Ap RS.length)] [0,33] ?_ rfl (ao _) (by rw[jw,yg (ao _)]; omega) (fun j o q=>?_) (fun j j' o o' q q' e=>by replace e:34+j=34+j':=e; omega)
     ·refine nX rfl nofun rfl rfl ⟨_,Xf (by decide),rfl,rfl,by rw[OV.fC rfl]; exact .refl _⟩ (nX rfl nofun rfl (dS (by omega)) ⟨_,rfl,rfl,rfl,by rw[bL]; exact aaC⟩ trivial)
     ·rw[zf] at q;have hj:j<(fR RS).length:=(bo.1 q).1;obtain⟨g1,g2⟩:=kW (nx:=20000) o (cx q);exact⟨g1,g2,⟨o,by rw[W9]; exact(aaD (n:=33) hj).trans (by rw[q]; rfl),rfl⟩,afu (by omega) (by omega)⟩
    refine⟨(sR rfl),rfl,?_⟩;rintro i hi;have hpl:=yg (f:=r.fr) hi;refine⟨fun h5=>?_,fun h5=>?_⟩
    ·have hi':i<RS.length:=by
      have:=ag h5
      (try simp only[bL,gC,bX,cC] at this)
      first|omega|(replace h5:decide ((i:Int)<1)=true:=h5; have:=ag h5; omega)
     have hg:=JK (f:=r.fr) hi';obtain⟨hR1,hR2⟩:=hRS (RS.getD i []) (by rw[getD_some hi']; exact bh hi');rw[<- hg] at hR1 hR2;have hrv:=hR2 r.fr.toNat;refine .mk (by show 0<=(i:Int)/\(i:Int)<((vU 10000 RS.length).length:Int); rw[rY]; omega) ?_;refine AtZ.inn hi' ?_;refine SA.fR 20000 2 rfl rfl (by omega) (by rw[hpl]; exact hi') ?_;refine .mk (by simp only[Rw.rng] at *; first|omega|(simp_all; done)|(simp_all; omega)) ?_;refine SA.fR 20000 2 rfl rfl (by omega) (by rw[hpl]; exact hi') ?_;repeat(refine VC.mk (by simp only[okI,Rw.rng] at *; first|omega|(simp_all; done)|(simp_all; omega)) ?_)
     refine SA.fR 20000 2 rfl rfl (by omega) (by rw[hpl]; exact hi') ?_;refine .mk (by simp only[Rw.rng] at *; first|omega|(simp_all; done)|(simp_all; omega)) ?_;refine QM.fR 20000 2 (aV (RS.getD i []) r.fr 1) rfl rfl (by omega) (by rw[hpl]; exact hi') (by show r.fr.toNat<((Aq RS r.fr i).getD i []).length; omega) (by show some _=some _; rw[<- hg]; rfl) ?_;refine .mk (by simp only[okI] at *; first|omega|(simp_all; done)|(simp_all; omega)) ?_;refine wI.JF 20000 (i+1) (fR ((Aq RS r.fr i).set i (aV (RS.getD i []) r.fr 1))) [(0,Et r),(9,Ap RS.length)] [0,9] (by rw[JL hi']) hi' (by omega) ?_ rfl rfl (ao _) (by rw[jw,dv,hpl]; omega) (by decide) kW (sR rfl) (sR rfl) ?_
     (repeat' (first|refine dP.lo rfl ?_|refine dP.hi rfl ?_|exact dP.nil))
     ·exact nX rfl nofun rfl rfl ⟨_,rfl,rfl,rfl,by rw[OV.fC rfl]; exact .refl _⟩ (nX rfl nofun rfl (dS (by omega)) ⟨_,rfl,rfl,rfl,nC⟩ trivial)
    ·have hi':i=RS.length:=by
      have:=aM h5
      (try simp only[bL,gC,bX,cC] at this)
      first|omega|(replace h5:decide ((i:Int)<1)=false:=h5; have:=aM h5; omega)
     subst hi';rw[JM] at hpl ⊢;rw[<- hres];refine kF.ab8 (kF.WY 20000 (by rw[bL]; rfl) (by decide) ?_ (by rw[bL]; omega))
     (repeat' (first|refine dP.lo rfl ?_|refine dP.hi rfl ?_|exact dP.nil))
   |false =>
    refine ah.lend (hS.2 hso) ⟨aH _,zl trivial rfl,trivial⟩ rfl rfl ?_;unfold Eh at hso;cases hst:uF r.response (iP c r.to) with
    |true =>
     have hcR:ED r c=[]:=by rw[Az,show(r.kind==1)=false by rw[hk3]; rfl,show(r.kind==2)=false by rw[hk3]; rfl,show(r.kind==3)=true by rw[hk3]; rfl,hst]; rfl
     have hres:V.dD [.row 0 false (.eF []),.bool true]=res:=by
      rw[<- hv]; unfold PI; rw[hB,hcR]; rfl
     refine Fork.mk (fun q=>absurd (q.symm.trans (rfl)).symm aR) (fun _=>?_);refine aG.times 1 rfl ?_;refine Fork.mk (fun q=>absurd (q.symm.trans ((rfl:decide ((0:Int)<0)=false))).symm aR) (fun _=>?_);conv=>whnf
     rw[<- hres];exact kF.same
    |false =>
     have hbig: ¬ (qV r.response (iP c r.to) (oZ (iP c r.to)) (iP c r.to).length).length<=100:=by
      rw[hst] at hso;simpa using hso
     have hcR:ED r c=qV r.response (iP c r.to) (oZ (iP c r.to)) (iP c r.to).length:=by rw[Az,show(r.kind==1)=false by rw[hk3]; rfl,show(r.kind==2)=false by rw[hk3]; rfl,show(r.kind==3)=true by rw[hk3]; rfl,hst]; rfl
     have hres:V.dD [.row 0 false (.eF []),.bool false]=res:=by
      rw[<- hv]; unfold PI; rw[hB,hcR,cB (by rw[bL]; exact hbig)]; rfl
     refine Fork.mk (fun _=>?_) (fun q=>absurd (q.symm.trans (rfl)) aR);conv=>whnf
     rw[<- hres];exact kF.WZ
end Go.Proofs.YtdloaandiobgdaaGreatDoor
