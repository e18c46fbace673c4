/-
 What a broadcast comes from: the program's lists. No condition.
-/
import Derived.Test.YtbdbmfccbpfeoaaGreatDoorQa
namespace Go.Proofs.YtbdbmfccbpfeoaaGreatDoor
open Go.Ab Go.Proofs
set_option maxRecDepth 100000
theorem acP{Z:Nat->Prop}{h:Hz}{i:Nat}{R:List (List Int)}(C:Nat)(hi:h.get i=some (zh R.length))(hz: ¬ Z i)(hZ: ∀ j,j<R.length->Z (10000+j))(q:dB 10000 C (iY 10000 (fR R)) h)(hC:10000+R.length<=C) :
  ∃ o',h.get i=some o'/\ ¬ Z i/\o'.ay.ty=(OV.row 24 0 (.dV R) []).ay.ty/\o'.ay.k=(OV.row 24 0 (.dV R) []).ay.k/\T.dG Z h.au (OV.row 24 0 (.dV R) []).ay.l o'.ay.l/\(OV.row 24 0 (.dV R) []).ay.l.map T.kd=o'.ay.l.map T.kd/\(OV.row 24 0 (.dV R) []).ay.l.map iQ=o'.ay.l.map iQ:=by
 have e1:(OV.row 24 0 (.dV R) []).ay.l=R.map Go.Ab.ints:=by simp[OV.ay,Rw.aQ,V.aQ]
 have e2:(zh R.length).ay.l=(List.range R.length).map fun j=>T.own (10000+j):=lN
 refine⟨_,hi,hz,rfl,rfl,?_,?_,?_⟩
 ·rw[e1,e2];refine KI (by simp) fun j t u h1 h2=>?_
  have hj:j<R.length:=by have:=(bj.1 h1).1; simpa using this
  rw[cM,bE hj] at h1;rw[cM,fq hj] at h2;cases h1; cases h2;refine⟨rfl,hZ j hj,?_,by decide,3,?_⟩
  ·rw[ig]; intro t ht; obtain⟨x,_,rfl⟩:=bA.1 ht; rfl
  ·have:=aP (q.get (by rw[iC]; exact hC) (Nj hj));rw[this,getD_some hj];simp[OV.ay,V.aQ,Rw.aQ]
 ·rw[e1,e2,cp,cp];apply eC
  ·simp
  ·intro j h1 h2;simp only[fS,Function.comp]; rfl
 ·rw[e1,e2,cp,cp];apply eC
  ·simp
  ·intro j h1 h2;simp only[fS,Function.comp]; rfl
theorem aan{Z:Nat->Prop}{h:Hz}{i:Nat}{R:List (List Int)}{r:Hz}(C:Nat)(hi:h.get i=some (zh R.length))(hz: ¬ Z i)(hZ: ∀ j,j<R.length->Z (10000+j))(q:dB 10000 C (iY 10000 (fR R)) h)(hC:10000+R.length<=C)(hr:Ox Z h r):Ox Z h ((i,some (.row 24 0 (.dV R) []))::r):=⟨acP C hi hz hZ q hC,hr⟩
theorem ED{Z:Nat->Prop}{h:Hz}{i:Nat}{o:OV}{r:Hz}(hi:h.get i=some o)(hz: ¬ Z i)(hr:Ox Z h r):Ox Z h ((i,some o)::r):=⟨sV hi hz,hr⟩
def yS(resp:List Int)(t i:Nat):List Int:=((List.range i).filter fun x=>resp.getD x 0==(t:Int)).map fun x:Nat=>(x:Int)
theorem Nl{resp:List Int}{t i:Nat}:yS resp t (i+1)=bif resp.getD i 0==(t:Int) then yS resp t i++[(i:Int)] else yS resp t i:=by
 unfold yS;rw[ce,List.filter_append,cx,fW,List.filter_nil];show _++List.map _ (if(resp.getD i 0==(t:Int))=true then [i] else [])=_;cases (resp.getD i 0==(t:Int))
 ·exact cT _
 ·rfl
theorem PW{resp:List Int}{t i:Nat}:(yS resp t i).length<=i:=by
 unfold yS;rw[bh];exact dg (fX ..) (by simp)
theorem aao{resp:List Int}{t i:Nat}: ∀ x∈yS resp t i,0<=x/\x<i:=by
 intro x hx;obtain⟨k,hk,rfl⟩:=bA.1 hx;have:=cL.1 (eA.1 hk).1;omega
def Np(resp need:List Int)(i:Nat):Bool:=(List.range i).any fun t=>decide (0<need.getD t 0)&& !(Jv resp t)
theorem Ut{resp need:List Int}{i:Nat}:Np resp need (i+1)=(Np resp need i||(decide (0<need.getD i 0)&& !(Jv resp i))):=by
 unfold Np;rw[ce,dz]; simp
theorem W9{resp need:List Int}:Np resp need need.length=wM resp need:=rfl
theorem aap{resp need:List Int}{i:Nat}(hi:i<need.length)(h:(decide (0<need.getD i 0)&& !(Jv resp i))=true):wM resp need=true:=by
 unfold wM;rw[di];exact⟨i,cL.2 hi,h⟩
def Jm(c xs ks:List Int)(i:Nat):List Int:=qy c (xs.take i) (ks.take i)
theorem acQ: ∀ {xs ks:List Int} {c:List Int} {x k:Int},xs.length=ks.length->qy c (xs++[x]) (ks++[k])=aZ (qy c xs ks) x k:=by
 intro xs;induction xs with
 |nil=>intro ks c x k h; cases ks with|nil=>rfl|cons _ _=>cases h
 |cons a xs ih =>
  intro ks c x k h;cases ks with
  |nil=>cases h
  |cons b ks=>exact ih (Nat.succ.inj h)
theorem aaq{c xs ks:List Int}{i:Nat}(h1:i<xs.length)(h2:i<ks.length):Jm c xs ks (i+1)=aZ (Jm c xs ks i) (xs.getD i 0) (ks.getD i 0):=by
 unfold Jm;rw[bq h1,bq h2,acQ (by simp; omega),getD_some h1,getD_some h2]
theorem acR{c xs ks:List Int}(h:xs.length=ks.length):Jm c xs ks ks.length=qy c xs ks:=by
 unfold Jm;rw[<- h,cB,h,cB]
theorem acS{c xs ks:List Int}{i:Nat}:(Jm c xs ks i).length=c.length:=Uk
def Fg(O S:List (List Int))(xs:List Int)(i j:Nat):List (List Int):=((O.take i).flatMap fun c=>S.map fun s=>qy c xs s)++(S.take j).map fun s=>qy (O.getD i []) xs s
theorem Q9{O S:List (List Int)}{xs:List Int}{i j:Nat}(hi:i<=O.length)(hj:j<=S.length):(Fg O S xs i j).length=i*S.length+j:=by
 have: ∀ L:List (List Int),(L.flatMap fun c=>S.map fun s=>qy c xs s).length=L.length*S.length:=by
  intro L;induction L with
  |nil=>simp
  |cons c L ih=>rw[en,aL,ih,bh,bN,eL,f5]
 unfold Fg;rw[aL,this,bh,bL,bL,ep hi,ep hj]
theorem acT{O S:List (List Int)}{xs:List Int}{i j:Nat}(hj:j<S.length):Fg O S xs i (j+1)=Fg O S xs i j++[qy (O.getD i []) xs (S.getD j [])]:=by
 unfold Fg;rw[bq hj,cx,<- ax,getD_some hj]; rfl
theorem acU{O S:List (List Int)}{xs:List Int}{i:Nat}(hi:i<O.length):Fg O S xs (i+1) 0=Fg O S xs i S.length:=by
 unfold Fg;rw[bq hi,dc,cB,getD_some hi];simp
theorem afi{O S:List (List Int)}{xs:List Int}:Fg O S xs O.length 0=O.flatMap fun c=>S.map fun s=>qy c xs s:=by
 unfold Fg;rw[cB]; simp
theorem Yj{resp need b:List Int}(hb:b.length=resp.length)(_hn:need.length=resp.length)(h0: ∀ i,0<=need.getD i 0){n:Nat}(h:n<=need.length): ∀ c∈qA resp need [b] n,c.length=resp.length:=(afb hb h h0).len
theorem ak.Ov{b:Bool}{k:Nat}{h:Hz}:ak (.bU [.row 0 false (.dV []),.bool b]) (.bU [.row k true .nil,.bool b]) h:=⟨by
  show T.sub _ _ (.bU [.sl 0 false [],(V.bool b).aI]) (.bU [.sl k true [],(V.bool b).aI]);simp only[T.sub,T.dG]
  exact⟨⟨.inl trivial,.inr trivial,fun h=>by cases h⟩,aG _,trivial⟩⟩
def oZ(need:List Int):List (List Int):=[List.replicate need.length 0]
theorem Uu{c:List Int}{i d B M:Int}(hc: ∀ j,0<=c.getD j 0/\c.getD j 0<=B)(hd:0<=d/\d<=M)(j:Nat):0<=(aZ c i d).getD j 0/\(aZ c i d).getD j 0<=B+M:=by
 have:=hc j;rw[BH];split<;>omega
theorem Uw: ∀ {xs ks c:List Int} {B M:Int},(∀ j,0<=c.getD j 0/\c.getD j 0<=B)->(∀ k∈ks,0<=k/\k<=M)->0<=M-> ∀ j,0<=(qy c xs ks).getD j 0/\(qy c xs ks).getD j 0<=B+xs.length*M:=by
 intro xs;induction xs with
 |nil=>intro ks c B M hc _ _ j; have:=hc j; simp only[qy,bw]; omega
 |cons x xs ih =>
  intro ks c B M hc hk hM j;have hm:(0:Int)<=(xs.length:Int)*M:=Int.mul_nonneg (by omega) hM;have e:(((x::xs).length:Nat):Int)*M=M+(xs.length:Int)*M:=by rw[bN,Int.natCast_add,Int.add_mul]; simp only[Int.natCast_one,Int.one_mul]; omega
  cases ks with
  |nil=>have:=hc j; rw[e]; simp only[qy]; omega
  |cons k ks =>
   have:=ih (c:=aZ c x k) (B:=B+M) (ks:=ks) (Uu hc (hk k (by simp))) (fun y hy=>hk y (ej _ hy)) hM j;rw[e];simp only[qy];omega
theorem Yk: ∀ {l:List Int} {x:Int},(∀ y∈l,0<=y)->x∈l->x<=l.sum:=by
 intro l;induction l with
 |nil=>intro x _ h; cases h
 |cons a l ih =>
  intro x h0 hx;have ha:=h0 a (by simp);have hl: ∀ y∈l,0<=y:=fun y hy=>h0 y (ej _ hy)
  have hs:0<=l.sum:=by
   cases l with
   |nil=>simp
   |cons b l=>exact Int.le_trans (hl b (by simp)) (ih hl (by simp))
  rw[fI];rcases bm.1 hx with rfl|hx
  ·omega
  ·have:=ih hl hx; omega
theorem Yl{resp need:List Int}(h0:OG need)(hl:resp.length<=6): ∀ t:Nat,∀ c∈qA resp need (oZ need) t,∀ j,0<=c.getD j 0/\c.getD j 0<=(t:Int)*6291456:=by
 intro t;induction t with
 |zero =>
  intro c hc j
  have:c=List.replicate need.length 0:=by simpa [qA,oZ] using hc
  subst this;rw[ag,List.getElem?_replicate];split<;>simp
 |succ t ih =>
  intro c hc j;rw[Ey] at hc;unfold JW at hc;cases hz:(need.getD t 0==0) with
  |true =>
   rw[hz] at hc;have:=ih c hc j;omega
  |false =>
   rw[hz,bB,ck] at hc;obtain⟨b,hb,hc⟩:=hc;rw[Ew,bA] at hc;obtain⟨s,hs,rfl⟩:=hc;have hm:=wO h0 t;obtain⟨hs1,hs2⟩:=QY hs;have hx:(oW resp t).length<=6:=dg (PW (resp:=resp) (t:=t) (i:=resp.length)) hl;have:=Uw (xs:=oW resp t) (ks:=s) (M:=1048576) (ih b hb) (fun k hk=>⟨hs2 k hk,by have:=Yk hs2 hk; rw[hs1] at this; omega⟩) (by decide) j
   have:((oW resp t).length:Int)*1048576<=6*1048576:=eZ (by omega) (by decide)
   omega
def BX(resp need:List Int):Bool:= !(wM resp need)&&decide ((qA resp need (oZ need) need.length).length<=100)
abbrev JX(O:List (List Int))(xs:List Int)(k:Nat):List (Nat×OV):=[(9,.row 24 0 (.dV O) []),(10,jI xs),(11,zh k)]
theorem kL{ρ:Nat->Nat}{nx pn:Nat}{h:Hz}{c n:Nat}{o:OV}{l:List (Nat×OV)}{s:List Nat}(h1:Nat.blt c nx=true)(h2:Nat.blt c pn=true->n=c)(h3:oI n s=true)(h4:o.good nx=true)(h5: ∃ o',h.get n=some o'/\o'.ay.ty=o.ay.ty/\o'.ay.k=o.ay.k/\dH (T.bQ ρ o.ay.l) o'.ay.l)(h6:okR ρ nx pn h l s):okR ρ nx pn h ((c,o)::l) (n::s):=⟨⟨h1,h2,h3,h4,h5⟩,h6⟩
set_option maxHeartbeats 4000000 in
theorem S.qO(resp need:List Int)(f g:Bool)(hn:need.length=resp.length)(hn0:0<need.length)(hn6:need.length<=6)(h0:OG need)(_hp:xJ need.length resp) :
  (BX resp need=true->DI Tryz.prog 156 [.row 0 f (.ints resp),.row 0 g (.ints need)] (fun n=>.bU [.own n,.bool true]) 24 ((qA resp need (oZ need) need.length).map jI)) /\
  (BX resp need=false->aj Tryz.prog 156 [.row 0 f (.ints resp),.row 0 g (.ints need)] (.bU [.row 0 false (.dV []),.bool (wM resp need)])):=by
 have hpos: ∀ i,0<=need.getD i 0:=fun i=>(wO h0 i).1
 refine ahk.of (BX resp need) Bd.qO (by simp) rfl (acO true) KL rfl ?_;refine aF.objs 0 [24,25,0,1] (fun i:Nat=>[(26,.int i)]) (fun _=>[]) (fun i=>i<=need.length/\Np resp need i=false) (fun i=>need.length-i) 0 [] rfl (by decide) (fun _=>rfl) ⟨ap _,rfl⟩ (sR rfl) trivial ?_;refine⟨(sR rfl),rfl,?_⟩;rintro i ⟨hi,hs⟩;refine⟨fun h1=>?_,fun h1=>?_⟩
 ·have hi':i<need.length:=by simpa using h1
  repeat(refine VC.mk (by first|exact fun h=>⟨h,h⟩|(simp only[Rw.rng] at *; omega)) ?_)
  refine ah.eY (fun _=>S.slices_Contains_int resp i f (by omega)) rfl ?_;repeat(refine VC.mk id ?_)
  refine⟨fun h2=>?_,fun h2=>?_⟩
  ·replace h2:(decide (0<need.getD i 0)&& !(Jv resp i))=true:=h2;have hS:=aap hi' h2;conv=>whnf
   rw[show BX resp need=false by unfold BX; rw[hS]; rfl,hS];exact⟨nofun,fun _=>ak.Ov⟩
  ·replace h2:(decide (0<need.getD i 0)&& !(Jv resp i))=false:=h2;refine .mk (by simp only[okI] at *; omega) ?_;exact⟨i+1,[],⟨hi',by rw[Ut,hs,h2]; rfl⟩,by omega,(sR rfl),(sR rfl),trivial⟩
 ·have hi':i=need.length:=by have:=aR h1; omega
  subst hi';rw[W9] at hs;conv=>whnf
  rw[CJ hn0];refine .mk (by omega) ?_;conv=>whnf
  have hz:(oZ need).length=1:=rfl;have aiH: ∀ t,need.getD t 0≠0->oW resp t≠[]:=WX hs hpos;refine aF.fam 20000 [44,45,0] (fun t:Nat=>[(46,.int t),(8,.own 9)]) (fun t=>uG [(9,zh (qA resp need (oZ need) t).length)]++iY 10000 (fR (qA resp need (oZ need) t))) (fun t=>t<=need.length/\(qA resp need (oZ need) t).length<=100) (fun t=>need.length-t) 0 (nS 10000 (fun _=>3) (fZ [(9,zh 1)] [4])) _ rfl (by decide) (fun _=>rfl) ⟨ap _,by show 1<=100; decide⟩ (sR rfl) (.inl rfl) ?_ ?_
  ·refine kH.fam (g:=fun _=>3) [(9,zh 1)] [4] ?_ rfl (ap _) (show 10000+1<=20000 by decide) (fun j o q=>?_) (fun j j' o o' q q' _=>?_)
   ·exact kL rfl nofun rfl (dF (by decide)) ⟨_,rfl,rfl,rfl,.refl _⟩ trivial
   ·match j,q with
    |0,q=>cases q; exact⟨rfl,rfl,⟨_,rfl,rfl⟩,rfl⟩
    |j+1,q=>cases q
   ·match j,j',q,q' with
    |0,0,_,_=>rfl
    |j+1,_,q,_=>cases q
    |0,j+1,_,q=>cases q
  refine⟨(sR rfl),rfl,?_⟩;clear h1 hi;rintro t ⟨ht,hL⟩;have hlen: ∀ c∈qA resp need (oZ need) t,c.length=resp.length:=Yj (by simp[hn]) hn hpos ht;have abm:=Yl h0 (by omega:resp.length<=6) t;have hne:(qA resp need (oZ need) t)≠[]:=by
   have:=Um (resp:=resp) (need:=need) (out:=oZ need) aiH (n:=0) t;rw[fx] at this;intro h;rw[h] at this;exact absurd this (by show ¬ 1<=0; decide)
  have hnx:qA resp need (oZ need) (t+1)=JW resp need (qA resp need (oZ need) t) t:=Ey;have hbig: ∀ u,u<=need.length->100<(qA resp need (oZ need) u).length->BX resp need=false:=fun u hu hb=>by
   have:=afh aiH hu hb;unfold BX;rw[cH (by omega),Bool.and_false]
  generalize hO:qA resp need (oZ need) t=OUT at hL hlen hne hnx abm;refine⟨fun h1=>?_,fun h1=>?_⟩
  ·have ht':t<need.length:=by simpa using h1
   refine .mk (by simp only[Rw.rng] at *; omega) ?_;refine⟨fun h2=>?_,fun h2=>?_⟩
   ·replace h2:(need.getD t 0==0)=true:=h2;have hsame:qA resp need (oZ need) (t+1)=OUT:=by rw[hnx]; unfold JW; rw[h2]; rfl
    refine .mk (by simp only[okI] at *; omega) ?_;refine tZ.H7 20000 (t+1) (fR OUT) [(9,zh OUT.length)] [9] (by rw[hsame]) ⟨ht',by rw[hsame]; exact hL⟩ (by omega) ?_ rfl rfl (ap _) (by rw[iC]; omega) (by decide) jl (sR rfl) (sR rfl) ?_
    (repeat' (first|refine dB.lo rfl ?_|refine dB.hi rfl ?_|exact dB.nil))
    ·exact kL rfl nofun rfl (dF (by omega)) ⟨_,rfl,rfl,rfl,jQ⟩ trivial
   ·replace h2:(need.getD t 0==0)=false:=h2;refine aF.nil 11 3 0 (by rfl) rfl rfl rfl ?_;refine aF.fam 20000 [53,54,9,10,8,46,44,45,0] (fun i:Nat=>[(55,.int i),(11,.own 10)]) (fun i=>uG [(9,zh OUT.length),(10,jI (yS resp t i))]++iY 10000 (fR OUT)) (fun i=>i<=resp.length) (fun i=>resp.length-i) 0 (nS 10000 (fun j=>10000+j) (fZ [(9,zh OUT.length),(10,jI [])] [9,20012])) _ rfl (by decide) (fun _=>rfl) (ap _) (sR rfl) (.inl rfl) ?_ ?_
    ·refine kH.Ya 20000 [(9,zh OUT.length),(10,jI [])] [9,20012] ?_ rfl rfl (ap _) (by rw[iC]; omega) (by decide) jl ?_
     (repeat' (first|refine dB.lo rfl ?_|refine dB.hi rfl ?_|exact dB.nil))
     ·exact kL rfl nofun rfl (dF (by omega)) ⟨_,rfl,rfl,rfl,jQ⟩ (kL rfl nofun rfl rfl ⟨_,rfl,rfl,rfl,.refl _⟩ trivial)
    refine⟨(sR rfl),rfl,?_⟩;rintro i hi;have hfl:=PW (resp:=resp) (t:=t) (i:=i);refine⟨fun h3=>?_,fun h3=>?_⟩
    ·have hi':i<resp.length:=by simpa using h3
     refine .mk (by simp only[Rw.rng] at *; omega) ?_;refine⟨fun h4=>?_,fun h4=>?_⟩
     ·replace h4:(resp.getD i 0==(t:Int))=true:=h4;have hf:yS resp t (i+1)=yS resp t i++[(i:Int)]:=by rw[Nl,h4]; rfl
      repeat(refine VC.mk (by first|(simp only[mD,mV,Rw.len,bN,bw]; omega)|(simp only[okI] at *; omega)) ?_)
      refine tZ.H7 20000 (i+1) (fR OUT) [(9,zh OUT.length),(10,jI (yS resp t (i+1)))] [9,20012] rfl hi' (by omega) ?_ rfl rfl (ap _) (by rw[iC]; omega) (by decide) jl (sR rfl) (sR rfl) ?_
      (repeat' (first|refine dB.lo rfl ?_|refine dB.hi rfl ?_|exact dB.nil))
      ·exact kL rfl nofun rfl (dF (by omega)) ⟨_,rfl,rfl,rfl,jQ⟩ (kL rfl nofun rfl rfl ⟨_,rfl,rfl,rfl,by rw[hf,OV.dR rfl]; exact .refl _⟩ trivial)
     ·replace h4:(resp.getD i 0==(t:Int))=false:=h4;have hf:yS resp t (i+1)=yS resp t i:=by rw[Nl,h4]; rfl
      refine .mk (by simp only[okI] at *; omega) ?_;refine tZ.H7 20000 (i+1) (fR OUT) [(9,zh OUT.length),(10,jI (yS resp t (i+1)))] [9,10] rfl hi' (by omega) ?_ rfl rfl (ap _) (by rw[iC]; omega) (by decide) jl (sR rfl) (sR rfl) ?_
      (repeat' (first|refine dB.lo rfl ?_|refine dB.hi rfl ?_|exact dB.nil))
      ·exact kL rfl nofun rfl (dF (by omega)) ⟨_,rfl,rfl,rfl,jQ⟩ (kL rfl nofun rfl rfl ⟨_,rfl,rfl,rfl,by rw[hf,OV.dR rfl]; exact .refl _⟩ trivial)
    ·have hi':i=resp.length:=by have:=aR h3; omega
     subst hi';have hFr:yS resp t resp.length=oW resp t:=rfl;rw[hFr] at hfl ⊢;have hrg: ∀ x∈oW resp t,0<=x/\x<resp.length:=fun x hx=>aao x (hFr▸hx)
     have hm:=wO h0 t;have hm0:need.getD t 0≠0:=by simpa using h2
     generalize hX:oW resp t=XS at hfl hrg;obtain⟨m,hm'⟩: ∃ m:Nat,need.getD t 0=(m:Int):=⟨(need.getD t 0).toNat,by omega⟩
     have hmT:(need.getD t 0).toNat=m:=by omega
     have htl:=afe (resp:=resp) (out:=OUT) hm0;rw[hX,hmT,<- hnx] at htl;conv=>whnf
     rw[show need.getD ((t:Int)).toNat 0=(m:Int) from hm'];refine ah.pure (S.mP XS.length m (by omega) (by omega)) Jl ?_;by_cases hd:(kK XS.length m).length<=100
     ·rw[AA hd];have hmul:OUT.length*(kK XS.length m).length<=100*100:=eT hL hd;repeat(refine VC.mk (by first|(intro _; refine⟨rfl,rfl,?_⟩; show okI (((sJ 10000 OUT.length).length:Int)*((kK XS.length m).length:Int)); rw[oV,<- gO]; simp only[okI]; omega)|exact fun h=>h|(intro h; rw[h]; rfl)) ?_)
      refine⟨fun h4=>?_,fun h4=>?_⟩
      ·have hf:100<OUT.length*(kK XS.length m).length:=by
        replace h4:decide (100<((sJ 10000 OUT.length).length:Int)*((kK XS.length m).length:Int))=true:=h4;have:=aq h4;rw[oV,<- gO] at this;omega
       have hno:=hbig (t+1) ht' (by rw[htl]; exact hf);rw[hno,hs];exact⟨nofun,fun _=>ak.Ov⟩
      ·have hf:OUT.length*(kK XS.length m).length<=100:=by
        replace h4:decide (100<((sJ 10000 OUT.length).length:Int)*((kK XS.length m).length:Int))=false:=h4;have:=aR h4;rw[oV,<- gO] at this;omega
       have hsl: ∀ x∈kK XS.length m,x.length=XS.length/\(x.sum=m/\ ∀ y∈x,0<=y):=fun x hx=>⟨Ic hx,QY hx⟩
       have hfin:(OUT.flatMap fun c=>(kK XS.length m).map fun x=>qy c XS x)=qA resp need (oZ need) (t+1):=by
        rw[hnx];unfold JW;rw[h2,hX,hmT];show _=OUT.flatMap _
        congr 1
        funext c;rw[Ew]
       generalize hS:kK XS.length m=SH at hf hsl hd hfin;refine aF.nil 16 24 0 (by rfl) rfl rfl rfl ?_;refine aF.fam 20000 [85,86,14,11,46,44,45,0] (fun i:Nat=>[(87,.int i),(16,.own 11)]) (fun i=>uG (JX OUT XS (Fg OUT SH XS i 0).length)++iY 10000 (fR (Fg OUT SH XS i 0))) (fun i=>i<=OUT.length) (fun i=>OUT.length-i) 0 (nS 10000 (fun j=>10000+j) (fZ (JX OUT XS 0) [9,10,20024])) [(9,some (.row 24 0 (.dV OUT) [])),(10,some (jI XS)),(20024,some (.row 24 0 .nil []))] rfl (by decide) (fun _=>rfl) (ap _) (sR rfl) (.inr ⟨fun c=>10000<=c/\c<20000,aan (R:=OUT) 20000 rfl (show ¬ (10000<=9/\9<20000) by omega) (fun j hj=>show 10000<=10000+j/\10000+j<20000 by omega) ?_ (by omega) (ED rfl (show ¬ (10000<=10/\10<20000) by omega) (ED rfl (show ¬ (10000<=20024/\20024<20000) by omega) trivial))⟩) ?_ ?_
       (repeat' (first|refine dB.lo rfl ?_|refine dB.hi rfl ?_|exact dB.nil))
       ·refine kH.fam (g:=fun j=>10000+j) (JX OUT XS 0) [9,10,20024] ?_ rfl (ap _) (show 10000+0<=20000 by decide) (fun j o q=>by cases q) (fun j _ o _ q=>by cases q);exact kL rfl nofun rfl rfl ⟨_,rfl,rfl,rfl,by rw[OV.dR rfl]; exact .refl _⟩ (kL rfl nofun rfl rfl ⟨_,rfl,rfl,rfl,by rw[OV.dR rfl]; exact .refl _⟩ (kL rfl nofun rfl rfl ⟨_,rfl,rfl,rfl,.refl _⟩ trivial))
       refine⟨(sR rfl),rfl,?_⟩;clear hi;rintro i hi;have hN0:=Q9 (xs:=XS) hi (ap SH.length);have ahp: ∀ i j,i<OUT.length->j<=SH.length->i*SH.length+j<=100:=fun i j h1 h2=>by
        have:=cn SH.length h1;rw[eL] at this;omega
       have hN0':i*SH.length<=100:=dg (cn _ hi) hf;refine⟨fun h5=>?_,fun h5=>?_⟩
       ·have hi':i<OUT.length:=by simpa using h5
        have hmem:OUT.getD ((i:Int)).toNat []∈OUT:=by show OUT.getD i []∈OUT; rw[getD_some hi']; exact bR hi'
        have hb:=hlen _ hmem;have hbb:=abm _ hmem;repeat(refine VC.mk (by simp only[Rw.rng] at *; omega) ?_)
        refine aF.fam 20000 [91,92,18,11,87,85,86,14,46,44,45,0] (fun j:Nat=>[(93,.int j),(16,.own 11)]) (fun j=>uG (JX OUT XS (Fg OUT SH XS i j).length)++iY 10000 (fR (Fg OUT SH XS i j))) (fun j=>j<=SH.length) (fun j=>SH.length-j) 0 (nS 10000 (fun j=>10000+j) (fZ (JX OUT XS (Fg OUT SH XS i 0).length) [9,10,11])) _ rfl (by decide) (fun _=>rfl) (ap _) (sR rfl) (.inl rfl) ?_ ?_
        ·refine kH.Ya 20000 (JX OUT XS (Fg OUT SH XS i 0).length) [9,10,11] ?_ rfl rfl (ap _) (by rw[iC]; omega) (by decide) jl ?_
         (repeat' (first|refine dB.lo rfl ?_|refine dB.hi rfl ?_|exact dB.nil))
         ·exact kL rfl nofun rfl rfl ⟨_,rfl,rfl,rfl,by rw[OV.dR rfl]; exact .refl _⟩ (kL rfl nofun rfl rfl ⟨_,rfl,rfl,rfl,by rw[OV.dR rfl]; exact .refl _⟩ (kL rfl nofun rfl (dF (by omega)) ⟨_,rfl,rfl,rfl,jQ⟩ trivial))
        refine⟨(sR rfl),rfl,?_⟩;rintro j hj;have hNj:=Q9 (xs:=XS) hi hj;have ajT:=ahp i j hi' hj;refine⟨fun h6=>?_,fun h6=>?_⟩
        ·have hj':j<SH.length:=by simpa using h6
         have hNs:Fg OUT SH XS i (j+1)=Fg OUT SH XS i j++[qy (OUT.getD ((i:Int)).toNat []) XS (SH.getD ((j:Int)).toNat [])]:=acT hj';have hN1:=Q9 (xs:=XS) hi hj';rw[hNs] at hN1;have ajU:=ahp i (j+1) hi' hj';obtain⟨hs1,hs2,hs3⟩:=hsl (SH.getD ((j:Int)).toNat []) (by show SH.getD j []∈SH; rw[getD_some hj']; exact bR hj');have hs4: ∀ k∈SH.getD ((j:Int)).toNat [],0<=k/\k<=1048576:=fun k hk=>⟨hs3 k hk,by have:=Yk hs3 hk; rw[hs2] at this; omega⟩
         repeat(refine VC.mk (by first|(simp only[mD,mV,Rw.len]; omega)|(simp only[Rw.rng] at *; omega)) ?_)
         generalize hbase:OUT.getD ((i:Int)).toNat []=base at hb hbb hNs hN1 ⊢;generalize ajV:SH.getD ((j:Int)).toNat []=shr at hs1 hs2 hs3 hs4 hNs hN1 ⊢;refine aF.fam 20000 [99,100,11,16,93,91,92,18,87,85,86,14,46,44,45,0] (fun x:Nat=>[(101,.int x),(21,.own 12)]) (fun x=>uG (JX OUT XS (Fg OUT SH XS i j).length++[(12,jI (Jm base XS shr x))])++iY 10000 (fR (Fg OUT SH XS i j))) (fun x=>x<=shr.length) (fun x=>shr.length-x) 0 (nS 10000 (fun j=>10000+j) (fZ (JX OUT XS (Fg OUT SH XS i j).length++[(12,jI (Jm base XS shr 0))]) [9,10,11,20005])) _ rfl (by decide) (fun _=>rfl) (ap _) (sR rfl) (.inl rfl) ?_ ?_
         ·refine kH.Ya 20000 (JX OUT XS (Fg OUT SH XS i j).length++[(12,jI (Jm base XS shr 0))]) [9,10,11,20005] ?_ rfl rfl (ap _) (by rw[iC]; omega) (by decide) jl ?_
          (repeat' (first|refine dB.lo rfl ?_|refine dB.hi rfl ?_|exact dB.nil))
          ·exact kL rfl nofun rfl rfl ⟨_,rfl,rfl,rfl,by rw[OV.dR rfl]; exact .refl _⟩ (kL rfl nofun rfl rfl ⟨_,rfl,rfl,rfl,by rw[OV.dR rfl]; exact .refl _⟩ (kL rfl nofun rfl (dF (by omega)) ⟨_,rfl,rfl,rfl,jQ⟩ (kL rfl nofun rfl rfl ⟨_,rfl,rfl,rfl,by rw[OV.dR rfl]; exact .refl _⟩ trivial)))
         refine⟨(sR rfl),rfl,?_⟩;rintro x hx;have hpl:=@acS base XS shr x;have hpb: ∀ k,0<=(Jm base XS shr x).getD k 0/\(Jm base XS shr x).getD k 0<=50000000:=fun k=>by
          have h1:=Uw (xs:=XS.take x) (ks:=shr.take x) (M:=1048576) hbb (fun k hk=>hs4 k (dj hk)) (by decide) k;have h2:((XS.take x).length:Int)*1048576<=6*1048576:=eZ (by rw[bL]; omega) (by decide);have h3:(t:Int)*6291456<=6*6291456:=eZ (by omega) (by decide);unfold Jm;omega
         refine⟨fun h7=>?_,fun h7=>?_⟩
         ·have hx':x<shr.length:=by simpa using h7
          have ajD:=aaq (c:=base) (xs:=XS) (ks:=shr) (i:=x) (by omega) hx';have hxr:=hrg (XS.getD x 0) (by rw[getD_some (by omega)]; exact bR _);have hxk:=hs4 (shr.getD x 0) (by rw[getD_some hx']; exact bR _);have hpx:=hpb (XS.getD ((x:Int)).toNat 0).toNat;replace hxr:0<=XS.getD ((x:Int)).toNat 0/\XS.getD ((x:Int)).toNat 0<resp.length:=hxr;replace hxk:0<=shr.getD ((x:Int)).toNat 0/\shr.getD ((x:Int)).toNat 0<=1048576:=hxk;repeat(refine VC.mk (by first|(simp only[Rw.rng]; omega)|(simp only[okI]; omega)) ?_)
          refine tZ.H7 20000 (x+1) (fR (Fg OUT SH XS i j)) (JX OUT XS (Fg OUT SH XS i j).length++[(12,jI (Jm base XS shr (x+1)))]) [9,10,11,12] rfl hx' (by omega) ?_ rfl rfl (ap _) (by rw[iC]; omega) (by decide) jl (sR rfl) (sR rfl) ?_
          (repeat' (first|refine dB.lo rfl ?_|refine dB.hi rfl ?_|exact dB.nil))
          ·exact kL rfl nofun rfl rfl ⟨_,rfl,rfl,rfl,by rw[OV.dR rfl]; exact .refl _⟩ (kL rfl nofun rfl rfl ⟨_,rfl,rfl,rfl,by rw[OV.dR rfl]; exact .refl _⟩ (kL rfl nofun rfl (dF (by omega)) ⟨_,rfl,rfl,rfl,jQ⟩ (kL rfl nofun rfl rfl ⟨_,rfl,rfl,rfl,by rw[ajD,OV.dR rfl]; exact .refl _⟩ trivial)))
         ·have hx':x=shr.length:=by have:=aR h7; omega
          subst hx';rw[acR hs1.symm] at hpl ⊢;repeat(refine VC.mk (by first|(show((sJ 10000 (Fg OUT SH XS i j).length).length+(0+1))*24<=140737488355328/\(sJ 10000 (Fg OUT SH XS i j).length).length+(0+1)<=1152921504606846976; rw[oV]; omega)|(simp only[okI] at *; omega)) ?_)
          refine tZ.acd 20000 (j+1) (Fg OUT SH XS i j).length 12 (fR (Fg OUT SH XS i j)) (fR (Fg OUT SH XS i j++[qy base XS shr])) (JX OUT XS ((Fg OUT SH XS i j).length+1)) [9,10,20004] (by rw[hNs,aL]; rfl) hj' (by omega) ?_ rfl rfl rfl (ap _) (by rw[iC]; omega) (by rw[iC]; omega) (by decide) jl ?_ (WZ rfl) (sR rfl) (sR rfl) ?_
          (repeat' (first|refine dB.lo rfl ?_|refine dB.hi rfl ?_|exact dB.nil))
          ·intro o ho;rw[QZ rfl] at ho;cases ho;exact⟨_,rfl,rfl⟩
          ·exact kL rfl nofun rfl rfl ⟨_,rfl,rfl,rfl,by rw[OV.dR rfl]; exact .refl _⟩ (kL rfl nofun rfl rfl ⟨_,rfl,rfl,rfl,by rw[OV.dR rfl]; exact .refl _⟩ (kL rfl nofun rfl (dF (by omega)) ⟨_,rfl,rfl,rfl,Jh⟩ trivial))
        ·have hj':j=SH.length:=by have:=aR h6; omega
         subst hj';have hst:=acU (S:=SH) (xs:=XS) hi';refine .mk (by simp only[okI] at *; omega) ?_;refine tZ.H7 20000 (i+1) (fR (Fg OUT SH XS i SH.length)) (JX OUT XS (Fg OUT SH XS i SH.length).length) [9,10,11] (by rw[hst]) hi' (by omega) ?_ rfl rfl (ap _) (by rw[iC]; omega) (by decide) jl (sR rfl) (sR rfl) ?_
         (repeat' (first|refine dB.lo rfl ?_|refine dB.hi rfl ?_|exact dB.nil))
         ·exact kL rfl nofun rfl rfl ⟨_,rfl,rfl,rfl,by rw[OV.dR rfl]; exact .refl _⟩ (kL rfl nofun rfl rfl ⟨_,rfl,rfl,rfl,by rw[OV.dR rfl]; exact .refl _⟩ (kL rfl nofun rfl (dF (by omega)) ⟨_,rfl,rfl,rfl,jQ⟩ trivial))
       ·have hi':i=OUT.length:=by have:=aR h5; rw[oV] at this; omega
        subst hi';rw[afi,hfin] at hN0 ⊢;refine .mk (by simp only[okI] at *; omega) ?_;refine tZ.H7 20000 (t+1) (fR (qA resp need (oZ need) (t+1))) [(9,zh (qA resp need (oZ need) (t+1)).length)] [11] rfl ⟨ht',by omega⟩ (by omega) ?_ rfl rfl (ap _) (by rw[iC]; omega) (by decide) jl (sR rfl) (sR rfl) ?_
        (repeat' (first|refine dB.lo rfl ?_|refine dB.hi rfl ?_|exact dB.nil))
        ·exact kL rfl nofun rfl (dF (by omega)) ⟨_,rfl,rfl,rfl,jQ⟩ trivial
     ·have hnone:divO XS.length m=none:=by unfold divO; rw[av hd]
      rw[EC hnone]
      have hno:=hbig (t+1) ht' (by
       rw[htl]
       have:0<OUT.length:=List.length_pos_iff.2 hne
       exact cR (by omega:100<(kK XS.length m).length) (Nat.le_mul_of_pos_left _ this))
      rw[hno,hs];repeat(refine VC.mk (by first|exact id|(intro h; rw[h]; rfl)|(intro h; simp_all; done)) ?_)
      refine Fork.mk (fun _=>?_) (fun q=>absurd (q.symm.trans (rfl)) aM);exact⟨nofun,fun _=>ak.Ov⟩
  ·have ht':t=need.length:=by have:=aR h1; omega
   subst ht';have hok:BX resp need=true:=by unfold BX; rw[hs,hO,cY hL]; rfl
   rw[hok,hO];refine⟨fun _=>QU.fam 20000 rfl (by decide) ?_ (by omega),nofun⟩
   (repeat' (first|refine dB.lo rfl ?_|refine dB.hi rfl ?_|exact dB.nil))
theorem PD.fR(C k:Nat){j:Nat}{R:List (List Int)}{h:Hz}{K:Nat->Rw->Prop}(e:h.drop k=iY 10000 (fR R))(ho:yQ 10000 C (h.take k)=true)(hC:10000+R.length<=C)(hj:j<R.length)(hK:K 0 (.ints (R.getD j []))):PD h (10000+j) K :=
 PD.fam C (show EL (h.take k) _ h from by rw[EL,<- e,bx]) ho (by rw[iC]; exact hC) (Nj hj) hK
theorem ahq{R:List (List Int)}{j:Nat}{r:List Int}:(fR R).set j (some (jI r))=fR (R.set j r):=(List.map_set ..).symm
theorem Ou.fR(C k:Nat){j x:Nat}{R:List (List Int)}{v:V}{h:Hz}{K:Hz->Prop}(r':List Int)(e:h.drop k=iY 10000 (fR R))(ho:yQ 10000 C (h.take k)=true)(hC:10000+R.length<=C)(hj:j<R.length)(hr:x<(R.getD j []).length)(hs:(Rw.ints (R.getD j [])).set x v=some (.ints r'))
  (hK:K (h.take k++iY 10000 (fR (R.set j r')))):Ou h (10000+j) x 0 v K :=
 Ou.fam C (show EL (h.take k) _ h from by rw[EL,<- e,bx]) ho (by rw[iC]; exact hC) (Nj hj) hs (by show 0<=(x:Int)/\(x:Int)<_; omega) (by rw[ahq]; exact hK)
theorem Ym{B k:Nat}{f:Nat->Nat}:dH (T.bQ (nS 10000 (fun j=>B+j) f) (zh k).ay.l) (DF 24 B k).ay.l:=by
 refine dH.of_eq ?_;show T.bQ _ (V.aQ (sJ 10000 k))=V.aQ (sJ B k);rw[lN,lN,Jg,cp];refine cK fun j _=>?_
 show T.own (nS 10000 (fun j=>B+j) f (10000+j))=T.own (B+j);rw[wX]
theorem Yn{n j:Nat}{x:Option OV}{L:List (Option OV)}{h:Hz}(hj:j<L.length):Hz.get (n+1+j) ((n,x)::(iY (n+1) L++h))=(L[j]?).join:=by
 simp only[Hz.get];have hne:Nat.beq n (n+1+j)=false:=by
  cases e:Nat.beq n (n+1+j) with
  |false=>rfl
  |true=>have:=fA e; omega
 rw[hne,bB,WS hj]
theorem acV{a x y:Nat}(h1:a≠x)(h2:a≠y):oI a [x,y]=true:=by
 have e: ∀ z,a≠z->Nat.beq a z=false:=fun z h=>by
  cases e:Nat.beq a z with
  |false=>rfl
  |true=>exact absurd (fA e) h
 simp only[oI,e x h1,e y h2]; rfl
def zi(R:List (List Int))(f:Int)(i:Nat):List (List Int):=(R.take i).map (fun l=>aZ l f 1)++R.drop i
theorem wu{R:List (List Int)}{f:Int}{i:Nat}(h:i<=R.length):(zi R f i).length=R.length:=by
 unfold zi;rw[aL,bh,bL,bv]; omega
theorem Ie{R:List (List Int)}{f:Int}{i:Nat}(h:i<R.length):(zi R f i).getD i []=R.getD i []:=by
 unfold zi;rw[ag,ci (by rw[bh,bL]; omega),bh,bL,ep (by omega),fe,cQ,fy,<- ag]
theorem Ig{R:List (List Int)}{f:Int}{i:Nat}(h:i<R.length):zi R f (i+1)=(zi R f i).set i (aZ (R.getD i []) f 1):=by
 unfold zi;rw[bq h,cx,f9 _ _ (by rw[bh,bL]; omega),bh,bL,ep (by omega),fe,eE h,eO,getD_some h,ax]; rfl
theorem Ih{R:List (List Int)}{f:Int}:zi R f R.length=R.map fun l=>aZ l f 1:=by
 unfold zi;rw[cB,List.drop_length,cT]
theorem xH{R:List (List Int)}{f:Int}:zi R f 0=R:=rfl
theorem Ux{n:Nat}{x:Option OV}{L:List (Option OV)}{i:Nat}{o:OV}{h:Hz}(hi:i<n)(e:h.get i=some o:=by rfl):Hz.get i ((n,x)::(iY (n+1) L++h))=some o:=by
 simp only[Hz.get];have hne:Nat.beq n i=false:=by
  cases e:Nat.beq n i with
  |false=>rfl
  |true=>have:=fA e; omega
 rw[hne,bB,QT (.inl (by omega)),e]
def Nq(r:Rule)(c:List Int):V:=bif decide ((zH r c).length<=100) then .bU [.row 0 false (.dV (zH r c)),.bool true] else .bU [.row 0 false (.dV []),.bool false]
theorem PX{r:Rule}{c:List Int}:(Nq r c).free=true:=by unfold Nq; cases decide ((zH r c).length<=100)<;>rfl
theorem BI{r:Rule}{c:List Int}:Fe r c=(bif r.kind==1 then(bif qU r (mg c r.to) then [mg c r.to] else r.ex.map fun x=>aZ (mg c r.to) x 1) else
  bif r.kind==2 then [aZ (mg (mg c r.to) r.y7) r.dZ 1] else
  bif r.kind==3 then(bif wM r.response (mg c r.to) then [] else qA r.response (mg c r.to) (oZ (mg c r.to)) (mg c r.to).length) else [mg c r.to]):=rfl
theorem yT{c:List Int}{i:Int}(h:OG c):OG (mg c i):=by
 intro x hx;rcases fb hx with h1|h1
 ·exact h x h1
 ·have:=wO h i.toNat; omega
theorem Nr{r:Rule}{c:List Int}(hp:AX c.length r)(h0:OG c)(hl:c.length<=6): ∀ l∈Fe r c,l.length=c.length/\ ∀ j,0<=l.getD j 0/\l.getD j 0<=50000000:=by
 have hd:OG (mg c r.to):=yT h0;have hone: ∀ (d:List Int) (x:Int),OG d-> ∀ j,0<=(aZ d x 1).getD j 0/\(aZ d x 1).getD j 0<=50000000:=fun d x h j=>by
  have:=Uu (B:=1048576) (M:=1) (i:=x) (d:=1) (wO h) (by omega) j;omega
 intro l hl';rw[BI] at hl';cases h1:(r.kind==1) with
 |true =>
  rw[h1,bS] at hl';cases ha:qU r (mg c r.to) with
  |true =>
   rw[ha,bS,bt] at hl';subst hl';exact⟨jR,fun j=>by have:=wO hd j; omega⟩
  |false =>
   rw[ha,bB,bA] at hl';obtain⟨x,_,rfl⟩:=hl';exact⟨by rw[uZ,jR],hone _ x hd⟩
 |false =>
  rw[h1,bB] at hl';cases h2:(r.kind==2) with
  |true =>
   rw[h2,bS,bt] at hl';subst hl';exact⟨by rw[uZ,jR,jR],hone _ _ (yT hd)⟩
  |false =>
   rw[h2,bB] at hl';cases h3:(r.kind==3) with
   |true =>
    obtain⟨acW,aiI⟩:=hp.rsp (by simpa using h3);rw[h3,bS] at hl';cases hs:wM r.response (mg c r.to) with
    |true=>rw[hs,bS] at hl'; cases hl'
    |false =>
     rw[hs,bB] at hl';have h1:=Yj (b:=List.replicate (mg c r.to).length 0) (by simp[jR,acW]) (by rw[jR,acW]) (fun i=>(wO hd i).1) (bO _) l hl';refine⟨by rw[h1,acW],fun j=>?_⟩;have:=Yl hd (by omega) _ l hl' j;rw[jR] at this
     have:(c.length:Int)*6291456<=6*6291456:=eZ (by omega) (by decide)
     omega
   |false =>
    rw[h3,bB,bt] at hl';subst hl';exact⟨jR,fun j=>by have:=wO hd j; omega⟩
abbrev Cm(r:Rule):OV:=.box 59 19 (.dat (.rule r))
set_option maxHeartbeats 4000000 in
theorem S.jT(r:Rule)(c:List Int)(f:Bool)(hr:sN r)(hp:AX c.length r)(h0:OG c)(hl0:0<c.length)(hl:c.length<=6)(hx:r.ex.length<=100)(hk:r.kind=1\/r.kind=2\/r.kind=3):aj Tryz.prog 133 [.dat (.rule r),.row 0 f (.ints c)] (Nq r c):=by
 have hfree:=@PX r c;have hsm:=Nr hp h0 hl;have hB:zH r c=(Fe r c).map fun l=>aZ l r.fr 1:=rfl
 obtain⟨q1,q2⟩:=hp.dst;obtain⟨q3,q4⟩:=hp.adT;obtain⟨q5,q6⟩:=hp.YI;obtain⟨q7,q8⟩:=hp.src;have hc0:=wO h0;generalize hv:Nq r c=res;rw[hv] at hfree;refine aj.ofF Bd.jT rfl (by simp) rfl hfree ?_;have hdt:=hc0 r.to.toNat;repeat(refine VC.mk (by first|(simp only[Rw.rng]; omega)|(simp only[okI]; omega)|(simp only[mD,mV,Rw.len]; omega)) ?_)
 refine⟨fun h1=>?_,fun h1=>?_⟩
 ·have hk1:r.kind=1:=by simpa using h1
  conv=>whnf
  cases ha:qU r (mg c r.to) with
  |true =>
   obtain⟨RS,DU⟩: ∃ RS,RS=[mg c r.to]:=⟨_,rfl⟩
   have hlen:RS.length=1:=by rw[DU]; rfl
   have hcR:Fe r c=RS:=by rw[DU,BI,show(r.kind==1)=true by rw[hk1]; rfl,ha]; rfl
   have Ns:RS.length<=100:=by omega
   have hRS: ∀ l∈RS,l.length=c.length/\ ∀ j,0<=l.getD j 0/\l.getD j 0<=50000000:=fun l hl'=>hsm l (by rw[hcR]; exact hl')
   have hres:V.bU [.row 0 false (.dV (RS.map fun l=>aZ l r.fr 1)),.bool true]=res:=by
    rw[<- hv]; unfold Nq; rw[hB,hcR,cY (by rw[bh]; exact Ns)]; rfl
   refine ah.WM [4] (S.Q7 r (mg c r.to) hr (by rw[jR]; omega) ha) rfl rfl rfl rfl rfl ⟨⟨_,rfl,wo rfl _⟩,trivial⟩ rfl (by decide) ?_;rintro t hp' ⟨rfl,rfl⟩;refine⟨.own 27,[some (jI (mg c r.to)),some (.gen 24 0 [.inn 4])],rfl,rfl,⟨eK some (wo rfl _).symm,rfl,trivial⟩,?_⟩;refine aF.fam 20000 [65,2] (fun i:Nat=>[(66,.int i),(64,.own 9),(7,.own 9)]) (fun i=>uG [(0,Cm r),(9,zh RS.length)]++iY 10000 (fR (zi RS r.fr i))) (fun i=>i<=RS.length) (fun i=>RS.length-i) 0 (nS 10000 (fun _=>4) (fZ [(0,Cm r),(9,zh RS.length)] [0,27])) _ rfl (by decide) (fun _=>rfl) (ap _) (sR rfl) (.inl rfl) ?_ ?_
   ·refine kH.fam (g:=fun _=>4) [(0,Cm r),(9,zh RS.length)] [0,27] ?_ rfl (ap _) (by rw[iC,wu (ap _)]; omega) (fun j o q=>?_) (fun j j' o o' q q' _=>?_)
    ·exact kL rfl nofun rfl rfl ⟨_,rfl,rfl,rfl,by rw[OV.dR rfl]; exact .refl _⟩ (kL rfl nofun rfl (dF (by omega)) ⟨_,rfl,rfl,rfl,by rw[hlen]; exact .refl _⟩ trivial)
    ·rw[xH,DU] at q;match j,q with
     |0,q=>cases q; exact⟨rfl,rfl,⟨_,rfl,rfl⟩,rfl⟩
     |j+1,q=>cases q
    ·rw[xH,DU] at q q';match j,j',q,q' with
     |0,0,_,_=>rfl
     |j+1,_,q,_=>cases q
     |0,j+1,_,q=>cases q
   refine⟨(sR rfl),rfl,?_⟩;rintro i hi;have hpl:=wu (f:=r.fr) hi;refine⟨fun h5=>?_,fun h5=>?_⟩
   ·have hi':i<RS.length:=by
     have:=aq h5
     (try simp only[bN,bw] at this)
     first|omega|(replace h5:decide ((i:Int)<1)=true:=h5; have:=aq h5; omega)
    have hg:=Ie (f:=r.fr) hi';obtain⟨hR1,hR2⟩:=hRS (RS.getD i []) (by rw[getD_some hi']; exact bR hi');rw[<- hg] at hR1 hR2;have hrv:=hR2 r.fr.toNat;refine .mk (by show 0<=(i:Int)/\(i:Int)<((sJ 10000 RS.length).length:Int); rw[oV]; omega) ?_;refine AtZ.inn hi' ?_;refine PD.fR 20000 2 rfl rfl (by omega) (by rw[hpl]; exact hi') ?_;refine .mk (by simp only[Rw.rng] at *; first|omega|(simp_all; done)|(simp_all; omega)) ?_;refine PD.fR 20000 2 rfl rfl (by omega) (by rw[hpl]; exact hi') ?_;repeat(refine VC.mk (by simp only[okI,Rw.rng] at *; first|omega|(simp_all; done)|(simp_all; omega)) ?_)
    refine PD.fR 20000 2 rfl rfl (by omega) (by rw[hpl]; exact hi') ?_;refine .mk (by simp only[Rw.rng] at *; first|omega|(simp_all; done)|(simp_all; omega)) ?_;refine Ou.fR 20000 2 (aZ (RS.getD i []) r.fr 1) rfl rfl (by omega) (by rw[hpl]; exact hi') (by show r.fr.toNat<((zi RS r.fr i).getD i []).length; omega) (by show some _=some _; rw[<- hg]; rfl) ?_;refine .mk (by simp only[okI] at *; first|omega|(simp_all; done)|(simp_all; omega)) ?_;refine tZ.H7 20000 (i+1) (fR ((zi RS r.fr i).set i (aZ (RS.getD i []) r.fr 1))) [(0,Cm r),(9,zh RS.length)] [0,9] (by rw[Ig hi']) hi' (by omega) ?_ rfl rfl (ap _) (by rw[iC,co,hpl]; omega) (by decide) jl (sR rfl) (sR rfl) ?_
    (repeat' (first|refine dB.lo rfl ?_|refine dB.hi rfl ?_|exact dB.nil))
    ·exact kL rfl nofun rfl rfl ⟨_,rfl,rfl,rfl,by rw[OV.dR rfl]; exact .refl _⟩ (kL rfl nofun rfl (dF (by omega)) ⟨_,rfl,rfl,rfl,jQ⟩ trivial)
   ·have hi':i=RS.length:=by
     have:=aR h5
     (try simp only[bN,bw] at this)
     first|omega|(replace h5:decide ((i:Int)<1)=false:=h5; have:=aR h5; omega)
    subst hi';rw[Ih] at hpl ⊢;rw[<- hres];refine iT.ZP (iT.Uo 20000 (by rw[bh]; rfl) (by decide) ?_ (by rw[bh]; omega))
    (repeat' (first|refine dB.lo rfl ?_|refine dB.hi rfl ?_|exact dB.nil))
  |false =>
   obtain⟨RS,DU⟩: ∃ RS,RS=r.ex.map fun x=>aZ (mg c r.to) x 1:=⟨_,rfl⟩
   have Ns:RS.length<=100:=by rw[DU,bh]; exact hx
   have hcR:Fe r c=RS:=by rw[DU,BI,show(r.kind==1)=true by rw[hk1]; rfl,ha]; rfl
   have hRS: ∀ l∈RS,l.length=c.length/\ ∀ j,0<=l.getD j 0/\l.getD j 0<=50000000:=fun l hl'=>hsm l (by rw[hcR]; exact hl')
   have hres:V.bU [.row 0 false (.dV (RS.map fun l=>aZ l r.fr 1)),.bool true]=res:=by
    rw[<- hv]; unfold Nq; rw[hB,hcR,cY (by rw[bh]; exact Ns)]; rfl
   have hW:=S.Q8 r (mg c r.to) false hr (by rw[jR]; omega) (by rw[jR]; exact hp.exs) hx (yT h0) ha;rw[<- DU] at hW;refine ah.nest (fun c=>c=4) (ED (i:=0) (o:=Cm r) (r:=[]) rfl (by decide) trivial) hW ⟨aG _,xK rfl rfl,trivial⟩ rfl agj (fun o ho=>(KL o ho).1) ?_;refine aF.fam 20000 [65,2] (fun i:Nat=>[(66,.int i),(64,.own 9),(7,.own 9)]) (fun i=>uG [(0,Cm r),(9,zh RS.length)]++iY 10000 (fR (zi RS r.fr i))) (fun i=>i<=RS.length) (fun i=>RS.length-i) 0 (nS 10000 (fun j=>28+j) (fZ [(0,Cm r),(9,zh RS.length)] [0,27])) _ rfl (by decide) (fun _=>rfl) (ap _) (sR rfl) (.inl rfl) ?_ ?_
   ·refine kH.fam (g:=fun j=>28+j) [(0,Cm r),(9,zh RS.length)] [0,27] ?_ rfl (ap _) (by rw[iC,wu (ap _)]; omega) (fun j o q=>?_) (fun j j' o o' q q' e=>by replace e:28+j=28+j':=e; omega)
    ·refine kL rfl nofun rfl rfl ⟨_,Ux (by decide),rfl,rfl,by rw[OV.dR rfl]; exact .refl _⟩ (kL rfl nofun rfl (dF (by omega)) ⟨_,rfl,rfl,rfl,by rw[bh]; exact Ym⟩ trivial)
    ·rw[xH] at q;have hj:j<(fR RS).length:=(bj.1 q).1;obtain⟨g1,g2⟩:=jl (nx:=20000) o (cm q);exact⟨g1,g2,⟨o,by rw[Ur]; exact(Yn (n:=27) hj).trans (by rw[q]; rfl),rfl⟩,acV (by omega) (by omega)⟩
   refine⟨(sR rfl),rfl,?_⟩;rintro i hi;have hpl:=wu (f:=r.fr) hi;refine⟨fun h5=>?_,fun h5=>?_⟩
   ·have hi':i<RS.length:=by
     have:=aq h5
     (try simp only[bh,ff,bN,bw] at this)
     first|omega|(replace h5:decide ((i:Int)<1)=true:=h5; have:=aq h5; omega)
    have hg:=Ie (f:=r.fr) hi';obtain⟨hR1,hR2⟩:=hRS (RS.getD i []) (by rw[getD_some hi']; exact bR hi');rw[<- hg] at hR1 hR2;have hrv:=hR2 r.fr.toNat;refine .mk (by show 0<=(i:Int)/\(i:Int)<((sJ 10000 RS.length).length:Int); rw[oV]; omega) ?_;refine AtZ.inn hi' ?_;refine PD.fR 20000 2 rfl rfl (by omega) (by rw[hpl]; exact hi') ?_;refine .mk (by simp only[Rw.rng] at *; first|omega|(simp_all; done)|(simp_all; omega)) ?_;refine PD.fR 20000 2 rfl rfl (by omega) (by rw[hpl]; exact hi') ?_;repeat(refine VC.mk (by simp only[okI,Rw.rng] at *; first|omega|(simp_all; done)|(simp_all; omega)) ?_)
    refine PD.fR 20000 2 rfl rfl (by omega) (by rw[hpl]; exact hi') ?_;refine .mk (by simp only[Rw.rng] at *; first|omega|(simp_all; done)|(simp_all; omega)) ?_;refine Ou.fR 20000 2 (aZ (RS.getD i []) r.fr 1) rfl rfl (by omega) (by rw[hpl]; exact hi') (by show r.fr.toNat<((zi RS r.fr i).getD i []).length; omega) (by show some _=some _; rw[<- hg]; rfl) ?_;refine .mk (by simp only[okI] at *; first|omega|(simp_all; done)|(simp_all; omega)) ?_;refine tZ.H7 20000 (i+1) (fR ((zi RS r.fr i).set i (aZ (RS.getD i []) r.fr 1))) [(0,Cm r),(9,zh RS.length)] [0,9] (by rw[Ig hi']) hi' (by omega) ?_ rfl rfl (ap _) (by rw[iC,co,hpl]; omega) (by decide) jl (sR rfl) (sR rfl) ?_
    (repeat' (first|refine dB.lo rfl ?_|refine dB.hi rfl ?_|exact dB.nil))
    ·exact kL rfl nofun rfl rfl ⟨_,rfl,rfl,rfl,by rw[OV.dR rfl]; exact .refl _⟩ (kL rfl nofun rfl (dF (by omega)) ⟨_,rfl,rfl,rfl,jQ⟩ trivial)
   ·have hi':i=RS.length:=by
     have:=aR h5
     (try simp only[bh,ff,bN,bw] at this)
     first|omega|(replace h5:decide ((i:Int)<1)=false:=h5; have:=aR h5; omega)
    subst hi';rw[Ih] at hpl ⊢;rw[<- hres];refine iT.ZP (iT.Uo 20000 (by rw[bh]; rfl) (by decide) ?_ (by rw[bh]; omega))
    (repeat' (first|refine dB.lo rfl ?_|refine dB.hi rfl ?_|exact dB.nil))
 ·conv=>whnf
  refine⟨fun h2=>?_,fun h2=>?_⟩
  ·have hk2:r.kind=2:=by simpa using h2
   obtain⟨RS,DU⟩: ∃ RS,RS=[aZ (mg (mg c r.to) r.y7) r.dZ 1]:=⟨_,rfl⟩
   have hlen:RS.length=1:=by rw[DU]; rfl
   have hcR:Fe r c=RS:=by rw[DU,BI,show(r.kind==1)=false by rw[hk2]; rfl,show(r.kind==2)=true by rw[hk2]; rfl]; rfl
   have Ns:RS.length<=100:=by omega
   have hRS: ∀ l∈RS,l.length=c.length/\ ∀ j,0<=l.getD j 0/\l.getD j 0<=50000000:=fun l hl'=>hsm l (by rw[hcR]; exact hl')
   have hres:V.bU [.row 0 false (.dV (RS.map fun l=>aZ l r.fr 1)),.bool true]=res:=by
    rw[<- hv]; unfold Nq; rw[hB,hcR,cY (by rw[bh]; exact Ns)]; rfl
   have hd1:0<=(c.set r.to.toNat (max (c.getD r.to.toNat 0-1) 0)).getD r.y7.toNat 0/\(c.set r.to.toNat (max (c.getD r.to.toNat 0-1) 0)).getD r.y7.toNat 0<=1048576:=wO (yT h0) _;have hd2:0<=((c.set r.to.toNat (max (c.getD r.to.toNat 0-1) 0)).set r.y7.toNat (max ((c.set r.to.toNat (max (c.getD r.to.toNat 0-1) 0)).getD r.y7.toNat 0-1) 0)).getD r.dZ.toNat 0/\((c.set r.to.toNat (max (c.getD r.to.toNat 0-1) 0)).set r.y7.toNat (max ((c.set r.to.toNat (max (c.getD r.to.toNat 0-1) 0)).getD r.y7.toNat 0-1) 0)).getD r.dZ.toNat 0<=1048576:=wO (yT (yT h0)) _;repeat(refine VC.mk (by first|(simp only[Rw.rng,co]; omega)|(simp only[okI]; omega)) ?_)
   refine aF.fam 20000 [65,2] (fun i:Nat=>[(66,.int i),(64,.own 9),(7,.own 9)]) (fun i=>uG [(0,Cm r),(9,zh RS.length)]++iY 10000 (fR (zi RS r.fr i))) (fun i=>i<=RS.length) (fun i=>RS.length-i) 0 (nS 10000 (fun _=>4) (fZ [(0,Cm r),(9,zh RS.length)] [0,19])) _ rfl (by decide) (fun _=>rfl) (ap _) (sR rfl) (.inl rfl) ?_ ?_
   ·refine kH.fam (g:=fun _=>4) [(0,Cm r),(9,zh RS.length)] [0,19] ?_ rfl (ap _) (by rw[iC,wu (ap _)]; omega) (fun j o q=>?_) (fun j j' o o' q q' _=>?_)
    ·exact kL rfl nofun rfl rfl ⟨_,rfl,rfl,rfl,by rw[OV.dR rfl]; exact .refl _⟩ (kL rfl nofun rfl (dF (by omega)) ⟨_,rfl,rfl,rfl,by rw[hlen]; exact .refl _⟩ trivial)
    ·rw[xH,DU] at q;match j,q with
     |0,q=>cases q; exact⟨rfl,rfl,⟨_,rfl,rfl⟩,rfl⟩
     |j+1,q=>cases q
    ·rw[xH,DU] at q q';match j,j',q,q' with
     |0,0,_,_=>rfl
     |j+1,_,q,_=>cases q
     |0,j+1,_,q=>cases q
   refine⟨(sR rfl),rfl,?_⟩;rintro i hi;have hpl:=wu (f:=r.fr) hi;refine⟨fun h5=>?_,fun h5=>?_⟩
   ·have hi':i<RS.length:=by
     have:=aq h5
     (try simp only[bN,bw] at this)
     first|omega|(replace h5:decide ((i:Int)<1)=true:=h5; have:=aq h5; omega)
    have hg:=Ie (f:=r.fr) hi';obtain⟨hR1,hR2⟩:=hRS (RS.getD i []) (by rw[getD_some hi']; exact bR hi');rw[<- hg] at hR1 hR2;have hrv:=hR2 r.fr.toNat;refine .mk (by show 0<=(i:Int)/\(i:Int)<((sJ 10000 RS.length).length:Int); rw[oV]; omega) ?_;refine AtZ.inn hi' ?_;refine PD.fR 20000 2 rfl rfl (by omega) (by rw[hpl]; exact hi') ?_;refine .mk (by simp only[Rw.rng] at *; first|omega|(simp_all; done)|(simp_all; omega)) ?_;refine PD.fR 20000 2 rfl rfl (by omega) (by rw[hpl]; exact hi') ?_;repeat(refine VC.mk (by simp only[okI,Rw.rng] at *; first|omega|(simp_all; done)|(simp_all; omega)) ?_)
    refine PD.fR 20000 2 rfl rfl (by omega) (by rw[hpl]; exact hi') ?_;refine .mk (by simp only[Rw.rng] at *; first|omega|(simp_all; done)|(simp_all; omega)) ?_;refine Ou.fR 20000 2 (aZ (RS.getD i []) r.fr 1) rfl rfl (by omega) (by rw[hpl]; exact hi') (by show r.fr.toNat<((zi RS r.fr i).getD i []).length; omega) (by show some _=some _; rw[<- hg]; rfl) ?_;refine .mk (by simp only[okI] at *; first|omega|(simp_all; done)|(simp_all; omega)) ?_;refine tZ.H7 20000 (i+1) (fR ((zi RS r.fr i).set i (aZ (RS.getD i []) r.fr 1))) [(0,Cm r),(9,zh RS.length)] [0,9] (by rw[Ig hi']) hi' (by omega) ?_ rfl rfl (ap _) (by rw[iC,co,hpl]; omega) (by decide) jl (sR rfl) (sR rfl) ?_
    (repeat' (first|refine dB.lo rfl ?_|refine dB.hi rfl ?_|exact dB.nil))
    ·exact kL rfl nofun rfl rfl ⟨_,rfl,rfl,rfl,by rw[OV.dR rfl]; exact .refl _⟩ (kL rfl nofun rfl (dF (by omega)) ⟨_,rfl,rfl,rfl,jQ⟩ trivial)
   ·have hi':i=RS.length:=by
     have:=aR h5
     (try simp only[bN,bw] at this)
     first|omega|(replace h5:decide ((i:Int)<1)=false:=h5; have:=aR h5; omega)
    subst hi';rw[Ih] at hpl ⊢;rw[<- hres];refine iT.ZP (iT.Uo 20000 (by rw[bh]; rfl) (by decide) ?_ (by rw[bh]; omega))
    (repeat' (first|refine dB.lo rfl ?_|refine dB.hi rfl ?_|exact dB.nil))
  ·have hk3:r.kind=3:=by
    rcases hk with h|h|h
    ·rw[h] at h1; cases h1
    ·rw[h] at h2; cases h2
    ·exact h
   obtain⟨acW,aiI⟩:=hp.rsp hk3;have hS:=S.qO r.response (mg c r.to) false false (by rw[jR,acW]) (by rw[jR]; exact hl0) (by rw[jR]; exact hl) (yT h0) (by rw[jR]; exact aiI);refine Fork.mk (fun _=>?_) (fun q=>absurd (q.symm.trans (by rw[hk3]; rfl)) aM);conv=>whnf
   cases hso:BX r.response (mg c r.to) with
   |true =>
    have hW:=hS.1 hso;have afj:=hso;unfold BX at afj;rw[aD] at afj;have hst:wM r.response (mg c r.to)=false:=by simpa using afj.1
    obtain⟨RS,DU⟩: ∃ RS,RS=qA r.response (mg c r.to) (oZ (mg c r.to)) (mg c r.to).length:=⟨_,rfl⟩
    have Ns:RS.length<=100:=by rw[DU]; exact aq afj.2
    have hcR:Fe r c=RS:=by rw[DU,BI,show(r.kind==1)=false by rw[hk3]; rfl,show(r.kind==2)=false by rw[hk3]; rfl,show(r.kind==3)=true by rw[hk3]; rfl,hst]; rfl
    have hRS: ∀ l∈RS,l.length=c.length/\ ∀ j,0<=l.getD j 0/\l.getD j 0<=50000000:=fun l hl'=>hsm l (by rw[hcR]; exact hl')
    have hres:V.bU [.row 0 false (.dV (RS.map fun l=>aZ l r.fr 1)),.bool true]=res:=by
     rw[<- hv]; unfold Nq; rw[hB,hcR,cY (by rw[bh]; exact Ns)]; rfl
    rw[<- DU] at hW;refine ah.nest (fun c=>c=4) (ED (i:=0) (o:=Cm r) (r:=[]) rfl (by decide) trivial) hW ⟨aG _,xK rfl rfl,trivial⟩ rfl (acO true) (fun o ho=>(KL o ho).1) ?_;refine Fork.mk (fun q=>absurd (q.symm.trans (rfl)).symm aM) (fun _=>?_);refine aF.fam 20000 [65,2] (fun i:Nat=>[(66,.int i),(64,.own 9),(7,.own 9)]) (fun i=>uG [(0,Cm r),(9,zh RS.length)]++iY 10000 (fR (zi RS r.fr i))) (fun i=>i<=RS.length) (fun i=>RS.length-i) 0 (nS 10000 (fun j=>34+j) (fZ [(0,Cm r),(9,zh RS.length)] [0,33])) _ rfl (by decide) (fun _=>rfl) (ap _) (sR rfl) (.inl rfl) ?_ ?_
    ·refine kH.fam (g:=fun j=>34+j) [(0,Cm r),(9,zh RS.length)] [0,33] ?_ rfl (ap _) (by rw[iC,wu (ap _)]; omega) (fun j o q=>?_) (fun j j' o o' q q' e=>by replace e:34+j=34+j':=e; omega)
     ·refine kL rfl nofun rfl rfl ⟨_,Ux (by decide),rfl,rfl,by rw[OV.dR rfl]; exact .refl _⟩ (kL rfl nofun rfl (dF (by omega)) ⟨_,rfl,rfl,rfl,by rw[bh]; exact Ym⟩ trivial)
     ·rw[xH] at q;have hj:j<(fR RS).length:=(bj.1 q).1;obtain⟨g1,g2⟩:=jl (nx:=20000) o (cm q);exact⟨g1,g2,⟨o,by rw[Ur]; exact(Yn (n:=33) hj).trans (by rw[q]; rfl),rfl⟩,acV (by omega) (by omega)⟩
    refine⟨(sR rfl),rfl,?_⟩;rintro i hi;have hpl:=wu (f:=r.fr) hi;refine⟨fun h5=>?_,fun h5=>?_⟩
    ·have hi':i<RS.length:=by
      have:=aq h5
      (try simp only[bh,ff,bN,bw] at this)
      first|omega|(replace h5:decide ((i:Int)<1)=true:=h5; have:=aq h5; omega)
     have hg:=Ie (f:=r.fr) hi';obtain⟨hR1,hR2⟩:=hRS (RS.getD i []) (by rw[getD_some hi']; exact bR hi');rw[<- hg] at hR1 hR2;have hrv:=hR2 r.fr.toNat;refine .mk (by show 0<=(i:Int)/\(i:Int)<((sJ 10000 RS.length).length:Int); rw[oV]; omega) ?_;refine AtZ.inn hi' ?_;refine PD.fR 20000 2 rfl rfl (by omega) (by rw[hpl]; exact hi') ?_;refine .mk (by simp only[Rw.rng] at *; first|omega|(simp_all; done)|(simp_all; omega)) ?_;refine PD.fR 20000 2 rfl rfl (by omega) (by rw[hpl]; exact hi') ?_;repeat(refine VC.mk (by simp only[okI,Rw.rng] at *; first|omega|(simp_all; done)|(simp_all; omega)) ?_)
     refine PD.fR 20000 2 rfl rfl (by omega) (by rw[hpl]; exact hi') ?_;refine .mk (by simp only[Rw.rng] at *; first|omega|(simp_all; done)|(simp_all; omega)) ?_;refine Ou.fR 20000 2 (aZ (RS.getD i []) r.fr 1) rfl rfl (by omega) (by rw[hpl]; exact hi') (by show r.fr.toNat<((zi RS r.fr i).getD i []).length; omega) (by show some _=some _; rw[<- hg]; rfl) ?_;refine .mk (by simp only[okI] at *; first|omega|(simp_all; done)|(simp_all; omega)) ?_;refine tZ.H7 20000 (i+1) (fR ((zi RS r.fr i).set i (aZ (RS.getD i []) r.fr 1))) [(0,Cm r),(9,zh RS.length)] [0,9] (by rw[Ig hi']) hi' (by omega) ?_ rfl rfl (ap _) (by rw[iC,co,hpl]; omega) (by decide) jl (sR rfl) (sR rfl) ?_
     (repeat' (first|refine dB.lo rfl ?_|refine dB.hi rfl ?_|exact dB.nil))
     ·exact kL rfl nofun rfl rfl ⟨_,rfl,rfl,rfl,by rw[OV.dR rfl]; exact .refl _⟩ (kL rfl nofun rfl (dF (by omega)) ⟨_,rfl,rfl,rfl,jQ⟩ trivial)
    ·have hi':i=RS.length:=by
      have:=aR h5
      (try simp only[bh,ff,bN,bw] at this)
      first|omega|(replace h5:decide ((i:Int)<1)=false:=h5; have:=aR h5; omega)
     subst hi';rw[Ih] at hpl ⊢;rw[<- hres];refine iT.ZP (iT.Uo 20000 (by rw[bh]; rfl) (by decide) ?_ (by rw[bh]; omega))
     (repeat' (first|refine dB.lo rfl ?_|refine dB.hi rfl ?_|exact dB.nil))
   |false =>
    refine ah.lend (hS.2 hso) ⟨aG _,xK trivial rfl,trivial⟩ rfl rfl ?_;unfold BX at hso;cases hst:wM r.response (mg c r.to) with
    |true =>
     have hcR:Fe r c=[]:=by rw[BI,show(r.kind==1)=false by rw[hk3]; rfl,show(r.kind==2)=false by rw[hk3]; rfl,show(r.kind==3)=true by rw[hk3]; rfl,hst]; rfl
     have hres:V.bU [.row 0 false (.dV []),.bool true]=res:=by
      rw[<- hv]; unfold Nq; rw[hB,hcR]; rfl
     refine Fork.mk (fun q=>absurd (q.symm.trans (rfl)).symm aM) (fun _=>?_);refine aF.times 1 rfl ?_;refine Fork.mk (fun q=>absurd (q.symm.trans ((rfl:decide ((0:Int)<0)=false))).symm aM) (fun _=>?_);conv=>whnf
     rw[<- hres];exact iT.same
    |false =>
     have hbig: ¬ (qA r.response (mg c r.to) (oZ (mg c r.to)) (mg c r.to).length).length<=100:=by
      rw[hst] at hso;simpa using hso
     have hcR:Fe r c=qA r.response (mg c r.to) (oZ (mg c r.to)) (mg c r.to).length:=by rw[BI,show(r.kind==1)=false by rw[hk3]; rfl,show(r.kind==2)=false by rw[hk3]; rfl,show(r.kind==3)=true by rw[hk3]; rfl,hst]; rfl
     have hres:V.bU [.row 0 false (.dV []),.bool false]=res:=by
      rw[<- hv]; unfold Nq; rw[hB,hcR,cH (by rw[bh]; exact hbig)]; rfl
     refine Fork.mk (fun _=>?_) (fun q=>absurd (q.symm.trans (rfl)) aM);conv=>whnf
     rw[<- hres];exact iT.Ov
end Go.Proofs.YtbdbmfccbpfeoaaGreatDoor
