/-
 What a broadcast comes from: the program's lists. No condition.
-/
import Derived.Test.YtbdbmfccbpfeoabGreatDoorQa
namespace Go.Proofs.YtbdbmfccbpfeoabGreatDoor
open Go.Ab Go.Proofs
set_option maxRecDepth 100000
theorem acE{Z:Nat->Prop}{h:Hz}{i:Nat}{R:List (List Int)}(C:Nat)(hi:h.get i=some (yL R.length))(hz: ¬ Z i)(hZ: ∀ j,j<R.length->Z (10000+j))(q:bQ 10000 C (iJ 10000 (fR R)) h)(hC:10000+R.length<=C) :
  ∃ o',h.get i=some o'/\ ¬ Z i/\o'.au.ty=(OV.row 24 0 (.bI R) []).au.ty/\o'.au.k=(OV.row 24 0 (.bI R) []).au.k/\T.dF Z h.ay (OV.row 24 0 (.bI R) []).au.l o'.au.l/\(OV.row 24 0 (.bI R) []).au.l.map T.kd=o'.au.l.map T.kd/\(OV.row 24 0 (.bI R) []).au.l.map gG=o'.au.l.map gG:=by
 have e1:(OV.row 24 0 (.bI R) []).au.l=R.map Go.Ab.ints:=by simp[OV.au,Rw.aU,V.aU]
 have e2:(yL R.length).au.l=(List.range R.length).map fun j=>T.own (10000+j):=lY
 refine⟨_,hi,hz,rfl,rfl,?_,?_,?_⟩
 ·rw[e1,e2];refine He (by simp) fun j t u h1 h2=>?_
  have hj:j<R.length:=by have:=(bi.1 h1).1; simpa using this
  rw[cE,bN hj] at h1;rw[cE,fY hj] at h2;cases h1; cases h2;refine⟨rfl,hZ j hj,?_,by decide,3,?_⟩
  ·rw[gq]; intro t ht; obtain⟨x,_,rfl⟩:=av.1 ht; rfl
  ·have:=aO (q.get (by rw[iw]; exact hC) (Nl hj));rw[this,getD_some hj];simp[OV.au,V.aU,Rw.aU]
 ·rw[e1,e2,cT,cT];apply de
  ·simp
  ·intro j h1 h2;simp only[fL,Function.comp]; rfl
 ·rw[e1,e2,cT,cT];apply de
  ·simp
  ·intro j h1 h2;simp only[fL,Function.comp]; rfl
theorem Z5{Z:Nat->Prop}{h:Hz}{i:Nat}{R:List (List Int)}{r:Hz}(C:Nat)(hi:h.get i=some (yL R.length))(hz: ¬ Z i)(hZ: ∀ j,j<R.length->Z (10000+j))(q:bQ 10000 C (iJ 10000 (fR R)) h)(hC:10000+R.length<=C)(hr:Nb Z h r):Nb Z h ((i,some (.row 24 0 (.bI R) []))::r):=⟨acE C hi hz hZ q hC,hr⟩
theorem En{Z:Nat->Prop}{h:Hz}{i:Nat}{o:OV}{r:Hz}(hi:h.get i=some o)(hz: ¬ Z i)(hr:Nb Z h r):Nb Z h ((i,some o)::r):=⟨dM hi hz,hr⟩
def mD(resp:List Int)(t i:Nat):List Int:=((List.range i).filter fun x=>resp.getD x 0==(t:Int)).map fun x:Nat=>(x:Int)
theorem yu{resp:List Int}{t i:Nat}:mD resp t (i+1)=bif resp.getD i 0==(t:Int) then mD resp t i++[(i:Int)] else mD resp t i:=by
 unfold mD;rw[ck,List.filter_append,cm,fg,List.filter_nil];show _++List.map _ (if(resp.getD i 0==(t:Int))=true then [i] else [])=_;cases (resp.getD i 0==(t:Int))
 ·exact cN _
 ·rfl
theorem Ac{resp:List Int}{t i:Nat}:(mD resp t i).length<=i:=by
 unfold mD;rw[bc];exact ez (gN ..) (by simp)
theorem PN{resp:List Int}{t i:Nat}: ∀ x∈mD resp t i,0<=x/\x<i:=by
 intro x hx;obtain⟨k,hk,rfl⟩:=av.1 hx;have:=cL.1 (eQ.1 hk).1;omega
def FD(resp need:List Int)(i:Nat):Bool:=(List.range i).any fun t=>decide (0<need.getD t 0)&& !(JQ resp t)
theorem JI{resp need:List Int}{i:Nat}:FD resp need (i+1)=(FD resp need i||(decide (0<need.getD i 0)&& !(JQ resp i))):=by
 unfold FD;rw[ck,dq]; simp
theorem Nq{resp need:List Int}:FD resp need need.length=mg resp need:=rfl
theorem PO{resp need:List Int}{i:Nat}(hi:i<need.length)(h:(decide (0<need.getD i 0)&& !(JQ resp i))=true):mg resp need=true:=by
 unfold mg;rw[bw];exact⟨i,cL.2 hi,h⟩
def Jo(c xs ks:List Int)(i:Nat):List Int:=oD c (xs.take i) (ks.take i)
theorem acF: ∀ {xs ks:List Int} {c:List Int} {x k:Int},xs.length=ks.length->oD c (xs++[x]) (ks++[k])=aS (oD c xs ks) x k:=by
 intro xs;induction xs with
 |nil=>intro ks c x k h; cases ks with|nil=>rfl|cons _ _=>cases h
 |cons a xs ih =>
  intro ks c x k h;cases ks with
  |nil=>cases h
  |cons b ks=>exact ih (Nat.succ.inj h)
theorem Z7{c xs ks:List Int}{i:Nat}(h1:i<xs.length)(h2:i<ks.length):Jo c xs ks (i+1)=aS (Jo c xs ks i) (xs.getD i 0) (ks.getD i 0):=by
 unfold Jo;rw[bj h1,bj h2,acF (by simp; omega),getD_some h1,getD_some h2]
theorem acG{c xs ks:List Int}(h:xs.length=ks.length):Jo c xs ks ks.length=oD c xs ks:=by
 unfold Jo;rw[<- h,bp,h,bp]
theorem acH{c xs ks:List Int}{i:Nat}:(Jo c xs ks i).length=c.length:=Uo
def EN(O S:List (List Int))(xs:List Int)(i j:Nat):List (List Int):=((O.take i).flatMap fun c=>S.map fun s=>oD c xs s)++(S.take j).map fun s=>oD (O.getD i []) xs s
theorem Q9{O S:List (List Int)}{xs:List Int}{i j:Nat}(hi:i<=O.length)(hj:j<=S.length):(EN O S xs i j).length=i*S.length+j:=by
 have: ∀ L:List (List Int),(L.flatMap fun c=>S.map fun s=>oD c xs s).length=L.length*S.length:=by
  intro L;induction L with
  |nil=>simp
  |cons c L ih=>rw[eh,aM,ih,bc,bL,eK,gF]
 unfold EN;rw[aM,this,bc,bE,bE,en hi,en hj]
theorem acI{O S:List (List Int)}{xs:List Int}{i j:Nat}(hj:j<S.length):EN O S xs i (j+1)=EN O S xs i j++[oD (O.getD i []) xs (S.getD j [])]:=by
 unfold EN;rw[bj hj,cm,<- ax,getD_some hj]; rfl
theorem acJ{O S:List (List Int)}{xs:List Int}{i:Nat}(hi:i<O.length):EN O S xs (i+1) 0=EN O S xs i S.length:=by
 unfold EN;rw[bj hi,cv,bp,getD_some hi];simp
theorem aeW{O S:List (List Int)}{xs:List Int}:EN O S xs O.length 0=O.flatMap fun c=>S.map fun s=>oD c xs s:=by
 unfold EN;rw[bp]; simp
theorem Rf{resp need b:List Int}(hb:b.length=resp.length)(_hn:need.length=resp.length)(h0: ∀ i,0<=need.getD i 0){n:Nat}(h:n<=need.length): ∀ c∈lF resp need [b] n,c.length=resp.length:=(Ye hb h h0).len
theorem ak.UC{b:Bool}{k:Nat}{h:Hz}:ak (.dQ [.row 0 false (.bI []),.bool b]) (.dQ [.row k true .nil,.bool b]) h:=⟨by
  show T.sub _ _ (.dQ [.sl 0 false [],(V.bool b).aH]) (.dQ [.sl k true [],(V.bool b).aH]);simp only[T.sub,T.dF]
  exact⟨⟨.inl trivial,.inr trivial,fun h=>by cases h⟩,aC _,trivial⟩⟩
def nN(need:List Int):List (List Int):=[List.replicate need.length 0]
theorem Ia{c:List Int}{i d B M:Int}(hc: ∀ j,0<=c.getD j 0/\c.getD j 0<=B)(hd:0<=d/\d<=M)(j:Nat):0<=(aS c i d).getD j 0/\(aS c i d).getD j 0<=B+M:=by
 have:=hc j;rw[mZ];split<;>omega
theorem UF: ∀ {xs ks c:List Int} {B M:Int},(∀ j,0<=c.getD j 0/\c.getD j 0<=B)->(∀ k∈ks,0<=k/\k<=M)->0<=M-> ∀ j,0<=(oD c xs ks).getD j 0/\(oD c xs ks).getD j 0<=B+xs.length*M:=by
 intro xs;induction xs with
 |nil=>intro ks c B M hc _ _ j; have:=hc j; simp only[oD,cD]; omega
 |cons x xs ih =>
  intro ks c B M hc hk hM j;have hm:(0:Int)<=(xs.length:Int)*M:=Int.mul_nonneg (by omega) hM;have e:(((x::xs).length:Nat):Int)*M=M+(xs.length:Int)*M:=by rw[bL,Int.natCast_add,Int.add_mul]; simp only[Int.natCast_one,Int.one_mul]; omega
  cases ks with
  |nil=>have:=hc j; rw[e]; simp only[oD]; omega
  |cons k ks =>
   have:=ih (c:=aS c x k) (B:=B+M) (ks:=ks) (Ia hc (hk k (by simp))) (fun y hy=>hk y (dy _ hy)) hM j;rw[e];simp only[oD];omega
theorem Yk: ∀ {l:List Int} {x:Int},(∀ y∈l,0<=y)->x∈l->x<=l.sum:=by
 intro l;induction l with
 |nil=>intro x _ h; cases h
 |cons a l ih =>
  intro x h0 hx;have ha:=h0 a (by simp);have hl: ∀ y∈l,0<=y:=fun y hy=>h0 y (dy _ hy)
  have hs:0<=l.sum:=by
   cases l with
   |nil=>simp
   |cons b l=>exact Int.le_trans (hl b (by simp)) (ih hl (by simp))
  rw[eW];rcases br.1 hx with rfl|hx
  ·omega
  ·have:=ih hl hx; omega
theorem Rh{resp need:List Int}(h0:Oj need)(hl:resp.length<=6): ∀ t:Nat,∀ c∈lF resp need (nN need) t,∀ j,0<=c.getD j 0/\c.getD j 0<=(t:Int)*6291456:=by
 intro t;induction t with
 |zero =>
  intro c hc j
  have:c=List.replicate need.length 0:=by simpa [lF,nN] using hc
  subst this;rw[aR,List.getElem?_replicate];split<;>simp
 |succ t ih =>
  intro c hc j;rw[uP] at hc;unfold yK at hc;cases hz:(need.getD t 0==0) with
  |true =>
   rw[hz] at hc;have:=ih c hc j;omega
  |false =>
   rw[hz,bO,ci] at hc;obtain⟨b,hb,hc⟩:=hc;rw[wF,av] at hc;obtain⟨s,hs,rfl⟩:=hc;have hm:=jH h0 t;obtain⟨hs1,hs2⟩:=QZ hs;have hx:(iC resp t).length<=6:=ez (Ac (resp:=resp) (t:=t) (i:=resp.length)) hl;have:=UF (xs:=iC resp t) (ks:=s) (M:=1048576) (ih b hb) (fun k hk=>⟨hs2 k hk,by have:=Yk hs2 hk; rw[hs1] at this; omega⟩) (by decide) j
   have:((iC resp t).length:Int)*1048576<=6*1048576:=fv (by omega) (by decide)
   omega
def BJ(resp need:List Int):Bool:= !(mg resp need)&&decide ((lF resp need (nN need) need.length).length<=100)
abbrev JY(O:List (List Int))(xs:List Int)(k:Nat):List (Nat×OV):=[(9,.row 24 0 (.bI O) []),(10,je xs),(11,yL k)]
theorem kP{ρ:Nat->Nat}{nx pn:Nat}{h:Hz}{c n:Nat}{o:OV}{l:List (Nat×OV)}{s:List Nat}(h1:Nat.blt c nx=true)(h2:Nat.blt c pn=true->n=c)(h3:oV n s=true)(h4:o.good nx=true)(h5: ∃ o',h.get n=some o'/\o'.au.ty=o.au.ty/\o'.au.k=o.au.k/\dJ (T.bK ρ o.au.l) o'.au.l)(h6:okR ρ nx pn h l s):okR ρ nx pn h ((c,o)::l) (n::s):=⟨⟨h1,h2,h3,h4,h5⟩,h6⟩
set_option maxHeartbeats 4000000 in
theorem S.qU(resp need:List Int)(f g:Bool)(hn:need.length=resp.length)(hn0:0<need.length)(hn6:need.length<=6)(h0:Oj need)(_hp:qY need.length resp) :
  (BJ resp need=true->Dx Tryz.prog 112 [.row 0 f (.ints resp),.row 0 g (.ints need)] (fun n=>.dQ [.own n,.bool true]) 24 ((lF resp need (nN need) need.length).map je)) /\
  (BJ resp need=false->aj Tryz.prog 112 [.row 0 f (.ints resp),.row 0 g (.ints need)] (.dQ [.row 0 false (.bI []),.bool (mg resp need)])):=by
 have hpos: ∀ i,0<=need.getD i 0:=fun i=>(jH h0 i).1
 refine agK.of (BJ resp need) Bd.qU (by simp) rfl (acD true) KJ rfl ?_;refine aA.objs 0 [24,25,0,1] (fun i:Nat=>[(26,.int i)]) (fun _=>[]) (fun i=>i<=need.length/\FD resp need i=false) (fun i=>need.length-i) 0 [] rfl (by decide) (fun _=>rfl) ⟨ab _,rfl⟩ (sR rfl) trivial ?_;refine⟨(sR rfl),rfl,?_⟩;rintro i ⟨hi,hs⟩;refine⟨fun h1=>?_,fun h1=>?_⟩
 ·have hi':i<need.length:=by simpa using h1
  repeat(refine VC.mk (by first|exact fun h=>⟨h,h⟩|(simp only[Rw.rng] at *; omega)) ?_)
  refine ah.gW (fun _=>S.slices_Contains_int resp i f (by omega)) rfl ?_;repeat(refine VC.mk id ?_)
  refine⟨fun h2=>?_,fun h2=>?_⟩
  ·replace h2:(decide (0<need.getD i 0)&& !(JQ resp i))=true:=h2;have hS:=PO hi' h2;conv=>whnf
   rw[show BJ resp need=false by unfold BJ; rw[hS]; rfl,hS];exact⟨nofun,fun _=>ak.UC⟩
  ·replace h2:(decide (0<need.getD i 0)&& !(JQ resp i))=false:=h2;refine .mk (by simp only[okI] at *; omega) ?_;exact⟨i+1,[],⟨hi',by rw[JI,hs,h2]; rfl⟩,by omega,(sR rfl),(sR rfl),trivial⟩
 ·have hi':i=need.length:=by have:=aL h1; omega
  subst hi';rw[Nq] at hs;conv=>whnf
  rw[BZ hn0];refine .mk (by omega) ?_;conv=>whnf
  have hz:(nN need).length=1:=rfl;have ahV: ∀ t,need.getD t 0≠0->iC resp t≠[]:=Bc hs hpos;refine aA.fam 20000 [44,45,0] (fun t:Nat=>[(46,.int t),(8,.own 9)]) (fun t=>yJ [(9,yL (lF resp need (nN need) t).length)]++iJ 10000 (fR (lF resp need (nN need) t))) (fun t=>t<=need.length/\(lF resp need (nN need) t).length<=100) (fun t=>need.length-t) 0 (lX 10000 (fun _=>3) (iQ [(9,yL 1)] [4])) _ rfl (by decide) (fun _=>rfl) ⟨ab _,by show 1<=100; decide⟩ (sR rfl) (.inl rfl) ?_ ?_
  ·refine jY.fam (g:=fun _=>3) [(9,yL 1)] [4] ?_ rfl (ab _) (show 10000+1<=20000 by decide) (fun j o q=>?_) (fun j j' o o' q q' _=>?_)
   ·exact kP rfl nofun rfl (dD (by decide)) ⟨_,rfl,rfl,rfl,.refl _⟩ trivial
   ·match j,q with
    |0,q=>cases q; exact⟨rfl,rfl,⟨_,rfl,rfl⟩,rfl⟩
    |j+1,q=>cases q
   ·match j,j',q,q' with
    |0,0,_,_=>rfl
    |j+1,_,q,_=>cases q
    |0,j+1,_,q=>cases q
  refine⟨(sR rfl),rfl,?_⟩;clear h1 hi;rintro t ⟨ht,hL⟩;have hlen: ∀ c∈lF resp need (nN need) t,c.length=resp.length:=Rf (by simp[hn]) hn hpos ht;have abh:=Rh h0 (by omega:resp.length<=6) t;have hne:(lF resp need (nN need) t)≠[]:=by
   have:=Ux (resp:=resp) (need:=need) (out:=nN need) ahV (n:=0) t;rw[gD] at this;intro h;rw[h] at this;exact absurd this (by show ¬ 1<=0; decide)
  have hnx:lF resp need (nN need) (t+1)=yK resp need (lF resp need (nN need) t) t:=uP;have hbig: ∀ u,u<=need.length->100<(lF resp need (nN need) u).length->BJ resp need=false:=fun u hu hb=>by
   have:=aeV ahV hu hb;unfold BJ;rw[cF (by omega),Bool.and_false]
  generalize hO:lF resp need (nN need) t=OUT at hL hlen hne hnx abh;refine⟨fun h1=>?_,fun h1=>?_⟩
  ·have ht':t<need.length:=by simpa using h1
   refine .mk (by simp only[Rw.rng] at *; omega) ?_;refine⟨fun h2=>?_,fun h2=>?_⟩
   ·replace h2:(need.getD t 0==0)=true:=h2;have hsame:lF resp need (nN need) (t+1)=OUT:=by rw[hnx]; unfold yK; rw[h2]; rfl
    refine .mk (by simp only[okI] at *; omega) ?_;refine qR.Ht 20000 (t+1) (fR OUT) [(9,yL OUT.length)] [9] (by rw[hsame]) ⟨ht',by rw[hsame]; exact hL⟩ (by omega) ?_ rfl rfl (ab _) (by rw[iw]; omega) (by decide) jD (sR rfl) (sR rfl) ?_
    (repeat' (first|refine bQ.lo rfl ?_|refine bQ.hi rfl ?_|exact bQ.nil))
    ·exact kP rfl nofun rfl (dD (by omega)) ⟨_,rfl,rfl,rfl,jZ⟩ trivial
   ·replace h2:(need.getD t 0==0)=false:=h2;refine aA.nil 11 3 0 (by rfl) rfl rfl rfl ?_;refine aA.fam 20000 [53,54,9,10,8,46,44,45,0] (fun i:Nat=>[(55,.int i),(11,.own 10)]) (fun i=>yJ [(9,yL OUT.length),(10,je (mD resp t i))]++iJ 10000 (fR OUT)) (fun i=>i<=resp.length) (fun i=>resp.length-i) 0 (lX 10000 (fun j=>10000+j) (iQ [(9,yL OUT.length),(10,je [])] [9,20012])) _ rfl (by decide) (fun _=>rfl) (ab _) (sR rfl) (.inl rfl) ?_ ?_
    ·refine jY.X9 20000 [(9,yL OUT.length),(10,je [])] [9,20012] ?_ rfl rfl (ab _) (by rw[iw]; omega) (by decide) jD ?_
     (repeat' (first|refine bQ.lo rfl ?_|refine bQ.hi rfl ?_|exact bQ.nil))
     ·exact kP rfl nofun rfl (dD (by omega)) ⟨_,rfl,rfl,rfl,jZ⟩ (kP rfl nofun rfl rfl ⟨_,rfl,rfl,rfl,.refl _⟩ trivial)
    refine⟨(sR rfl),rfl,?_⟩;rintro i hi;have hfl:=Ac (resp:=resp) (t:=t) (i:=i);refine⟨fun h3=>?_,fun h3=>?_⟩
    ·have hi':i<resp.length:=by simpa using h3
     refine .mk (by simp only[Rw.rng] at *; omega) ?_;refine⟨fun h4=>?_,fun h4=>?_⟩
     ·replace h4:(resp.getD i 0==(t:Int))=true:=h4;have hf:mD resp t (i+1)=mD resp t i++[(i:Int)]:=by rw[yu,h4]; rfl
      repeat(refine VC.mk (by first|(simp only[jy,jK,Rw.len,bL,cD]; omega)|(simp only[okI] at *; omega)) ?_)
      refine qR.Ht 20000 (i+1) (fR OUT) [(9,yL OUT.length),(10,je (mD resp t (i+1)))] [9,20012] rfl hi' (by omega) ?_ rfl rfl (ab _) (by rw[iw]; omega) (by decide) jD (sR rfl) (sR rfl) ?_
      (repeat' (first|refine bQ.lo rfl ?_|refine bQ.hi rfl ?_|exact bQ.nil))
      ·exact kP rfl nofun rfl (dD (by omega)) ⟨_,rfl,rfl,rfl,jZ⟩ (kP rfl nofun rfl rfl ⟨_,rfl,rfl,rfl,by rw[hf,OV.eF rfl]; exact .refl _⟩ trivial)
     ·replace h4:(resp.getD i 0==(t:Int))=false:=h4;have hf:mD resp t (i+1)=mD resp t i:=by rw[yu,h4]; rfl
      refine .mk (by simp only[okI] at *; omega) ?_;refine qR.Ht 20000 (i+1) (fR OUT) [(9,yL OUT.length),(10,je (mD resp t (i+1)))] [9,10] rfl hi' (by omega) ?_ rfl rfl (ab _) (by rw[iw]; omega) (by decide) jD (sR rfl) (sR rfl) ?_
      (repeat' (first|refine bQ.lo rfl ?_|refine bQ.hi rfl ?_|exact bQ.nil))
      ·exact kP rfl nofun rfl (dD (by omega)) ⟨_,rfl,rfl,rfl,jZ⟩ (kP rfl nofun rfl rfl ⟨_,rfl,rfl,rfl,by rw[hf,OV.eF rfl]; exact .refl _⟩ trivial)
    ·have hi':i=resp.length:=by have:=aL h3; omega
     subst hi';have hFr:mD resp t resp.length=iC resp t:=rfl;rw[hFr] at hfl ⊢;have hrg: ∀ x∈iC resp t,0<=x/\x<resp.length:=fun x hx=>PN x (hFr▸hx)
     have hm:=jH h0 t;have hm0:need.getD t 0≠0:=by simpa using h2
     generalize hX:iC resp t=XS at hfl hrg;obtain⟨m,hm'⟩: ∃ m:Nat,need.getD t 0=(m:Int):=⟨(need.getD t 0).toNat,by omega⟩
     have hmT:(need.getD t 0).toNat=m:=by omega
     have htl:=aeR (resp:=resp) (out:=OUT) hm0;rw[hX,hmT,<- hnx] at htl;conv=>whnf
     rw[show need.getD ((t:Int)).toNat 0=(m:Int) from hm'];refine ah.pure (S.ng XS.length m (by omega) (by omega)) Jm ?_;by_cases hd:(kN XS.length m).length<=100
     ·rw[Aa hd];have hmul:OUT.length*(kN XS.length m).length<=100*100:=f8 hL hd;repeat(refine VC.mk (by first|(intro _; refine⟨rfl,rfl,?_⟩; show okI (((sG 10000 OUT.length).length:Int)*((kN XS.length m).length:Int)); rw[pF,<- gh]; simp only[okI]; omega)|exact fun h=>h|(intro h; rw[h]; rfl)) ?_)
      refine⟨fun h4=>?_,fun h4=>?_⟩
      ·have hf:100<OUT.length*(kN XS.length m).length:=by
        replace h4:decide (100<((sG 10000 OUT.length).length:Int)*((kN XS.length m).length:Int))=true:=h4;have:=ai h4;rw[pF,<- gh] at this;omega
       have hno:=hbig (t+1) ht' (by rw[htl]; exact hf);rw[hno,hs];exact⟨nofun,fun _=>ak.UC⟩
      ·have hf:OUT.length*(kN XS.length m).length<=100:=by
        replace h4:decide (100<((sG 10000 OUT.length).length:Int)*((kN XS.length m).length:Int))=false:=h4;have:=aL h4;rw[pF,<- gh] at this;omega
       have hsl: ∀ x∈kN XS.length m,x.length=XS.length/\(x.sum=m/\ ∀ y∈x,0<=y):=fun x hx=>⟨H8 hx,QZ hx⟩
       have hfin:(OUT.flatMap fun c=>(kN XS.length m).map fun x=>oD c XS x)=lF resp need (nN need) (t+1):=by
        rw[hnx];unfold yK;rw[h2,hX,hmT];show _=OUT.flatMap _
        congr 1
        funext c;rw[wF]
       generalize hS:kN XS.length m=SH at hf hsl hd hfin;refine aA.nil 16 24 0 (by rfl) rfl rfl rfl ?_;refine aA.fam 20000 [85,86,14,11,46,44,45,0] (fun i:Nat=>[(87,.int i),(16,.own 11)]) (fun i=>yJ (JY OUT XS (EN OUT SH XS i 0).length)++iJ 10000 (fR (EN OUT SH XS i 0))) (fun i=>i<=OUT.length) (fun i=>OUT.length-i) 0 (lX 10000 (fun j=>10000+j) (iQ (JY OUT XS 0) [9,10,20024])) [(9,some (.row 24 0 (.bI OUT) [])),(10,some (je XS)),(20024,some (.row 24 0 .nil []))] rfl (by decide) (fun _=>rfl) (ab _) (sR rfl) (.inr ⟨fun c=>10000<=c/\c<20000,Z5 (R:=OUT) 20000 rfl (show ¬ (10000<=9/\9<20000) by omega) (fun j hj=>show 10000<=10000+j/\10000+j<20000 by omega) ?_ (by omega) (En rfl (show ¬ (10000<=10/\10<20000) by omega) (En rfl (show ¬ (10000<=20024/\20024<20000) by omega) trivial))⟩) ?_ ?_
       (repeat' (first|refine bQ.lo rfl ?_|refine bQ.hi rfl ?_|exact bQ.nil))
       ·refine jY.fam (g:=fun j=>10000+j) (JY OUT XS 0) [9,10,20024] ?_ rfl (ab _) (show 10000+0<=20000 by decide) (fun j o q=>by cases q) (fun j _ o _ q=>by cases q);exact kP rfl nofun rfl rfl ⟨_,rfl,rfl,rfl,by rw[OV.eF rfl]; exact .refl _⟩ (kP rfl nofun rfl rfl ⟨_,rfl,rfl,rfl,by rw[OV.eF rfl]; exact .refl _⟩ (kP rfl nofun rfl rfl ⟨_,rfl,rfl,rfl,.refl _⟩ trivial))
       refine⟨(sR rfl),rfl,?_⟩;clear hi;rintro i hi;have hN0:=Q9 (xs:=XS) hi (ab SH.length);have agP: ∀ i j,i<OUT.length->j<=SH.length->i*SH.length+j<=100:=fun i j h1 h2=>by
        have:=cp SH.length h1;rw[eK] at this;omega
       have hN0':i*SH.length<=100:=ez (cp _ hi) hf;refine⟨fun h5=>?_,fun h5=>?_⟩
       ·have hi':i<OUT.length:=by simpa using h5
        have hmem:OUT.getD ((i:Int)).toNat []∈OUT:=by show OUT.getD i []∈OUT; rw[getD_some hi']; exact be hi'
        have hb:=hlen _ hmem;have hbb:=abh _ hmem;repeat(refine VC.mk (by simp only[Rw.rng] at *; omega) ?_)
        refine aA.fam 20000 [91,92,18,11,87,85,86,14,46,44,45,0] (fun j:Nat=>[(93,.int j),(16,.own 11)]) (fun j=>yJ (JY OUT XS (EN OUT SH XS i j).length)++iJ 10000 (fR (EN OUT SH XS i j))) (fun j=>j<=SH.length) (fun j=>SH.length-j) 0 (lX 10000 (fun j=>10000+j) (iQ (JY OUT XS (EN OUT SH XS i 0).length) [9,10,11])) _ rfl (by decide) (fun _=>rfl) (ab _) (sR rfl) (.inl rfl) ?_ ?_
        ·refine jY.X9 20000 (JY OUT XS (EN OUT SH XS i 0).length) [9,10,11] ?_ rfl rfl (ab _) (by rw[iw]; omega) (by decide) jD ?_
         (repeat' (first|refine bQ.lo rfl ?_|refine bQ.hi rfl ?_|exact bQ.nil))
         ·exact kP rfl nofun rfl rfl ⟨_,rfl,rfl,rfl,by rw[OV.eF rfl]; exact .refl _⟩ (kP rfl nofun rfl rfl ⟨_,rfl,rfl,rfl,by rw[OV.eF rfl]; exact .refl _⟩ (kP rfl nofun rfl (dD (by omega)) ⟨_,rfl,rfl,rfl,jZ⟩ trivial))
        refine⟨(sR rfl),rfl,?_⟩;rintro j hj;have hNj:=Q9 (xs:=XS) hi hj;have aiZ:=agP i j hi' hj;refine⟨fun h6=>?_,fun h6=>?_⟩
        ·have hj':j<SH.length:=by simpa using h6
         have hNs:EN OUT SH XS i (j+1)=EN OUT SH XS i j++[oD (OUT.getD ((i:Int)).toNat []) XS (SH.getD ((j:Int)).toNat [])]:=acI hj';have hN1:=Q9 (xs:=XS) hi hj';rw[hNs] at hN1;have ai0:=agP i (j+1) hi' hj';obtain⟨hs1,hs2,hs3⟩:=hsl (SH.getD ((j:Int)).toNat []) (by show SH.getD j []∈SH; rw[getD_some hj']; exact be hj');have hs4: ∀ k∈SH.getD ((j:Int)).toNat [],0<=k/\k<=1048576:=fun k hk=>⟨hs3 k hk,by have:=Yk hs3 hk; rw[hs2] at this; omega⟩
         repeat(refine VC.mk (by first|(simp only[jy,jK,Rw.len]; omega)|(simp only[Rw.rng] at *; omega)) ?_)
         generalize hbase:OUT.getD ((i:Int)).toNat []=base at hb hbb hNs hN1 ⊢;generalize ai1:SH.getD ((j:Int)).toNat []=shr at hs1 hs2 hs3 hs4 hNs hN1 ⊢;refine aA.fam 20000 [99,100,11,16,93,91,92,18,87,85,86,14,46,44,45,0] (fun x:Nat=>[(101,.int x),(21,.own 12)]) (fun x=>yJ (JY OUT XS (EN OUT SH XS i j).length++[(12,je (Jo base XS shr x))])++iJ 10000 (fR (EN OUT SH XS i j))) (fun x=>x<=shr.length) (fun x=>shr.length-x) 0 (lX 10000 (fun j=>10000+j) (iQ (JY OUT XS (EN OUT SH XS i j).length++[(12,je (Jo base XS shr 0))]) [9,10,11,20005])) _ rfl (by decide) (fun _=>rfl) (ab _) (sR rfl) (.inl rfl) ?_ ?_
         ·refine jY.X9 20000 (JY OUT XS (EN OUT SH XS i j).length++[(12,je (Jo base XS shr 0))]) [9,10,11,20005] ?_ rfl rfl (ab _) (by rw[iw]; omega) (by decide) jD ?_
          (repeat' (first|refine bQ.lo rfl ?_|refine bQ.hi rfl ?_|exact bQ.nil))
          ·exact kP rfl nofun rfl rfl ⟨_,rfl,rfl,rfl,by rw[OV.eF rfl]; exact .refl _⟩ (kP rfl nofun rfl rfl ⟨_,rfl,rfl,rfl,by rw[OV.eF rfl]; exact .refl _⟩ (kP rfl nofun rfl (dD (by omega)) ⟨_,rfl,rfl,rfl,jZ⟩ (kP rfl nofun rfl rfl ⟨_,rfl,rfl,rfl,by rw[OV.eF rfl]; exact .refl _⟩ trivial)))
         refine⟨(sR rfl),rfl,?_⟩;rintro x hx;have hpl:=@acH base XS shr x;have hpb: ∀ k,0<=(Jo base XS shr x).getD k 0/\(Jo base XS shr x).getD k 0<=50000000:=fun k=>by
          have h1:=UF (xs:=XS.take x) (ks:=shr.take x) (M:=1048576) hbb (fun k hk=>hs4 k (cU hk)) (by decide) k;have h2:((XS.take x).length:Int)*1048576<=6*1048576:=fv (by rw[bE]; omega) (by decide);have h3:(t:Int)*6291456<=6*6291456:=fv (by omega) (by decide);unfold Jo;omega
         refine⟨fun h7=>?_,fun h7=>?_⟩
         ·have hx':x<shr.length:=by simpa using h7
          have aiJ:=Z7 (c:=base) (xs:=XS) (ks:=shr) (i:=x) (by omega) hx';have hxr:=hrg (XS.getD x 0) (by rw[getD_some (by omega)]; exact be _);have hxk:=hs4 (shr.getD x 0) (by rw[getD_some hx']; exact be _);have hpx:=hpb (XS.getD ((x:Int)).toNat 0).toNat;replace hxr:0<=XS.getD ((x:Int)).toNat 0/\XS.getD ((x:Int)).toNat 0<resp.length:=hxr;replace hxk:0<=shr.getD ((x:Int)).toNat 0/\shr.getD ((x:Int)).toNat 0<=1048576:=hxk;repeat(refine VC.mk (by first|(simp only[Rw.rng]; omega)|(simp only[okI]; omega)) ?_)
          refine qR.Ht 20000 (x+1) (fR (EN OUT SH XS i j)) (JY OUT XS (EN OUT SH XS i j).length++[(12,je (Jo base XS shr (x+1)))]) [9,10,11,12] rfl hx' (by omega) ?_ rfl rfl (ab _) (by rw[iw]; omega) (by decide) jD (sR rfl) (sR rfl) ?_
          (repeat' (first|refine bQ.lo rfl ?_|refine bQ.hi rfl ?_|exact bQ.nil))
          ·exact kP rfl nofun rfl rfl ⟨_,rfl,rfl,rfl,by rw[OV.eF rfl]; exact .refl _⟩ (kP rfl nofun rfl rfl ⟨_,rfl,rfl,rfl,by rw[OV.eF rfl]; exact .refl _⟩ (kP rfl nofun rfl (dD (by omega)) ⟨_,rfl,rfl,rfl,jZ⟩ (kP rfl nofun rfl rfl ⟨_,rfl,rfl,rfl,by rw[aiJ,OV.eF rfl]; exact .refl _⟩ trivial)))
         ·have hx':x=shr.length:=by have:=aL h7; omega
          subst hx';rw[acG hs1.symm] at hpl ⊢;repeat(refine VC.mk (by first|(show((sG 10000 (EN OUT SH XS i j).length).length+(0+1))*24<=140737488355328/\(sG 10000 (EN OUT SH XS i j).length).length+(0+1)<=1152921504606846976; rw[pF]; omega)|(simp only[okI] at *; omega)) ?_)
          refine qR.WR 20000 (j+1) (EN OUT SH XS i j).length 12 (fR (EN OUT SH XS i j)) (fR (EN OUT SH XS i j++[oD base XS shr])) (JY OUT XS ((EN OUT SH XS i j).length+1)) [9,10,20004] (by rw[hNs,aM]; rfl) hj' (by omega) ?_ rfl rfl rfl (ab _) (by rw[iw]; omega) (by rw[iw]; omega) (by decide) jD ?_ (WZ rfl) (sR rfl) (sR rfl) ?_
          (repeat' (first|refine bQ.lo rfl ?_|refine bQ.hi rfl ?_|exact bQ.nil))
          ·intro o ho;rw[Q5 rfl] at ho;cases ho;exact⟨_,rfl,rfl⟩
          ·exact kP rfl nofun rfl rfl ⟨_,rfl,rfl,rfl,by rw[OV.eF rfl]; exact .refl _⟩ (kP rfl nofun rfl rfl ⟨_,rfl,rfl,rfl,by rw[OV.eF rfl]; exact .refl _⟩ (kP rfl nofun rfl (dD (by omega)) ⟨_,rfl,rfl,rfl,Jh⟩ trivial))
        ·have hj':j=SH.length:=by have:=aL h6; omega
         subst hj';have hst:=acJ (S:=SH) (xs:=XS) hi';refine .mk (by simp only[okI] at *; omega) ?_;refine qR.Ht 20000 (i+1) (fR (EN OUT SH XS i SH.length)) (JY OUT XS (EN OUT SH XS i SH.length).length) [9,10,11] (by rw[hst]) hi' (by omega) ?_ rfl rfl (ab _) (by rw[iw]; omega) (by decide) jD (sR rfl) (sR rfl) ?_
         (repeat' (first|refine bQ.lo rfl ?_|refine bQ.hi rfl ?_|exact bQ.nil))
         ·exact kP rfl nofun rfl rfl ⟨_,rfl,rfl,rfl,by rw[OV.eF rfl]; exact .refl _⟩ (kP rfl nofun rfl rfl ⟨_,rfl,rfl,rfl,by rw[OV.eF rfl]; exact .refl _⟩ (kP rfl nofun rfl (dD (by omega)) ⟨_,rfl,rfl,rfl,jZ⟩ trivial))
       ·have hi':i=OUT.length:=by have:=aL h5; rw[pF] at this; omega
        subst hi';rw[aeW,hfin] at hN0 ⊢;refine .mk (by simp only[okI] at *; omega) ?_;refine qR.Ht 20000 (t+1) (fR (lF resp need (nN need) (t+1))) [(9,yL (lF resp need (nN need) (t+1)).length)] [11] rfl ⟨ht',by omega⟩ (by omega) ?_ rfl rfl (ab _) (by rw[iw]; omega) (by decide) jD (sR rfl) (sR rfl) ?_
        (repeat' (first|refine bQ.lo rfl ?_|refine bQ.hi rfl ?_|exact bQ.nil))
        ·exact kP rfl nofun rfl (dD (by omega)) ⟨_,rfl,rfl,rfl,jZ⟩ trivial
     ·have hnone:divO XS.length m=none:=by unfold divO; rw[bX hd]
      rw[Em hnone]
      have hno:=hbig (t+1) ht' (by
       rw[htl]
       have:0<OUT.length:=f5.2 hne
       exact cY (by omega:100<(kN XS.length m).length) (Nat.le_mul_of_pos_left _ this))
      rw[hno,hs];repeat(refine VC.mk (by first|exact id|(intro h; rw[h]; rfl)|(intro h; simp_all; done)) ?_)
      refine Fork.mk (fun _=>?_) (fun q=>absurd (q.symm.trans (rfl)) aq);exact⟨nofun,fun _=>ak.UC⟩
  ·have ht':t=need.length:=by have:=aL h1; omega
   subst ht';have hok:BJ resp need=true:=by unfold BJ; rw[hs,hO,cJ hL]; rfl
   rw[hok,hO];refine⟨fun _=>QW.fam 20000 rfl (by decide) ?_ (by omega),nofun⟩
   (repeat' (first|refine bQ.lo rfl ?_|refine bQ.hi rfl ?_|exact bQ.nil))
theorem Pg.fR(C k:Nat){j:Nat}{R:List (List Int)}{h:Hz}{K:Nat->Rw->Prop}(e:h.drop k=iJ 10000 (fR R))(ho:Dv 10000 C (h.take k)=true)(hC:10000+R.length<=C)(hj:j<R.length)(hK:K 0 (.ints (R.getD j []))):Pg h (10000+j) K :=
 Pg.fam C (show Ba (h.take k) _ h from by rw[Ba,<- e,bt]) ho (by rw[iw]; exact hC) (Nl hj) hK
theorem agQ{R:List (List Int)}{j:Nat}{r:List Int}:(fR R).set j (some (je r))=fR (R.set j r):=(List.map_set ..).symm
theorem Oc.fR(C k:Nat){j x:Nat}{R:List (List Int)}{v:V}{h:Hz}{K:Hz->Prop}(r':List Int)(e:h.drop k=iJ 10000 (fR R))(ho:Dv 10000 C (h.take k)=true)(hC:10000+R.length<=C)(hj:j<R.length)(hr:x<(R.getD j []).length)(hs:(Rw.ints (R.getD j [])).set x v=some (.ints r'))
  (hK:K (h.take k++iJ 10000 (fR (R.set j r')))):Oc h (10000+j) x 0 v K :=
 Oc.fam C (show Ba (h.take k) _ h from by rw[Ba,<- e,bt]) ho (by rw[iw]; exact hC) (Nl hj) hs (by show 0<=(x:Int)/\(x:Int)<_; omega) (by rw[agQ]; exact hK)
theorem Yl{B k:Nat}{f:Nat->Nat}:dJ (T.bK (lX 10000 (fun j=>B+j) f) (yL k).au.l) (Dw 24 B k).au.l:=by
 refine dJ.of_eq ?_;show T.bK _ (V.aU (sG 10000 k))=V.aU (sG B k);rw[lY,lY,zX,cT];refine cM fun j _=>?_
 show T.own (lX 10000 (fun j=>B+j) f (10000+j))=T.own (B+j);rw[tZ]
theorem Ym{n j:Nat}{x:Option OV}{L:List (Option OV)}{h:Hz}(hj:j<L.length):Hz.get (n+1+j) ((n,x)::(iJ (n+1) L++h))=(L[j]?).join:=by
 simp only[Hz.get];have hne:Nat.beq n (n+1+j)=false:=by
  cases e:Nat.beq n (n+1+j) with
  |false=>rfl
  |true=>have:=fE e; omega
 rw[hne,bO,WT hj]
theorem acK{a x y:Nat}(h1:a≠x)(h2:a≠y):oV a [x,y]=true:=by
 have e: ∀ z,a≠z->Nat.beq a z=false:=fun z h=>by
  cases e:Nat.beq a z with
  |false=>rfl
  |true=>exact absurd (fE e) h
 simp only[oV,e x h1,e y h2]; rfl
def yM(R:List (List Int))(f:Int)(i:Nat):List (List Int):=(R.take i).map (fun l=>aS l f 1)++R.drop i
theorem vH{R:List (List Int)}{f:Int}{i:Nat}(h:i<=R.length):(yM R f i).length=R.length:=by
 unfold yM;rw[aM,bc,bE,cB]; omega
theorem Ib{R:List (List Int)}{f:Int}{i:Nat}(h:i<R.length):(yM R f i).getD i []=R.getD i []:=by
 unfold yM;rw[aR,ct (by rw[bc,bE]; omega),bc,bE,en (by omega),fp,cV,gE,<- aR]
theorem Ic{R:List (List Int)}{f:Int}{i:Nat}(h:i<R.length):yM R f (i+1)=(yM R f i).set i (aS (R.getD i []) f 1):=by
 unfold yM;rw[bj h,cm,gM _ _ (by rw[bc,bE]; omega),bc,bE,en (by omega),fp,eD h,fS,getD_some h,ax]; rfl
theorem Ie{R:List (List Int)}{f:Int}:yM R f R.length=R.map fun l=>aS l f 1:=by
 unfold yM;rw[bp,List.drop_length,cN]
theorem wW{R:List (List Int)}{f:Int}:yM R f 0=R:=rfl
theorem UG{n:Nat}{x:Option OV}{L:List (Option OV)}{i:Nat}{o:OV}{h:Hz}(hi:i<n)(e:h.get i=some o:=by rfl):Hz.get i ((n,x)::(iJ (n+1) L++h))=some o:=by
 simp only[Hz.get];have hne:Nat.beq n i=false:=by
  cases e:Nat.beq n i with
  |false=>rfl
  |true=>have:=fE e; omega
 rw[hne,bO,QV (.inl (by omega)),e]
def Nr(r:Rule)(c:List Int):V:=bif decide ((uq r c).length<=100) then .dQ [.row 0 false (.bI (uq r c)),.bool true] else .dQ [.row 0 false (.bI []),.bool false]
theorem PS{r:Rule}{c:List Int}:(Nr r c).free=true:=by unfold Nr; cases decide ((uq r c).length<=100)<;>rfl
theorem Bf{r:Rule}{c:List Int}:zZ r c=(bif r.kind==1 then(bif qZ r (cO c r.to) then [cO c r.to] else r.ex.map fun x=>aS (cO c r.to) x 1) else
  bif r.kind==2 then [aS (cO (cO c r.to) r.Ap) r.jo 1] else
  bif r.kind==3 then(bif mg r.response (cO c r.to) then [] else lF r.response (cO c r.to) (nN (cO c r.to)) (cO c r.to).length) else [cO c r.to]):=rfl
theorem yw{c:List Int}{i:Int}(h:Oj c):Oj (cO c i):=by
 intro x hx;rcases fk hx with h1|h1
 ·exact h x h1
 ·have:=jH h i.toNat; omega
theorem Ns{r:Rule}{c:List Int}(hp:oU c.length r)(h0:Oj c)(hl:c.length<=6): ∀ l∈zZ r c,l.length=c.length/\ ∀ j,0<=l.getD j 0/\l.getD j 0<=50000000:=by
 have hd:Oj (cO c r.to):=yw h0;have hone: ∀ (d:List Int) (x:Int),Oj d-> ∀ j,0<=(aS d x 1).getD j 0/\(aS d x 1).getD j 0<=50000000:=fun d x h j=>by
  have:=Ia (B:=1048576) (M:=1) (i:=x) (d:=1) (jH h) (by omega) j;omega
 intro l hl';rw[Bf] at hl';cases h1:(r.kind==1) with
 |true =>
  rw[h1,bS] at hl';cases ha:qZ r (cO c r.to) with
  |true =>
   rw[ha,bS,bl] at hl';subst hl';exact⟨dP,fun j=>by have:=jH hd j; omega⟩
  |false =>
   rw[ha,bO,av] at hl';obtain⟨x,_,rfl⟩:=hl';exact⟨by rw[iY,dP],hone _ x hd⟩
 |false =>
  rw[h1,bO] at hl';cases h2:(r.kind==2) with
  |true =>
   rw[h2,bS,bl] at hl';subst hl';exact⟨by rw[iY,dP,dP],hone _ _ (yw hd)⟩
  |false =>
   rw[h2,bO] at hl';cases h3:(r.kind==3) with
   |true =>
    obtain⟨acL,ahW⟩:=hp.rsp (by simpa using h3);rw[h3,bS] at hl';cases hs:mg r.response (cO c r.to) with
    |true=>rw[hs,bS] at hl'; cases hl'
    |false =>
     rw[hs,bO] at hl';have h1:=Rf (b:=List.replicate (cO c r.to).length 0) (by simp[dP,acL]) (by rw[dP,acL]) (fun i=>(jH hd i).1) (ba _) l hl';refine⟨by rw[h1,acL],fun j=>?_⟩;have:=Rh hd (by omega) _ l hl' j;rw[dP] at this
     have:(c.length:Int)*6291456<=6*6291456:=fv (by omega) (by decide)
     omega
   |false =>
    rw[h3,bO,bl] at hl';subst hl';exact⟨dP,fun j=>by have:=jH hd j; omega⟩
abbrev vT(r:Rule):OV:=.box 78 19 (.dat (.rule r))
set_option maxHeartbeats 4000000 in
theorem S.kD(r:Rule)(c:List Int)(f:Bool)(hr:vK r)(hp:oU c.length r)(h0:Oj c)(hl0:0<c.length)(hl:c.length<=6)(hx:r.ex.length<=100)(hk:r.kind=1\/r.kind=2\/r.kind=3):aj Tryz.prog 79 [.dat (.rule r),.row 0 f (.ints c)] (Nr r c):=by
 have hfree:=@PS r c;have hsm:=Ns hp h0 hl;have hB:uq r c=(zZ r c).map fun l=>aS l r.fr 1:=rfl
 obtain⟨q1,q2⟩:=hp.dst;obtain⟨q3,q4⟩:=hp.aha;obtain⟨q5,q6⟩:=hp.ag9;obtain⟨q7,q8⟩:=hp.src;have hc0:=jH h0;generalize hv:Nr r c=res;rw[hv] at hfree;refine aj.ofF Bd.kD rfl (by simp) rfl hfree ?_;have hdt:=hc0 r.to.toNat;repeat(refine VC.mk (by first|(simp only[Rw.rng]; omega)|(simp only[okI]; omega)|(simp only[jy,jK,Rw.len]; omega)) ?_)
 refine⟨fun h1=>?_,fun h1=>?_⟩
 ·have hk1:r.kind=1:=by simpa using h1
  conv=>whnf
  cases ha:qZ r (cO c r.to) with
  |true =>
   obtain⟨RS,DK⟩: ∃ RS,RS=[cO c r.to]:=⟨_,rfl⟩
   have hlen:RS.length=1:=by rw[DK]; rfl
   have hcR:zZ r c=RS:=by rw[DK,Bf,show(r.kind==1)=true by rw[hk1]; rfl,ha]; rfl
   have Nu:RS.length<=100:=by omega
   have hRS: ∀ l∈RS,l.length=c.length/\ ∀ j,0<=l.getD j 0/\l.getD j 0<=50000000:=fun l hl'=>hsm l (by rw[hcR]; exact hl')
   have hres:V.dQ [.row 0 false (.bI (RS.map fun l=>aS l r.fr 1)),.bool true]=res:=by
    rw[<- hv]; unfold Nr; rw[hB,hcR,cJ (by rw[bc]; exact Nu)]; rfl
   refine ah.QO [4] (S.Q7 r (cO c r.to) hr (by rw[dP]; omega) ha) rfl rfl rfl rfl rfl ⟨⟨_,rfl,tX rfl _⟩,trivial⟩ rfl (by decide) ?_;rintro t hp' ⟨rfl,rfl⟩;refine⟨.own 27,[some (je (cO c r.to)),some (.gen 24 0 [.inn 4])],rfl,rfl,⟨dt some (tX rfl _).symm,rfl,trivial⟩,?_⟩;refine aA.fam 20000 [65,2] (fun i:Nat=>[(66,.int i),(64,.own 9),(7,.own 9)]) (fun i=>yJ [(0,vT r),(9,yL RS.length)]++iJ 10000 (fR (yM RS r.fr i))) (fun i=>i<=RS.length) (fun i=>RS.length-i) 0 (lX 10000 (fun _=>4) (iQ [(0,vT r),(9,yL RS.length)] [0,27])) _ rfl (by decide) (fun _=>rfl) (ab _) (sR rfl) (.inl rfl) ?_ ?_
   ·refine jY.fam (g:=fun _=>4) [(0,vT r),(9,yL RS.length)] [0,27] ?_ rfl (ab _) (by rw[iw,vH (ab _)]; omega) (fun j o q=>?_) (fun j j' o o' q q' _=>?_)
    ·exact kP rfl nofun rfl rfl ⟨_,rfl,rfl,rfl,by rw[OV.eF rfl]; exact .refl _⟩ (kP rfl nofun rfl (dD (by omega)) ⟨_,rfl,rfl,rfl,by rw[hlen]; exact .refl _⟩ trivial)
    ·rw[wW,DK] at q;match j,q with
     |0,q=>cases q; exact⟨rfl,rfl,⟨_,rfl,rfl⟩,rfl⟩
     |j+1,q=>cases q
    ·rw[wW,DK] at q q';match j,j',q,q' with
     |0,0,_,_=>rfl
     |j+1,_,q,_=>cases q
     |0,j+1,_,q=>cases q
   refine⟨(sR rfl),rfl,?_⟩;rintro i hi;have hpl:=vH (f:=r.fr) hi;refine⟨fun h5=>?_,fun h5=>?_⟩
   ·have hi':i<RS.length:=by
     have:=ai h5
     (try simp only[bL,cD] at this)
     first|omega|(replace h5:decide ((i:Int)<1)=true:=h5; have:=ai h5; omega)
    have hg:=Ib (f:=r.fr) hi';obtain⟨hR1,hR2⟩:=hRS (RS.getD i []) (by rw[getD_some hi']; exact be hi');rw[<- hg] at hR1 hR2;have hrv:=hR2 r.fr.toNat;refine .mk (by show 0<=(i:Int)/\(i:Int)<((sG 10000 RS.length).length:Int); rw[pF]; omega) ?_;refine AtZ.inn hi' ?_;refine Pg.fR 20000 2 rfl rfl (by omega) (by rw[hpl]; exact hi') ?_;refine .mk (by simp only[Rw.rng] at *; first|omega|(simp_all; done)|(simp_all; omega)) ?_;refine Pg.fR 20000 2 rfl rfl (by omega) (by rw[hpl]; exact hi') ?_;repeat(refine VC.mk (by simp only[okI,Rw.rng] at *; first|omega|(simp_all; done)|(simp_all; omega)) ?_)
    refine Pg.fR 20000 2 rfl rfl (by omega) (by rw[hpl]; exact hi') ?_;refine .mk (by simp only[Rw.rng] at *; first|omega|(simp_all; done)|(simp_all; omega)) ?_;refine Oc.fR 20000 2 (aS (RS.getD i []) r.fr 1) rfl rfl (by omega) (by rw[hpl]; exact hi') (by show r.fr.toNat<((yM RS r.fr i).getD i []).length; omega) (by show some _=some _; rw[<- hg]; rfl) ?_;refine .mk (by simp only[okI] at *; first|omega|(simp_all; done)|(simp_all; omega)) ?_;refine qR.Ht 20000 (i+1) (fR ((yM RS r.fr i).set i (aS (RS.getD i []) r.fr 1))) [(0,vT r),(9,yL RS.length)] [0,9] (by rw[Ic hi']) hi' (by omega) ?_ rfl rfl (ab _) (by rw[iw,cx,hpl]; omega) (by decide) jD (sR rfl) (sR rfl) ?_
    (repeat' (first|refine bQ.lo rfl ?_|refine bQ.hi rfl ?_|exact bQ.nil))
    ·exact kP rfl nofun rfl rfl ⟨_,rfl,rfl,rfl,by rw[OV.eF rfl]; exact .refl _⟩ (kP rfl nofun rfl (dD (by omega)) ⟨_,rfl,rfl,rfl,jZ⟩ trivial)
   ·have hi':i=RS.length:=by
     have:=aL h5
     (try simp only[bL,cD] at this)
     first|omega|(replace h5:decide ((i:Int)<1)=false:=h5; have:=aL h5; omega)
    subst hi';rw[Ie] at hpl ⊢;rw[<- hres];refine jd.ZC (jd.UA 20000 (by rw[bc]; rfl) (by decide) ?_ (by rw[bc]; omega))
    (repeat' (first|refine bQ.lo rfl ?_|refine bQ.hi rfl ?_|exact bQ.nil))
  |false =>
   obtain⟨RS,DK⟩: ∃ RS,RS=r.ex.map fun x=>aS (cO c r.to) x 1:=⟨_,rfl⟩
   have Nu:RS.length<=100:=by rw[DK,bc]; exact hx
   have hcR:zZ r c=RS:=by rw[DK,Bf,show(r.kind==1)=true by rw[hk1]; rfl,ha]; rfl
   have hRS: ∀ l∈RS,l.length=c.length/\ ∀ j,0<=l.getD j 0/\l.getD j 0<=50000000:=fun l hl'=>hsm l (by rw[hcR]; exact hl')
   have hres:V.dQ [.row 0 false (.bI (RS.map fun l=>aS l r.fr 1)),.bool true]=res:=by
    rw[<- hv]; unfold Nr; rw[hB,hcR,cJ (by rw[bc]; exact Nu)]; rfl
   have hW:=S.Q8 r (cO c r.to) false hr (by rw[dP]; omega) (by rw[dP]; exact hp.exs) hx (yw h0) ha;rw[<- DK] at hW;refine ah.nest (fun c=>c=4) (En (i:=0) (o:=vT r) (r:=[]) rfl (by decide) trivial) hW ⟨aC _,BA rfl rfl,trivial⟩ rfl afF (fun o ho=>(KJ o ho).1) ?_;refine aA.fam 20000 [65,2] (fun i:Nat=>[(66,.int i),(64,.own 9),(7,.own 9)]) (fun i=>yJ [(0,vT r),(9,yL RS.length)]++iJ 10000 (fR (yM RS r.fr i))) (fun i=>i<=RS.length) (fun i=>RS.length-i) 0 (lX 10000 (fun j=>28+j) (iQ [(0,vT r),(9,yL RS.length)] [0,27])) _ rfl (by decide) (fun _=>rfl) (ab _) (sR rfl) (.inl rfl) ?_ ?_
   ·refine jY.fam (g:=fun j=>28+j) [(0,vT r),(9,yL RS.length)] [0,27] ?_ rfl (ab _) (by rw[iw,vH (ab _)]; omega) (fun j o q=>?_) (fun j j' o o' q q' e=>by replace e:28+j=28+j':=e; omega)
    ·refine kP rfl nofun rfl rfl ⟨_,UG (by decide),rfl,rfl,by rw[OV.eF rfl]; exact .refl _⟩ (kP rfl nofun rfl (dD (by omega)) ⟨_,rfl,rfl,rfl,by rw[bc]; exact Yl⟩ trivial)
    ·rw[wW] at q;have hj:j<(fR RS).length:=(bi.1 q).1;obtain⟨g1,g2⟩:=jD (nx:=20000) o (ce q);exact⟨g1,g2,⟨o,by rw[UE]; exact(Ym (n:=27) hj).trans (by rw[q]; rfl),rfl⟩,acK (by omega) (by omega)⟩
   refine⟨(sR rfl),rfl,?_⟩;rintro i hi;have hpl:=vH (f:=r.fr) hi;refine⟨fun h5=>?_,fun h5=>?_⟩
   ·have hi':i<RS.length:=by
     have:=ai h5
     (try simp only[bc,ef,bL,cD] at this)
     first|omega|(replace h5:decide ((i:Int)<1)=true:=h5; have:=ai h5; omega)
    have hg:=Ib (f:=r.fr) hi';obtain⟨hR1,hR2⟩:=hRS (RS.getD i []) (by rw[getD_some hi']; exact be hi');rw[<- hg] at hR1 hR2;have hrv:=hR2 r.fr.toNat;refine .mk (by show 0<=(i:Int)/\(i:Int)<((sG 10000 RS.length).length:Int); rw[pF]; omega) ?_;refine AtZ.inn hi' ?_;refine Pg.fR 20000 2 rfl rfl (by omega) (by rw[hpl]; exact hi') ?_;refine .mk (by simp only[Rw.rng] at *; first|omega|(simp_all; done)|(simp_all; omega)) ?_;refine Pg.fR 20000 2 rfl rfl (by omega) (by rw[hpl]; exact hi') ?_;repeat(refine VC.mk (by simp only[okI,Rw.rng] at *; first|omega|(simp_all; done)|(simp_all; omega)) ?_)
    refine Pg.fR 20000 2 rfl rfl (by omega) (by rw[hpl]; exact hi') ?_;refine .mk (by simp only[Rw.rng] at *; first|omega|(simp_all; done)|(simp_all; omega)) ?_;refine Oc.fR 20000 2 (aS (RS.getD i []) r.fr 1) rfl rfl (by omega) (by rw[hpl]; exact hi') (by show r.fr.toNat<((yM RS r.fr i).getD i []).length; omega) (by show some _=some _; rw[<- hg]; rfl) ?_;refine .mk (by simp only[okI] at *; first|omega|(simp_all; done)|(simp_all; omega)) ?_;refine qR.Ht 20000 (i+1) (fR ((yM RS r.fr i).set i (aS (RS.getD i []) r.fr 1))) [(0,vT r),(9,yL RS.length)] [0,9] (by rw[Ic hi']) hi' (by omega) ?_ rfl rfl (ab _) (by rw[iw,cx,hpl]; omega) (by decide) jD (sR rfl) (sR rfl) ?_
    (repeat' (first|refine bQ.lo rfl ?_|refine bQ.hi rfl ?_|exact bQ.nil))
    ·exact kP rfl nofun rfl rfl ⟨_,rfl,rfl,rfl,by rw[OV.eF rfl]; exact .refl _⟩ (kP rfl nofun rfl (dD (by omega)) ⟨_,rfl,rfl,rfl,jZ⟩ trivial)
   ·have hi':i=RS.length:=by
     have:=aL h5
     (try simp only[bc,ef,bL,cD] at this)
     first|omega|(replace h5:decide ((i:Int)<1)=false:=h5; have:=aL h5; omega)
    subst hi';rw[Ie] at hpl ⊢;rw[<- hres];refine jd.ZC (jd.UA 20000 (by rw[bc]; rfl) (by decide) ?_ (by rw[bc]; omega))
    (repeat' (first|refine bQ.lo rfl ?_|refine bQ.hi rfl ?_|exact bQ.nil))
 ·conv=>whnf
  refine⟨fun h2=>?_,fun h2=>?_⟩
  ·have hk2:r.kind=2:=by simpa using h2
   obtain⟨RS,DK⟩: ∃ RS,RS=[aS (cO (cO c r.to) r.Ap) r.jo 1]:=⟨_,rfl⟩
   have hlen:RS.length=1:=by rw[DK]; rfl
   have hcR:zZ r c=RS:=by rw[DK,Bf,show(r.kind==1)=false by rw[hk2]; rfl,show(r.kind==2)=true by rw[hk2]; rfl]; rfl
   have Nu:RS.length<=100:=by omega
   have hRS: ∀ l∈RS,l.length=c.length/\ ∀ j,0<=l.getD j 0/\l.getD j 0<=50000000:=fun l hl'=>hsm l (by rw[hcR]; exact hl')
   have hres:V.dQ [.row 0 false (.bI (RS.map fun l=>aS l r.fr 1)),.bool true]=res:=by
    rw[<- hv]; unfold Nr; rw[hB,hcR,cJ (by rw[bc]; exact Nu)]; rfl
   have hd1:0<=(c.set r.to.toNat (max (c.getD r.to.toNat 0-1) 0)).getD r.Ap.toNat 0/\(c.set r.to.toNat (max (c.getD r.to.toNat 0-1) 0)).getD r.Ap.toNat 0<=1048576:=jH (yw h0) _;have hd2:0<=((c.set r.to.toNat (max (c.getD r.to.toNat 0-1) 0)).set r.Ap.toNat (max ((c.set r.to.toNat (max (c.getD r.to.toNat 0-1) 0)).getD r.Ap.toNat 0-1) 0)).getD r.jo.toNat 0/\((c.set r.to.toNat (max (c.getD r.to.toNat 0-1) 0)).set r.Ap.toNat (max ((c.set r.to.toNat (max (c.getD r.to.toNat 0-1) 0)).getD r.Ap.toNat 0-1) 0)).getD r.jo.toNat 0<=1048576:=jH (yw (yw h0)) _;repeat(refine VC.mk (by first|(simp only[Rw.rng,cx]; omega)|(simp only[okI]; omega)) ?_)
   refine aA.fam 20000 [65,2] (fun i:Nat=>[(66,.int i),(64,.own 9),(7,.own 9)]) (fun i=>yJ [(0,vT r),(9,yL RS.length)]++iJ 10000 (fR (yM RS r.fr i))) (fun i=>i<=RS.length) (fun i=>RS.length-i) 0 (lX 10000 (fun _=>4) (iQ [(0,vT r),(9,yL RS.length)] [0,19])) _ rfl (by decide) (fun _=>rfl) (ab _) (sR rfl) (.inl rfl) ?_ ?_
   ·refine jY.fam (g:=fun _=>4) [(0,vT r),(9,yL RS.length)] [0,19] ?_ rfl (ab _) (by rw[iw,vH (ab _)]; omega) (fun j o q=>?_) (fun j j' o o' q q' _=>?_)
    ·exact kP rfl nofun rfl rfl ⟨_,rfl,rfl,rfl,by rw[OV.eF rfl]; exact .refl _⟩ (kP rfl nofun rfl (dD (by omega)) ⟨_,rfl,rfl,rfl,by rw[hlen]; exact .refl _⟩ trivial)
    ·rw[wW,DK] at q;match j,q with
     |0,q=>cases q; exact⟨rfl,rfl,⟨_,rfl,rfl⟩,rfl⟩
     |j+1,q=>cases q
    ·rw[wW,DK] at q q';match j,j',q,q' with
     |0,0,_,_=>rfl
     |j+1,_,q,_=>cases q
     |0,j+1,_,q=>cases q
   refine⟨(sR rfl),rfl,?_⟩;rintro i hi;have hpl:=vH (f:=r.fr) hi;refine⟨fun h5=>?_,fun h5=>?_⟩
   ·have hi':i<RS.length:=by
     have:=ai h5
     (try simp only[bL,cD] at this)
     first|omega|(replace h5:decide ((i:Int)<1)=true:=h5; have:=ai h5; omega)
    have hg:=Ib (f:=r.fr) hi';obtain⟨hR1,hR2⟩:=hRS (RS.getD i []) (by rw[getD_some hi']; exact be hi');rw[<- hg] at hR1 hR2;have hrv:=hR2 r.fr.toNat;refine .mk (by show 0<=(i:Int)/\(i:Int)<((sG 10000 RS.length).length:Int); rw[pF]; omega) ?_;refine AtZ.inn hi' ?_;refine Pg.fR 20000 2 rfl rfl (by omega) (by rw[hpl]; exact hi') ?_;refine .mk (by simp only[Rw.rng] at *; first|omega|(simp_all; done)|(simp_all; omega)) ?_;refine Pg.fR 20000 2 rfl rfl (by omega) (by rw[hpl]; exact hi') ?_;repeat(refine VC.mk (by simp only[okI,Rw.rng] at *; first|omega|(simp_all; done)|(simp_all; omega)) ?_)
    refine Pg.fR 20000 2 rfl rfl (by omega) (by rw[hpl]; exact hi') ?_;refine .mk (by simp only[Rw.rng] at *; first|omega|(simp_all; done)|(simp_all; omega)) ?_;refine Oc.fR 20000 2 (aS (RS.getD i []) r.fr 1) rfl rfl (by omega) (by rw[hpl]; exact hi') (by show r.fr.toNat<((yM RS r.fr i).getD i []).length; omega) (by show some _=some _; rw[<- hg]; rfl) ?_;refine .mk (by simp only[okI] at *; first|omega|(simp_all; done)|(simp_all; omega)) ?_;refine qR.Ht 20000 (i+1) (fR ((yM RS r.fr i).set i (aS (RS.getD i []) r.fr 1))) [(0,vT r),(9,yL RS.length)] [0,9] (by rw[Ic hi']) hi' (by omega) ?_ rfl rfl (ab _) (by rw[iw,cx,hpl]; omega) (by decide) jD (sR rfl) (sR rfl) ?_
    (repeat' (first|refine bQ.lo rfl ?_|refine bQ.hi rfl ?_|exact bQ.nil))
    ·exact kP rfl nofun rfl rfl ⟨_,rfl,rfl,rfl,by rw[OV.eF rfl]; exact .refl _⟩ (kP rfl nofun rfl (dD (by omega)) ⟨_,rfl,rfl,rfl,jZ⟩ trivial)
   ·have hi':i=RS.length:=by
     have:=aL h5
     (try simp only[bL,cD] at this)
     first|omega|(replace h5:decide ((i:Int)<1)=false:=h5; have:=aL h5; omega)
    subst hi';rw[Ie] at hpl ⊢;rw[<- hres];refine jd.ZC (jd.UA 20000 (by rw[bc]; rfl) (by decide) ?_ (by rw[bc]; omega))
    (repeat' (first|refine bQ.lo rfl ?_|refine bQ.hi rfl ?_|exact bQ.nil))
  ·have hk3:r.kind=3:=by
    rcases hk with h|h|h
    ·rw[h] at h1; cases h1
    ·rw[h] at h2; cases h2
    ·exact h
   obtain⟨acL,ahW⟩:=hp.rsp hk3;have hS:=S.qU r.response (cO c r.to) false false (by rw[dP,acL]) (by rw[dP]; exact hl0) (by rw[dP]; exact hl) (yw h0) (by rw[dP]; exact ahW);refine Fork.mk (fun _=>?_) (fun q=>absurd (q.symm.trans (by rw[hk3]; rfl)) aq);conv=>whnf
   cases hso:BJ r.response (cO c r.to) with
   |true =>
    have hW:=hS.1 hso;have aeX:=hso;unfold BJ at aeX;rw[aD] at aeX;have hst:mg r.response (cO c r.to)=false:=by simpa using aeX.1
    obtain⟨RS,DK⟩: ∃ RS,RS=lF r.response (cO c r.to) (nN (cO c r.to)) (cO c r.to).length:=⟨_,rfl⟩
    have Nu:RS.length<=100:=by rw[DK]; exact ai aeX.2
    have hcR:zZ r c=RS:=by rw[DK,Bf,show(r.kind==1)=false by rw[hk3]; rfl,show(r.kind==2)=false by rw[hk3]; rfl,show(r.kind==3)=true by rw[hk3]; rfl,hst]; rfl
    have hRS: ∀ l∈RS,l.length=c.length/\ ∀ j,0<=l.getD j 0/\l.getD j 0<=50000000:=fun l hl'=>hsm l (by rw[hcR]; exact hl')
    have hres:V.dQ [.row 0 false (.bI (RS.map fun l=>aS l r.fr 1)),.bool true]=res:=by
     rw[<- hv]; unfold Nr; rw[hB,hcR,cJ (by rw[bc]; exact Nu)]; rfl
    rw[<- DK] at hW;refine ah.nest (fun c=>c=4) (En (i:=0) (o:=vT r) (r:=[]) rfl (by decide) trivial) hW ⟨aC _,BA rfl rfl,trivial⟩ rfl (acD true) (fun o ho=>(KJ o ho).1) ?_;refine Fork.mk (fun q=>absurd (q.symm.trans (rfl)).symm aq) (fun _=>?_);refine aA.fam 20000 [65,2] (fun i:Nat=>[(66,.int i),(64,.own 9),(7,.own 9)]) (fun i=>yJ [(0,vT r),(9,yL RS.length)]++iJ 10000 (fR (yM RS r.fr i))) (fun i=>i<=RS.length) (fun i=>RS.length-i) 0 (lX 10000 (fun j=>34+j) (iQ [(0,vT r),(9,yL RS.length)] [0,33])) _ rfl (by decide) (fun _=>rfl) (ab _) (sR rfl) (.inl rfl) ?_ ?_
    ·refine jY.fam (g:=fun j=>34+j) [(0,vT r),(9,yL RS.length)] [0,33] ?_ rfl (ab _) (by rw[iw,vH (ab _)]; omega) (fun j o q=>?_) (fun j j' o o' q q' e=>by replace e:34+j=34+j':=e; omega)
     ·refine kP rfl nofun rfl rfl ⟨_,UG (by decide),rfl,rfl,by rw[OV.eF rfl]; exact .refl _⟩ (kP rfl nofun rfl (dD (by omega)) ⟨_,rfl,rfl,rfl,by rw[bc]; exact Yl⟩ trivial)
     ·rw[wW] at q;have hj:j<(fR RS).length:=(bi.1 q).1;obtain⟨g1,g2⟩:=jD (nx:=20000) o (ce q);exact⟨g1,g2,⟨o,by rw[UE]; exact(Ym (n:=33) hj).trans (by rw[q]; rfl),rfl⟩,acK (by omega) (by omega)⟩
    refine⟨(sR rfl),rfl,?_⟩;rintro i hi;have hpl:=vH (f:=r.fr) hi;refine⟨fun h5=>?_,fun h5=>?_⟩
    ·have hi':i<RS.length:=by
      have:=ai h5
      (try simp only[bc,ef,bL,cD] at this)
      first|omega|(replace h5:decide ((i:Int)<1)=true:=h5; have:=ai h5; omega)
     have hg:=Ib (f:=r.fr) hi';obtain⟨hR1,hR2⟩:=hRS (RS.getD i []) (by rw[getD_some hi']; exact be hi');rw[<- hg] at hR1 hR2;have hrv:=hR2 r.fr.toNat;refine .mk (by show 0<=(i:Int)/\(i:Int)<((sG 10000 RS.length).length:Int); rw[pF]; omega) ?_;refine AtZ.inn hi' ?_;refine Pg.fR 20000 2 rfl rfl (by omega) (by rw[hpl]; exact hi') ?_;refine .mk (by simp only[Rw.rng] at *; first|omega|(simp_all; done)|(simp_all; omega)) ?_;refine Pg.fR 20000 2 rfl rfl (by omega) (by rw[hpl]; exact hi') ?_;repeat(refine VC.mk (by simp only[okI,Rw.rng] at *; first|omega|(simp_all; done)|(simp_all; omega)) ?_)
     refine Pg.fR 20000 2 rfl rfl (by omega) (by rw[hpl]; exact hi') ?_;refine .mk (by simp only[Rw.rng] at *; first|omega|(simp_all; done)|(simp_all; omega)) ?_;refine Oc.fR 20000 2 (aS (RS.getD i []) r.fr 1) rfl rfl (by omega) (by rw[hpl]; exact hi') (by show r.fr.toNat<((yM RS r.fr i).getD i []).length; omega) (by show some _=some _; rw[<- hg]; rfl) ?_;refine .mk (by simp only[okI] at *; first|omega|(simp_all; done)|(simp_all; omega)) ?_;refine qR.Ht 20000 (i+1) (fR ((yM RS r.fr i).set i (aS (RS.getD i []) r.fr 1))) [(0,vT r),(9,yL RS.length)] [0,9] (by rw[Ic hi']) hi' (by omega) ?_ rfl rfl (ab _) (by rw[iw,cx,hpl]; omega) (by decide) jD (sR rfl) (sR rfl) ?_
     (repeat' (first|refine bQ.lo rfl ?_|refine bQ.hi rfl ?_|exact bQ.nil))
     ·exact kP rfl nofun rfl rfl ⟨_,rfl,rfl,rfl,by rw[OV.eF rfl]; exact .refl _⟩ (kP rfl nofun rfl (dD (by omega)) ⟨_,rfl,rfl,rfl,jZ⟩ trivial)
    ·have hi':i=RS.length:=by
      have:=aL h5
      (try simp only[bc,ef,bL,cD] at this)
      first|omega|(replace h5:decide ((i:Int)<1)=false:=h5; have:=aL h5; omega)
     subst hi';rw[Ie] at hpl ⊢;rw[<- hres];refine jd.ZC (jd.UA 20000 (by rw[bc]; rfl) (by decide) ?_ (by rw[bc]; omega))
     (repeat' (first|refine bQ.lo rfl ?_|refine bQ.hi rfl ?_|exact bQ.nil))
   |false =>
    refine ah.lend (hS.2 hso) ⟨aC _,BA trivial rfl,trivial⟩ rfl rfl ?_;unfold BJ at hso;cases hst:mg r.response (cO c r.to) with
    |true =>
     have hcR:zZ r c=[]:=by rw[Bf,show(r.kind==1)=false by rw[hk3]; rfl,show(r.kind==2)=false by rw[hk3]; rfl,show(r.kind==3)=true by rw[hk3]; rfl,hst]; rfl
     have hres:V.dQ [.row 0 false (.bI []),.bool true]=res:=by
      rw[<- hv]; unfold Nr; rw[hB,hcR]; rfl
     refine Fork.mk (fun q=>absurd (q.symm.trans (rfl)).symm aq) (fun _=>?_);refine aA.times 1 rfl ?_;refine Fork.mk (fun q=>absurd (q.symm.trans ((rfl:decide ((0:Int)<0)=false))).symm aq) (fun _=>?_);conv=>whnf
     rw[<- hres];exact jd.same
    |false =>
     have hbig: ¬ (lF r.response (cO c r.to) (nN (cO c r.to)) (cO c r.to).length).length<=100:=by
      rw[hst] at hso;simpa using hso
     have hcR:zZ r c=lF r.response (cO c r.to) (nN (cO c r.to)) (cO c r.to).length:=by rw[Bf,show(r.kind==1)=false by rw[hk3]; rfl,show(r.kind==2)=false by rw[hk3]; rfl,show(r.kind==3)=true by rw[hk3]; rfl,hst]; rfl
     have hres:V.dQ [.row 0 false (.bI []),.bool false]=res:=by
      rw[<- hv]; unfold Nr; rw[hB,hcR,cF (by rw[bc]; exact hbig)]; rfl
     refine Fork.mk (fun _=>?_) (fun q=>absurd (q.symm.trans (rfl)) aq);conv=>whnf
     rw[<- hres];exact jd.UC
end Go.Proofs.YtbdbmfccbpfeoabGreatDoor
