/-
 What a broadcast comes from: the program's lists. No condition.
-/
import Derived.Test.YtkmldgihhaooaaaGreatDoorQa
namespace Go.Proofs.YtkmldgihhaooaaaGreatDoor
open Go.Ab Go.Proofs
set_option maxRecDepth 100000
theorem ZL{Z:Nat->Prop}{h:Hz}{i:Nat}{R:List (List Int)}(C:Nat)(hi:h.get i=some (xg R.length))(hz: ¬ Z i)(hZ: ∀ j,j<R.length->Z (10000+j))(q:dw 10000 C (iP 10000 (fR R)) h)(hC:10000+R.length<=C) :
  ∃ o',h.get i=some o'/\ ¬ Z i/\o'.aA.ty=(OV.row 24 0 (.dV R) []).aA.ty/\o'.aA.k=(OV.row 24 0 (.dV R) []).aA.k/\T.dJ Z h.au (OV.row 24 0 (.dV R) []).aA.l o'.aA.l/\(OV.row 24 0 (.dV R) []).aA.l.map T.kd=o'.aA.l.map T.kd/\(OV.row 24 0 (.dV R) []).aA.l.map iH=o'.aA.l.map iH:=by
 have e1:(OV.row 24 0 (.dV R) []).aA.l=R.map Go.Ab.ints:=by simp[OV.aA,Rw.aW,V.aW]
 have e2:(xg R.length).aA.l=(List.range R.length).map fun j=>T.own (10000+j):=lG
 refine⟨_,hi,hz,rfl,rfl,?_,?_,?_⟩
 ·rw[e1,e2]
  refine IK (by simp) fun j t u h1 h2=>?_
  have hj:j<R.length:=by have:=(List.getElem?_eq_some_iff.1 h1).1; simpa using this
  rw[List.getElem?_map,List.getElem?_eq_getElem hj] at h1
  rw[List.getElem?_map,List.getElem?_range hj] at h2
  cases h1; cases h2
  refine⟨rfl,hZ j hj,?_,by decide,3,?_⟩
  ·rw[iw]; intro t ht; obtain⟨x,_,rfl⟩:=List.mem_map.1 ht; rfl
  ·have:=aQ (q.get (by rw[gW]; exact hC) (J8 hj))
   rw[this,getD_some hj]
   simp[OV.aA,V.aW,Rw.aW]
 ·rw[e1,e2,List.map_map,List.map_map]
  apply List.ext_getElem
  ·simp
  ·intro j h1 h2
   simp only[List.getElem_map,Function.comp]; rfl
 ·rw[e1,e2,List.map_map,List.map_map]
  apply List.ext_getElem
  ·simp
  ·intro j h1 h2
   simp only[List.getElem_map,Function.comp]; rfl
theorem Xo{Z:Nat->Prop}{h:Hz}{i:Nat}{R:List (List Int)}{r:Hz}(C:Nat)(hi:h.get i=some (xg R.length))(hz: ¬ Z i)(hZ: ∀ j,j<R.length->Z (10000+j))(q:dw 10000 C (iP 10000 (fR R)) h)(hC:10000+R.length<=C)(hr:Lh Z h r):Lh Z h ((i,some (.row 24 0 (.dV R) []))::r):=⟨ZL C hi hz hZ q hC,hr⟩
theorem BR{Z:Nat->Prop}{h:Hz}{i:Nat}{o:OV}{r:Hz}(hi:h.get i=some o)(hz: ¬ Z i)(hr:Lh Z h r):Lh Z h ((i,some o)::r):=⟨qQ hi hz,hr⟩
def oU(resp:List Int)(t i:Nat):List Int:=((List.range i).filter fun x=>resp.getD x 0==(t:Int)).map fun x:Nat=>(x:Int)
theorem CY{resp:List Int}{t i:Nat}:oU resp t (i+1)=bif resp.getD i 0==(t:Int) then oU resp t i++[(i:Int)] else oU resp t i:=by
 unfold oU
 rw[List.range_succ,List.filter_append,List.map_append,List.filter_cons,List.filter_nil]
 show _++List.map _ (if(resp.getD i 0==(t:Int))=true then [i] else [])=_
 cases (resp.getD i 0==(t:Int))
 ·exact List.append_nil _
 ·rfl
theorem MZ{resp:List Int}{t i:Nat}:(oU resp t i).length<=i:=by
 unfold oU
 rw[List.length_map]
 exact Nat.le_trans (List.length_filter_le ..) (by simp)
theorem Xp{resp:List Int}{t i:Nat}: ∀ x∈oU resp t i,0<=x/\x<i:=by
 intro x hx
 obtain⟨k,hk,rfl⟩:=List.mem_map.1 hx
 have:=List.mem_range.1 (List.mem_filter.1 hk).1
 omega
def Ko(resp need:List Int)(i:Nat):Bool:=(List.range i).any fun t=>decide (0<need.getD t 0)&& !(Lm resp t)
theorem QN{resp need:List Int}{i:Nat}:Ko resp need (i+1)=(Ko resp need i||(decide (0<need.getD i 0)&& !(Lm resp i))):=by
 unfold Ko
 rw[List.range_succ,List.any_append]; simp
theorem Uc{resp need:List Int}:Ko resp need need.length=pF resp need:=rfl
theorem Xq{resp need:List Int}{i:Nat}(hi:i<need.length)(h:(decide (0<need.getD i 0)&& !(Lm resp i))=true):pF resp need=true:=by
 unfold pF
 rw[List.any_eq_true]
 exact⟨i,List.mem_range.2 hi,h⟩
def GX(c xs ks:List Int)(i:Nat):List Int:=lK c (xs.take i) (ks.take i)
theorem ZM: ∀ {xs ks:List Int} {c:List Int} {x k:Int},xs.length=ks.length->lK c (xs++[x]) (ks++[k])=aS (lK c xs ks) x k:=by
 intro xs
 induction xs with
 |nil=>intro ks c x k h; cases ks with|nil=>rfl|cons _ _=>cases h
 |cons a xs ih =>
  intro ks c x k h
  cases ks with
  |nil=>cases h
  |cons b ks=>exact ih (Nat.succ.inj h)
theorem Xr{c xs ks:List Int}{i:Nat}(h1:i<xs.length)(h2:i<ks.length):GX c xs ks (i+1)=aS (GX c xs ks i) (xs.getD i 0) (ks.getD i 0):=by
 unfold GX
 rw[List.take_succ_eq_append_getElem h1,List.take_succ_eq_append_getElem h2,ZM (by simp; omega),getD_some h1,getD_some h2]
theorem ZN{c xs ks:List Int}(h:xs.length=ks.length):GX c xs ks ks.length=lK c xs ks:=by
 unfold GX
 rw[<- h,List.take_length,h,List.take_length]
theorem ZO{c xs ks:List Int}{i:Nat}:(GX c xs ks i).length=c.length:=IW
def CV(O S:List (List Int))(xs:List Int)(i j:Nat):List (List Int):=((O.take i).flatMap fun c=>S.map fun s=>lK c xs s)++(S.take j).map fun s=>lK (O.getD i []) xs s
theorem OH{O S:List (List Int)}{xs:List Int}{i j:Nat}(hi:i<=O.length)(hj:j<=S.length):(CV O S xs i j).length=i*S.length+j:=by
 have: ∀ L:List (List Int),(L.flatMap fun c=>S.map fun s=>lK c xs s).length=L.length*S.length:=by
  intro L
  induction L with
  |nil=>simp
  |cons c L ih=>rw[List.flatMap_cons,List.length_append,ih,List.length_map,List.length_cons,Nat.succ_mul,Nat.add_comm]
 unfold CV
 rw[List.length_append,this,List.length_map,List.length_take,List.length_take,Nat.min_eq_left hi,Nat.min_eq_left hj]
theorem ZP{O S:List (List Int)}{xs:List Int}{i j:Nat}(hj:j<S.length):CV O S xs i (j+1)=CV O S xs i j++[lK (O.getD i []) xs (S.getD j [])]:=by
 unfold CV
 rw[List.take_succ_eq_append_getElem hj,List.map_append,<- List.append_assoc,getD_some hj]; rfl
theorem ZQ{O S:List (List Int)}{xs:List Int}{i:Nat}(hi:i<O.length):CV O S xs (i+1) 0=CV O S xs i S.length:=by
 unfold CV
 rw[List.take_succ_eq_append_getElem hi,List.flatMap_append,List.take_length,getD_some hi]
 simp
theorem abZ{O S:List (List Int)}{xs:List Int}:CV O S xs O.length 0=O.flatMap fun c=>S.map fun s=>lK c xs s:=by
 unfold CV
 rw[List.take_length]; simp
theorem Vd{resp need b:List Int}(hb:b.length=resp.length)(_hn:need.length=resp.length)(h0: ∀ i,0<=need.getD i 0){n:Nat}(h:n<=need.length): ∀ c∈mY resp need [b] n,c.length=resp.length:=(Um hb h h0).len
theorem aj.QK{b:Bool}{k:Nat}{h:Hz}:aj (.cO [.row 0 false (.dV []),.bool b]) (.cO [.row k true .nil,.bool b]) h:=⟨by
  show T.sub _ _ (.cO [.sl 0 false [],(V.bool b).aF]) (.cO [.sl k true [],(V.bool b).aF])
  simp only[T.sub,T.dJ]
  exact⟨⟨.inl trivial,.inr trivial,fun h=>by cases h⟩,aH _,trivial⟩⟩
def kW(need:List Int):List (List Int):=[List.replicate need.length 0]
theorem QO{c:List Int}{i d B M:Int}(hc: ∀ j,0<=c.getD j 0/\c.getD j 0<=B)(hd:0<=d/\d<=M)(j:Nat):0<=(aS c i d).getD j 0/\(aS c i d).getD j 0<=B+M:=by
 have:=hc j
 rw[eX]
 split<;>omega
theorem QS: ∀ {xs ks c:List Int} {B M:Int},(∀ j,0<=c.getD j 0/\c.getD j 0<=B)->(∀ k∈ks,0<=k/\k<=M)->0<=M-> ∀ j,0<=(lK c xs ks).getD j 0/\(lK c xs ks).getD j 0<=B+xs.length*M:=by
 intro xs
 induction xs with
 |nil=>intro ks c B M hc _ _ j; have:=hc j; simp only[lK,List.length_nil]; omega
 |cons x xs ih =>
  intro ks c B M hc hk hM j
  have hm:(0:Int)<=(xs.length:Int)*M:=Int.mul_nonneg (by omega) hM
  have e:(((x::xs).length:Nat):Int)*M=M+(xs.length:Int)*M:=by rw[List.length_cons,Int.natCast_add,Int.add_mul]; simp only[Int.natCast_one,Int.one_mul]; omega
  cases ks with
  |nil=>have:=hc j; rw[e]; simp only[lK]; omega
  |cons k ks =>
   have:=ih (c:=aS c x k) (B:=B+M) (ks:=ks) (QO hc (hk k (by simp))) (fun y hy=>hk y (List.mem_cons_of_mem _ hy)) hM j
   rw[e]
   simp only[lK]
   omega
theorem Ve: ∀ {l:List Int} {x:Int},(∀ y∈l,0<=y)->x∈l->x<=l.sum:=by
 intro l
 induction l with
 |nil=>intro x _ h; cases h
 |cons a l ih =>
  intro x h0 hx
  have ha:=h0 a (by simp)
  have hl: ∀ y∈l,0<=y:=fun y hy=>h0 y (List.mem_cons_of_mem _ hy)
  have hs:0<=l.sum:=by
   cases l with
   |nil=>simp
   |cons b l=>exact Int.le_trans (hl b (by simp)) (ih hl (by simp))
  rw[List.sum_cons]
  rcases List.mem_cons.1 hx with rfl|hx
  ·omega
  ·have:=ih hl hx; omega
theorem Vf{resp need:List Int}(h0:Lr need)(hl:resp.length<=6): ∀ t:Nat,∀ c∈mY resp need (kW need) t,∀ j,0<=c.getD j 0/\c.getD j 0<=(t:Int)*6291456:=by
 intro t
 induction t with
 |zero =>
  intro c hc j
  have:c=List.replicate need.length 0:=by simpa [mY,kW] using hc
  subst this
  rw[List.getD_eq_getElem?_getD,List.getElem?_replicate]
  split<;>simp
 |succ t ih =>
  intro c hc j
  rw[yh] at hc
  unfold FP at hc
  cases hz:(need.getD t 0==0) with
  |true =>
   rw[hz] at hc
   have:=ih c hc j
   omega
  |false =>
   rw[hz,cond_false,List.mem_flatMap] at hc
   obtain⟨b,hb,hc⟩:=hc
   rw[xq,List.mem_map] at hc
   obtain⟨s,hs,rfl⟩:=hc
   have hm:=qK h0 t
   obtain⟨hs1,hs2⟩:=Ij hs
   have hx:(fQ resp t).length<=6:=Nat.le_trans (MZ (resp:=resp) (t:=t) (i:=resp.length)) hl
   have:=QS (xs:=fQ resp t) (ks:=s) (M:=1048576) (ih b hb) (fun k hk=>⟨hs2 k hk,by have:=Ve hs2 hk; rw[hs1] at this; omega⟩) (by decide) j
   have:((fQ resp t).length:Int)*1048576<=6*1048576:=Int.mul_le_mul_of_nonneg_right (by omega) (by decide)
   omega
def zO(resp need:List Int):Bool:= !(pF resp need)&&decide ((mY resp need (kW need) need.length).length<=100)
abbrev Ib(O:List (List Int))(xs:List Int)(k:Nat):List (Nat×OV):=[(9,.row 24 0 (.dV O) []),(10,mF xs),(11,xg k)]
theorem kC{ρ:Nat->Nat}{nx pn:Nat}{h:Hz}{c n:Nat}{o:OV}{l:List (Nat×OV)}{s:List Nat}(h1:Nat.blt c nx=true)(h2:Nat.blt c pn=true->n=c)(h3:oV n s=true)(h4:o.good nx=true)(h5: ∃ o',h.get n=some o'/\o'.aA.ty=o.aA.ty/\o'.aA.k=o.aA.k/\aI (T.bQ ρ o.aA.l) o'.aA.l)(h6:okR ρ nx pn h l s):okR ρ nx pn h ((c,o)::l) (n::s):=⟨⟨h1,h2,h3,h4,h5⟩,h6⟩
set_option maxHeartbeats 4000000 in
theorem S.o9(resp need:List Int)(f g:Bool)(hn:need.length=resp.length)(hn0:0<need.length)(hn6:need.length<=6)(h0:Lr need)(_hp:uG need.length resp) :
  (zO resp need=true->Bc Tryz.prog 121 [.row 0 f (.ints resp),.row 0 g (.ints need)] (fun n=>.cO [.own n,.bool true]) 24 ((mY resp need (kW need) need.length).map mF)) /\
  (zO resp need=false->ak Tryz.prog 121 [.row 0 f (.ints resp),.row 0 g (.ints need)] (.cO [.row 0 false (.dV []),.bool (pF resp need)])):=by
 have hpos: ∀ i,0<=need.getD i 0:=fun i=>(qK h0 i).1
 refine adW.of (zO resp need) Bd.o9 (by simp) rfl (ZK true) IQ rfl ?_
 conv=>whnf
 refine aG.objs 0 [24,25,0,1] (fun i:Nat=>[(26,.int i)]) (fun _=>[]) (fun i=>i<=need.length/\Ko resp need i=false) (fun i=>need.length-i) 0 [] rfl (by decide) (fun _=>rfl) ⟨Nat.zero_le _,rfl⟩ (sR rfl) trivial ?_
 conv=>whnf
 refine⟨(sR rfl),rfl,?_⟩
 rintro i ⟨hi,hs⟩
 conv=>whnf
 refine⟨fun h1=>?_,fun h1=>?_⟩
 ·have hi':i<need.length:=by simpa using h1
  conv=>whnf
  repeat(refine VC.mk (by first|exact fun h=>⟨h,h⟩|(simp only[Rw.rng] at *; first|omega|(simp_all; done)|(simp_all; omega))) ?_; conv=>whnf)
  refine ah.gJ (fun _=>S.slices_Contains_int resp i f (by omega)) rfl ?_
  conv=>whnf
  repeat(refine VC.mk id ?_; conv=>whnf)
  refine⟨fun h2=>?_,fun h2=>?_⟩
  ·replace h2:(decide (0<need.getD i 0)&& !(Lm resp i))=true:=h2
   have hS:=Xq hi' h2
   conv=>whnf
   rw[show zO resp need=false by unfold zO; rw[hS]; rfl,hS]
   exact⟨nofun,fun _=>aj.QK⟩
  ·replace h2:(decide (0<need.getD i 0)&& !(Lm resp i))=false:=h2
   conv=>whnf
   refine .mk (by simp only[okI] at *; first|omega|(simp_all; done)|(simp_all; omega)) ?_
   conv=>whnf
   exact⟨i+1,[],⟨hi',by rw[QN,hs,h2]; rfl⟩,by omega,(sR rfl),(sR rfl),trivial⟩
 ·have hi':i=need.length:=by have:=of_decide_eq_false h1; omega
  subst hi'
  rw[Uc] at hs
  conv=>whnf
  rw[I7 hn0]
  conv=>whnf
  refine .mk (by omega) ?_
  conv=>whnf
  have hz:(kW need).length=1:=rfl
  have aff: ∀ t,need.getD t 0≠0->fQ resp t≠[]:=IX hs hpos
  refine aG.fam 20000 [44,45,0] (fun t:Nat=>[(46,.int t),(8,.own 9)]) (fun t=>xP [(9,xg (mY resp need (kW need) t).length)]++iP 10000 (fR (mY resp need (kW need) t))) (fun t=>t<=need.length/\(mY resp need (kW need) t).length<=100) (fun t=>need.length-t) 0 (nG 10000 (fun _=>3) (iI [(9,xg 1)] [4])) _ rfl (by decide) (fun _=>rfl) ⟨Nat.zero_le _,by show 1<=100; decide⟩ (sR rfl) (.inl rfl) ?_ ?_
  ·refine jY.fam (g:=fun _=>3) [(9,xg 1)] [4] ?_ rfl (Nat.zero_le _) (show 10000+1<=20000 by decide) (fun j o q=>?_) (fun j j' o o' q q' _=>?_)
   ·exact kC rfl nofun rfl (dD (by decide)) ⟨_,rfl,rfl,rfl,.refl _⟩ trivial
   ·match j,q with
    |0,q=>cases q; exact⟨rfl,rfl,⟨_,rfl,rfl⟩,rfl⟩
    |j+1,q=>cases q
   ·match j,j',q,q' with
    |0,0,_,_=>rfl
    |j+1,_,q,_=>cases q
    |0,j+1,_,q=>cases q
  conv=>whnf
  refine⟨(sR rfl),rfl,?_⟩
  clear h1 hi
  rintro t ⟨ht,hL⟩
  have hlen: ∀ c∈mY resp need (kW need) t,c.length=resp.length:=Vd (by simp[hn]) hn hpos ht
  have Yy:=Vf h0 (by omega:resp.length<=6) t
  have hne:(mY resp need (kW need) t)≠[]:=by
   have:=QH (resp:=resp) (need:=need) (out:=kW need) aff (n:=0) t
   rw[Nat.zero_add] at this
   intro h
   rw[h] at this
   exact absurd this (by show ¬ 1<=0; decide)
  have hnx:mY resp need (kW need) (t+1)=FP resp need (mY resp need (kW need) t) t:=yh
  have hbig: ∀ u,u<=need.length->100<(mY resp need (kW need) u).length->zO resp need=false:=fun u hu hb=>by
   have:=abY aff hu hb
   unfold zO
   rw[decide_eq_false (by omega),Bool.and_false]
  generalize hO:mY resp need (kW need) t=OUT at hL hlen hne hnx Yy
  conv=>whnf
  refine⟨fun h1=>?_,fun h1=>?_⟩
  ·have ht':t<need.length:=by simpa using h1
   conv=>whnf
   refine .mk (by simp only[Rw.rng] at *; first|omega|(simp_all; done)|(simp_all; omega)) ?_
   conv=>whnf
   refine⟨fun h2=>?_,fun h2=>?_⟩
   ·replace h2:(need.getD t 0==0)=true:=h2
    have hsame:mY resp need (kW need) (t+1)=OUT:=by rw[hnx]; unfold FP; rw[h2]; rfl
    conv=>whnf
    refine .mk (by simp only[okI] at *; first|omega|(simp_all; done)|(simp_all; omega)) ?_
    conv=>whnf
    refine rC.Fg 20000 (t+1) (fR OUT) [(9,xg OUT.length)] [9] (by rw[hsame]) ⟨ht',by rw[hsame]; exact hL⟩ (by omega) ?_ rfl rfl (Nat.zero_le _) (by rw[gW]; omega) (by decide) jd (sR rfl) (sR rfl) ?_
    (repeat' (first|refine dw.lo rfl ?_|refine dw.hi rfl ?_|exact dw.nil))
    ·exact kC rfl nofun rfl (dD (by omega)) ⟨_,rfl,rfl,rfl,jL⟩ trivial
   ·replace h2:(need.getD t 0==0)=false:=h2
    conv=>whnf
    refine aG.nil 11 3 0 (by rfl) rfl rfl rfl ?_
    refine aG.fam 20000 [53,54,9,10,8,46,44,45,0] (fun i:Nat=>[(55,.int i),(11,.own 10)]) (fun i=>xP [(9,xg OUT.length),(10,mF (oU resp t i))]++iP 10000 (fR OUT)) (fun i=>i<=resp.length) (fun i=>resp.length-i) 0 (nG 10000 (fun j=>10000+j) (iI [(9,xg OUT.length),(10,mF [])] [9,20012])) _ rfl (by decide) (fun _=>rfl) (Nat.zero_le _) (sR rfl) (.inl rfl) ?_ ?_
    ·refine jY.Va 20000 [(9,xg OUT.length),(10,mF [])] [9,20012] ?_ rfl rfl (Nat.zero_le _) (by rw[gW]; omega) (by decide) jd ?_
     (repeat' (first|refine dw.lo rfl ?_|refine dw.hi rfl ?_|exact dw.nil))
     ·exact kC rfl nofun rfl (dD (by omega)) ⟨_,rfl,rfl,rfl,jL⟩ (kC rfl nofun rfl rfl ⟨_,rfl,rfl,rfl,.refl _⟩ trivial)
    conv=>whnf
    refine⟨(sR rfl),rfl,?_⟩
    rintro i hi
    have hfl:=MZ (resp:=resp) (t:=t) (i:=i)
    conv=>whnf
    refine⟨fun h3=>?_,fun h3=>?_⟩
    ·have hi':i<resp.length:=by simpa using h3
     conv=>whnf
     refine .mk (by simp only[Rw.rng] at *; first|omega|(simp_all; done)|(simp_all; omega)) ?_
     conv=>whnf
     refine⟨fun h4=>?_,fun h4=>?_⟩
     ·replace h4:(resp.getD i 0==(t:Int))=true:=h4
      have hf:oU resp t (i+1)=oU resp t i++[(i:Int)]:=by rw[CY,h4]; rfl
      conv=>whnf
      repeat(refine VC.mk (by first|(simp only[nK,nT,Rw.len,List.length_cons,List.length_nil]; omega)|(simp only[okI] at *; first|omega|(simp_all; done)|(simp_all; omega))) ?_; conv=>whnf)
      refine rC.Fg 20000 (i+1) (fR OUT) [(9,xg OUT.length),(10,mF (oU resp t (i+1)))] [9,20012] rfl hi' (by omega) ?_ rfl rfl (Nat.zero_le _) (by rw[gW]; omega) (by decide) jd (sR rfl) (sR rfl) ?_
      (repeat' (first|refine dw.lo rfl ?_|refine dw.hi rfl ?_|exact dw.nil))
      ·exact kC rfl nofun rfl (dD (by omega)) ⟨_,rfl,rfl,rfl,jL⟩ (kC rfl nofun rfl rfl ⟨_,rfl,rfl,rfl,by rw[hf,OV.dU rfl]; exact .refl _⟩ trivial)
     ·replace h4:(resp.getD i 0==(t:Int))=false:=h4
      have hf:oU resp t (i+1)=oU resp t i:=by rw[CY,h4]; rfl
      conv=>whnf
      refine .mk (by simp only[okI] at *; first|omega|(simp_all; done)|(simp_all; omega)) ?_
      conv=>whnf
      refine rC.Fg 20000 (i+1) (fR OUT) [(9,xg OUT.length),(10,mF (oU resp t (i+1)))] [9,10] rfl hi' (by omega) ?_ rfl rfl (Nat.zero_le _) (by rw[gW]; omega) (by decide) jd (sR rfl) (sR rfl) ?_
      (repeat' (first|refine dw.lo rfl ?_|refine dw.hi rfl ?_|exact dw.nil))
      ·exact kC rfl nofun rfl (dD (by omega)) ⟨_,rfl,rfl,rfl,jL⟩ (kC rfl nofun rfl rfl ⟨_,rfl,rfl,rfl,by rw[hf,OV.dU rfl]; exact .refl _⟩ trivial)
    ·have hi':i=resp.length:=by have:=of_decide_eq_false h3; omega
     subst hi'
     have hFr:oU resp t resp.length=fQ resp t:=rfl
     rw[hFr] at hfl ⊢
     have hrg: ∀ x∈fQ resp t,0<=x/\x<resp.length:=fun x hx=>Xp x (hFr▸hx)
     have hm:=qK h0 t
     have hm0:need.getD t 0≠0:=by simpa using h2
     generalize hX:fQ resp t=XS at hfl hrg
     obtain⟨m,hm'⟩: ∃ m:Nat,need.getD t 0=(m:Int):=⟨(need.getD t 0).toNat,by omega⟩
     have hmT:(need.getD t 0).toNat=m:=by omega
     have htl:=abV (resp:=resp) (out:=OUT) hm0
     rw[hX,hmT,<- hnx] at htl
     conv=>whnf
     rw[show need.getD ((t:Int)).toNat 0=(m:Int) from hm']
     refine ah.pure (S.mg XS.length m (by omega) (by omega)) GV ?_
     by_cases hd:(jm XS.length m).length<=100
     ·rw[yV hd]
      have hmul:OUT.length*(jm XS.length m).length<=100*100:=Nat.mul_le_mul hL hd
      conv=>whnf
      repeat(refine VC.mk (by first|(intro _; refine⟨rfl,rfl,?_⟩; show okI (((qI 10000 OUT.length).length:Int)*((jm XS.length m).length:Int)); rw[oC,<- Int.natCast_mul]; simp only[okI]; omega)|exact fun h=>h|(intro h; rw[h]; rfl)) ?_; conv=>whnf)
      refine⟨fun h4=>?_,fun h4=>?_⟩
      ·have hf:100<OUT.length*(jm XS.length m).length:=by
        replace h4:decide (100<((qI 10000 OUT.length).length:Int)*((jm XS.length m).length:Int))=true:=h4
        have:=of_decide_eq_true h4
        rw[oC,<- Int.natCast_mul] at this
        omega
       have hno:=hbig (t+1) ht' (by rw[htl]; exact hf)
       rw[hno,hs]
       conv=>whnf
       exact⟨nofun,fun _=>aj.QK⟩
      ·have hf:OUT.length*(jm XS.length m).length<=100:=by
        replace h4:decide (100<((qI 10000 OUT.length).length:Int)*((jm XS.length m).length:Int))=false:=h4
        have:=of_decide_eq_false h4
        rw[oC,<- Int.natCast_mul] at this
        omega
       have hsl: ∀ x∈jm XS.length m,x.length=XS.length/\(x.sum=m/\ ∀ y∈x,0<=y):=fun x hx=>⟨y5 hx,Ij hx⟩
       have hfin:(OUT.flatMap fun c=>(jm XS.length m).map fun x=>lK c XS x)=mY resp need (kW need) (t+1):=by
        rw[hnx]
        unfold FP
        rw[h2,hX,hmT]
        show _=OUT.flatMap _
        congr 1
        funext c
        rw[xq]
       generalize hS:jm XS.length m=SH at hf hsl hd hfin
       conv=>whnf
       refine aG.nil 16 24 0 (by rfl) rfl rfl rfl ?_
       refine aG.fam 20000 [85,86,14,11,46,44,45,0] (fun i:Nat=>[(87,.int i),(16,.own 11)]) (fun i=>xP (Ib OUT XS (CV OUT SH XS i 0).length)++iP 10000 (fR (CV OUT SH XS i 0))) (fun i=>i<=OUT.length) (fun i=>OUT.length-i) 0 (nG 10000 (fun j=>10000+j) (iI (Ib OUT XS 0) [9,10,20024])) [(9,some (.row 24 0 (.dV OUT) [])),(10,some (mF XS)),(20024,some (.row 24 0 .nil []))] rfl (by decide) (fun _=>rfl) (Nat.zero_le _) (sR rfl) (.inr ⟨fun c=>10000<=c/\c<20000,Xo (R:=OUT) 20000 rfl (show ¬ (10000<=9/\9<20000) by omega) (fun j hj=>show 10000<=10000+j/\10000+j<20000 by omega) ?_ (by omega) (BR rfl (show ¬ (10000<=10/\10<20000) by omega) (BR rfl (show ¬ (10000<=20024/\20024<20000) by omega) trivial))⟩) ?_ ?_
       (repeat' (first|refine dw.lo rfl ?_|refine dw.hi rfl ?_|exact dw.nil))
       ·refine jY.fam (g:=fun j=>10000+j) (Ib OUT XS 0) [9,10,20024] ?_ rfl (Nat.zero_le _) (show 10000+0<=20000 by decide) (fun j o q=>by cases q) (fun j _ o _ q=>by cases q)
        exact kC rfl nofun rfl rfl ⟨_,rfl,rfl,rfl,by rw[OV.dU rfl]; exact .refl _⟩ (kC rfl nofun rfl rfl ⟨_,rfl,rfl,rfl,by rw[OV.dU rfl]; exact .refl _⟩ (kC rfl nofun rfl rfl ⟨_,rfl,rfl,rfl,.refl _⟩ trivial))
       conv=>whnf
       refine⟨(sR rfl),rfl,?_⟩
       clear hi
       rintro i hi
       have hN0:=OH (xs:=XS) hi (Nat.zero_le SH.length)
       have ad1: ∀ i j,i<OUT.length->j<=SH.length->i*SH.length+j<=100:=fun i j h1 h2=>by
        have:=Nat.mul_le_mul_right SH.length h1
        rw[Nat.succ_mul] at this
        omega
       have hN0':i*SH.length<=100:=Nat.le_trans (Nat.mul_le_mul_right _ hi) hf
       conv=>whnf
       refine⟨fun h5=>?_,fun h5=>?_⟩
       ·have hi':i<OUT.length:=by simpa using h5
        have hmem:OUT.getD ((i:Int)).toNat []∈OUT:=by show OUT.getD i []∈OUT; rw[getD_some hi']; exact List.getElem_mem hi'
        have hb:=hlen _ hmem
        have hbb:=Yy _ hmem
        conv=>whnf
        repeat(refine VC.mk (by simp only[Rw.rng] at *; first|omega|(simp_all; done)|(simp_all; omega)) ?_; conv=>whnf)
        refine aG.fam 20000 [91,92,18,11,87,85,86,14,46,44,45,0] (fun j:Nat=>[(93,.int j),(16,.own 11)]) (fun j=>xP (Ib OUT XS (CV OUT SH XS i j).length)++iP 10000 (fR (CV OUT SH XS i j))) (fun j=>j<=SH.length) (fun j=>SH.length-j) 0 (nG 10000 (fun j=>10000+j) (iI (Ib OUT XS (CV OUT SH XS i 0).length) [9,10,11])) _ rfl (by decide) (fun _=>rfl) (Nat.zero_le _) (sR rfl) (.inl rfl) ?_ ?_
        ·refine jY.Va 20000 (Ib OUT XS (CV OUT SH XS i 0).length) [9,10,11] ?_ rfl rfl (Nat.zero_le _) (by rw[gW]; omega) (by decide) jd ?_
         (repeat' (first|refine dw.lo rfl ?_|refine dw.hi rfl ?_|exact dw.nil))
         ·exact kC rfl nofun rfl rfl ⟨_,rfl,rfl,rfl,by rw[OV.dU rfl]; exact .refl _⟩ (kC rfl nofun rfl rfl ⟨_,rfl,rfl,rfl,by rw[OV.dU rfl]; exact .refl _⟩ (kC rfl nofun rfl (dD (by omega)) ⟨_,rfl,rfl,rfl,jL⟩ trivial))
        conv=>whnf
        refine⟨(sR rfl),rfl,?_⟩
        rintro j hj
        have hNj:=OH (xs:=XS) hi hj
        have aga:=ad1 i j hi' hj
        conv=>whnf
        refine⟨fun h6=>?_,fun h6=>?_⟩
        ·have hj':j<SH.length:=by simpa using h6
         have hNs:CV OUT SH XS i (j+1)=CV OUT SH XS i j++[lK (OUT.getD ((i:Int)).toNat []) XS (SH.getD ((j:Int)).toNat [])]:=ZP hj'
         have hN1:=OH (xs:=XS) hi hj'
         rw[hNs] at hN1
         have agb:=ad1 i (j+1) hi' hj'
         obtain⟨hs1,hs2,hs3⟩:=hsl (SH.getD ((j:Int)).toNat []) (by show SH.getD j []∈SH; rw[getD_some hj']; exact List.getElem_mem hj')
         have hs4: ∀ k∈SH.getD ((j:Int)).toNat [],0<=k/\k<=1048576:=fun k hk=>⟨hs3 k hk,by have:=Ve hs3 hk; rw[hs2] at this; omega⟩
         conv=>whnf
         repeat(refine VC.mk (by first|(simp only[nK,nT,Rw.len]; omega)|(simp only[Rw.rng] at *; first|omega|(simp_all; done)|(simp_all; omega))) ?_; conv=>whnf)
         generalize hbase:OUT.getD ((i:Int)).toNat []=base at hb hbb hNs hN1 ⊢
         generalize agc:SH.getD ((j:Int)).toNat []=shr at hs1 hs2 hs3 hs4 hNs hN1 ⊢
         refine aG.fam 20000 [99,100,11,16,93,91,92,18,87,85,86,14,46,44,45,0] (fun x:Nat=>[(101,.int x),(21,.own 12)]) (fun x=>xP (Ib OUT XS (CV OUT SH XS i j).length++[(12,mF (GX base XS shr x))])++iP 10000 (fR (CV OUT SH XS i j))) (fun x=>x<=shr.length) (fun x=>shr.length-x) 0 (nG 10000 (fun j=>10000+j) (iI (Ib OUT XS (CV OUT SH XS i j).length++[(12,mF (GX base XS shr 0))]) [9,10,11,20005])) _ rfl (by decide) (fun _=>rfl) (Nat.zero_le _) (sR rfl) (.inl rfl) ?_ ?_
         ·refine jY.Va 20000 (Ib OUT XS (CV OUT SH XS i j).length++[(12,mF (GX base XS shr 0))]) [9,10,11,20005] ?_ rfl rfl (Nat.zero_le _) (by rw[gW]; omega) (by decide) jd ?_
          (repeat' (first|refine dw.lo rfl ?_|refine dw.hi rfl ?_|exact dw.nil))
          ·exact kC rfl nofun rfl rfl ⟨_,rfl,rfl,rfl,by rw[OV.dU rfl]; exact .refl _⟩ (kC rfl nofun rfl rfl ⟨_,rfl,rfl,rfl,by rw[OV.dU rfl]; exact .refl _⟩ (kC rfl nofun rfl (dD (by omega)) ⟨_,rfl,rfl,rfl,jL⟩ (kC rfl nofun rfl rfl ⟨_,rfl,rfl,rfl,by rw[OV.dU rfl]; exact .refl _⟩ trivial)))
         conv=>whnf
         refine⟨(sR rfl),rfl,?_⟩
         rintro x hx
         have hpl:=@ZO base XS shr x
         have hpb: ∀ k,0<=(GX base XS shr x).getD k 0/\(GX base XS shr x).getD k 0<=50000000:=fun k=>by
          have h1:=QS (xs:=XS.take x) (ks:=shr.take x) (M:=1048576) hbb (fun k hk=>hs4 k (List.mem_of_mem_take hk)) (by decide) k
          have h2:((XS.take x).length:Int)*1048576<=6*1048576:=Int.mul_le_mul_of_nonneg_right (by rw[List.length_take]; omega) (by decide)
          have h3:(t:Int)*6291456<=6*6291456:=Int.mul_le_mul_of_nonneg_right (by omega) (by decide)
          unfold GX
          omega
         conv=>whnf
         refine⟨fun h7=>?_,fun h7=>?_⟩
         ·have hx':x<shr.length:=by simpa using h7
          have afV:=Xr (c:=base) (xs:=XS) (ks:=shr) (i:=x) (by omega) hx'
          have hxr:=hrg (XS.getD x 0) (by rw[getD_some (by omega)]; exact List.getElem_mem _)
          have hxk:=hs4 (shr.getD x 0) (by rw[getD_some hx']; exact List.getElem_mem _)
          have hpx:=hpb (XS.getD ((x:Int)).toNat 0).toNat
          replace hxr:0<=XS.getD ((x:Int)).toNat 0/\XS.getD ((x:Int)).toNat 0<resp.length:=hxr
          replace hxk:0<=shr.getD ((x:Int)).toNat 0/\shr.getD ((x:Int)).toNat 0<=1048576:=hxk
          conv=>whnf
          repeat(refine VC.mk (by first|(simp only[Rw.rng]; omega)|(simp only[okI]; omega)) ?_; conv=>whnf)
          refine rC.Fg 20000 (x+1) (fR (CV OUT SH XS i j)) (Ib OUT XS (CV OUT SH XS i j).length++[(12,mF (GX base XS shr (x+1)))]) [9,10,11,12] rfl hx' (by omega) ?_ rfl rfl (Nat.zero_le _) (by rw[gW]; omega) (by decide) jd (sR rfl) (sR rfl) ?_
          (repeat' (first|refine dw.lo rfl ?_|refine dw.hi rfl ?_|exact dw.nil))
          ·exact kC rfl nofun rfl rfl ⟨_,rfl,rfl,rfl,by rw[OV.dU rfl]; exact .refl _⟩ (kC rfl nofun rfl rfl ⟨_,rfl,rfl,rfl,by rw[OV.dU rfl]; exact .refl _⟩ (kC rfl nofun rfl (dD (by omega)) ⟨_,rfl,rfl,rfl,jL⟩ (kC rfl nofun rfl rfl ⟨_,rfl,rfl,rfl,by rw[afV,OV.dU rfl]; exact .refl _⟩ trivial)))
         ·have hx':x=shr.length:=by have:=of_decide_eq_false h7; omega
          subst hx'
          rw[ZN hs1.symm] at hpl ⊢
          conv=>whnf
          repeat(refine VC.mk (by first|(show((qI 10000 (CV OUT SH XS i j).length).length+(0+1))*24<=140737488355328/\(qI 10000 (CV OUT SH XS i j).length).length+(0+1)<=1152921504606846976; rw[oC]; omega)|(simp only[okI] at *; first|omega|(simp_all; done)|(simp_all; omega))) ?_; conv=>whnf)
          refine rC.Zo 20000 (j+1) (CV OUT SH XS i j).length 12 (fR (CV OUT SH XS i j)) (fR (CV OUT SH XS i j++[lK base XS shr])) (Ib OUT XS ((CV OUT SH XS i j).length+1)) [9,10,20004] (by rw[hNs,List.length_append]; rfl) hj' (by omega) ?_ rfl rfl rfl (Nat.zero_le _) (by rw[gW]; omega) (by rw[gW]; omega) (by decide) jd ?_ (Ub rfl) (sR rfl) (sR rfl) ?_
          (repeat' (first|refine dw.lo rfl ?_|refine dw.hi rfl ?_|exact dw.nil))
          ·intro o ho
           rw[OC rfl] at ho
           cases ho
           exact⟨_,rfl,rfl⟩
          ·exact kC rfl nofun rfl rfl ⟨_,rfl,rfl,rfl,by rw[OV.dU rfl]; exact .refl _⟩ (kC rfl nofun rfl rfl ⟨_,rfl,rfl,rfl,by rw[OV.dU rfl]; exact .refl _⟩ (kC rfl nofun rfl (dD (by omega)) ⟨_,rfl,rfl,rfl,GN⟩ trivial))
        ·have hj':j=SH.length:=by have:=of_decide_eq_false h6; omega
         subst hj'
         have hst:=ZQ (S:=SH) (xs:=XS) hi'
         conv=>whnf
         refine .mk (by simp only[okI] at *; first|omega|(simp_all; done)|(simp_all; omega)) ?_
         conv=>whnf
         refine rC.Fg 20000 (i+1) (fR (CV OUT SH XS i SH.length)) (Ib OUT XS (CV OUT SH XS i SH.length).length) [9,10,11] (by rw[hst]) hi' (by omega) ?_ rfl rfl (Nat.zero_le _) (by rw[gW]; omega) (by decide) jd (sR rfl) (sR rfl) ?_
         (repeat' (first|refine dw.lo rfl ?_|refine dw.hi rfl ?_|exact dw.nil))
         ·exact kC rfl nofun rfl rfl ⟨_,rfl,rfl,rfl,by rw[OV.dU rfl]; exact .refl _⟩ (kC rfl nofun rfl rfl ⟨_,rfl,rfl,rfl,by rw[OV.dU rfl]; exact .refl _⟩ (kC rfl nofun rfl (dD (by omega)) ⟨_,rfl,rfl,rfl,jL⟩ trivial))
       ·have hi':i=OUT.length:=by have:=of_decide_eq_false h5; rw[oC] at this; omega
        subst hi'
        rw[abZ,hfin] at hN0 ⊢
        conv=>whnf
        refine .mk (by simp only[okI] at *; first|omega|(simp_all; done)|(simp_all; omega)) ?_
        conv=>whnf
        refine rC.Fg 20000 (t+1) (fR (mY resp need (kW need) (t+1))) [(9,xg (mY resp need (kW need) (t+1)).length)] [11] rfl ⟨ht',by omega⟩ (by omega) ?_ rfl rfl (Nat.zero_le _) (by rw[gW]; omega) (by decide) jd (sR rfl) (sR rfl) ?_
        (repeat' (first|refine dw.lo rfl ?_|refine dw.hi rfl ?_|exact dw.nil))
        ·exact kC rfl nofun rfl (dD (by omega)) ⟨_,rfl,rfl,rfl,jL⟩ trivial
     ·have hnone:divO XS.length m=none:=by unfold divO; rw[if_neg hd]
      rw[BQ hnone]
      have hno:=hbig (t+1) ht' (by
       rw[htl]
       have:0<OUT.length:=List.length_pos_iff.2 hne
       exact Nat.lt_of_lt_of_le (by omega:100<(jm XS.length m).length) (Nat.le_mul_of_pos_left _ this))
      rw[hno,hs]
      conv=>whnf
      repeat(refine VC.mk (by first|exact id|(intro h; rw[h]; rfl)|(intro h; simp_all; done)) ?_; conv=>whnf)
      refine Fork.mk (fun _=>?_) (fun q=>absurd (q.symm.trans (rfl)) Bool.false_ne_true)
      conv=>whnf
      exact⟨nofun,fun _=>aj.QK⟩
  ·have ht':t=need.length:=by have:=of_decide_eq_false h1; omega
   subst ht'
   have hok:zO resp need=true:=by unfold zO; rw[hs,hO,decide_eq_true hL]; rfl
   rw[hok,hO]
   conv=>whnf
   refine⟨fun _=>OB.fam 20000 rfl (by decide) ?_ (by omega),nofun⟩
   (repeat' (first|refine dw.lo rfl ?_|refine dw.hi rfl ?_|exact dw.nil))
theorem MN.fR(C k:Nat){j:Nat}{R:List (List Int)}{h:Hz}{K:Nat->Rw->Prop}(e:h.drop k=iP 10000 (fR R))(ho:DT 10000 C (h.take k)=true)(hC:10000+R.length<=C)(hj:j<R.length)(hK:K 0 (.ints (R.getD j []))):MN h (10000+j) K :=
 MN.fam C (show Cc (h.take k) _ h from by rw[Cc,<- e,List.take_append_drop]) ho (by rw[gW]; exact hC) (J8 hj) hK
theorem ad2{R:List (List Int)}{j:Nat}{r:List Int}:(fR R).set j (some (mF r))=fR (R.set j r):=(List.map_set ..).symm
theorem Le.fR(C k:Nat){j x:Nat}{R:List (List Int)}{v:V}{h:Hz}{K:Hz->Prop}(r':List Int)(e:h.drop k=iP 10000 (fR R))(ho:DT 10000 C (h.take k)=true)(hC:10000+R.length<=C)(hj:j<R.length)(hr:x<(R.getD j []).length)(hs:(Rw.ints (R.getD j [])).set x v=some (.ints r'))
  (hK:K (h.take k++iP 10000 (fR (R.set j r')))):Le h (10000+j) x 0 v K :=
 Le.fam C (show Cc (h.take k) _ h from by rw[Cc,<- e,List.take_append_drop]) ho (by rw[gW]; exact hC) (J8 hj) hs (by show 0<=(x:Int)/\(x:Int)<_; omega) (by rw[ad2]; exact hK)
theorem Vg{B k:Nat}{f:Nat->Nat}:aI (T.bQ (nG 10000 (fun j=>B+j) f) (xg k).aA.l) (Ba 24 B k).aA.l:=by
 refine aI.of_eq ?_
 show T.bQ _ (V.aW (qI 10000 k))=V.aW (qI B k)
 rw[lG,lG,GL,List.map_map]
 refine List.map_congr_left fun j _=>?_
 show T.own (nG 10000 (fun j=>B+j) f (10000+j))=T.own (B+j)
 rw[uX]
theorem Vh{n j:Nat}{x:Option OV}{L:List (Option OV)}{h:Hz}(hj:j<L.length):Hz.get (n+1+j) ((n,x)::(iP (n+1) L++h))=(L[j]?).join:=by
 simp only[Hz.get]
 have hne:Nat.beq n (n+1+j)=false:=by
  cases e:Nat.beq n (n+1+j) with
  |false=>rfl
  |true=>have:=eY e; omega
 rw[hne,cond_false,TU hj]
theorem ZR{a x y:Nat}(h1:a≠x)(h2:a≠y):oV a [x,y]=true:=by
 have e: ∀ z,a≠z->Nat.beq a z=false:=fun z h=>by
  cases e:Nat.beq a z with
  |false=>rfl
  |true=>exact absurd (eY e) h
 simp only[oV,e x h1,e y h2]; rfl
def xk(R:List (List Int))(f:Int)(i:Nat):List (List Int):=(R.take i).map (fun l=>aS l f 1)++R.drop i
theorem uz{R:List (List Int)}{f:Int}{i:Nat}(h:i<=R.length):(xk R f i).length=R.length:=by
 unfold xk
 rw[List.length_append,List.length_map,List.length_take,List.length_drop]; omega
theorem Fv{R:List (List Int)}{f:Int}{i:Nat}(h:i<R.length):(xk R f i).getD i []=R.getD i []:=by
 unfold xk
 rw[List.getD_eq_getElem?_getD,List.getElem?_append_right (by rw[List.length_map,List.length_take]; omega),List.length_map,List.length_take,Nat.min_eq_left (by omega),Nat.sub_self,List.getElem?_drop,Nat.add_zero,<- List.getD_eq_getElem?_getD]
theorem Fz{R:List (List Int)}{f:Int}{i:Nat}(h:i<R.length):xk R f (i+1)=(xk R f i).set i (aS (R.getD i []) f 1):=by
 unfold xk
 rw[List.take_succ_eq_append_getElem h,List.map_append,List.set_append_right _ _ (by rw[List.length_map,List.length_take]; omega),List.length_map,List.length_take,Nat.min_eq_left (by omega),Nat.sub_self,List.drop_eq_getElem_cons h,List.set_cons_zero,getD_some h,List.append_assoc]; rfl
theorem FB{R:List (List Int)}{f:Int}:xk R f R.length=R.map fun l=>aS l f 1:=by
 unfold xk
 rw[List.take_length,List.drop_length,List.append_nil]
theorem vM{R:List (List Int)}{f:Int}:xk R f 0=R:=rfl
theorem QT{n:Nat}{x:Option OV}{L:List (Option OV)}{i:Nat}{o:OV}{h:Hz}(hi:i<n)(e:h.get i=some o:=by rfl):Hz.get i ((n,x)::(iP (n+1) L++h))=some o:=by
 simp only[Hz.get]
 have hne:Nat.beq n i=false:=by
  cases e:Nat.beq n i with
  |false=>rfl
  |true=>have:=eY e; omega
 rw[hne,cond_false,OA (.inl (by omega)),e]
def Kq(r:Rule)(c:List Int):V:=bif decide ((yg r c).length<=100) then .cO [.row 0 false (.dV (yg r c)),.bool true] else .cO [.row 0 false (.dV []),.bool false]
theorem Na{r:Rule}{c:List Int}:(Kq r c).free=true:=by unfold Kq; cases decide ((yg r c).length<=100)<;>rfl
theorem xu{r:Rule}{c:List Int}:zZ r c=(bif r.kind==1 then(bif oP r (fP c r.to) then [fP c r.to] else r.ex.map fun x=>aS (fP c r.to) x 1) else
  bif r.kind==2 then [aS (fP (fP c r.to) r.wX) r.dS 1] else
  bif r.kind==3 then(bif pF r.response (fP c r.to) then [] else mY r.response (fP c r.to) (kW (fP c r.to)) (fP c r.to).length) else [fP c r.to]):=rfl
theorem wU{c:List Int}{i:Int}(h:Lr c):Lr (fP c i):=by
 intro x hx
 rcases List.mem_or_eq_of_mem_set hx with h1|h1
 ·exact h x h1
 ·have:=qK h i.toNat; omega
theorem CZ{r:Rule}{c:List Int}(hp:FT c.length r)(h0:Lr c)(hl:c.length<=6): ∀ l∈zZ r c,l.length=c.length/\ ∀ j,0<=l.getD j 0/\l.getD j 0<=50000000:=by
 have hd:Lr (fP c r.to):=wU h0
 have hone: ∀ (d:List Int) (x:Int),Lr d-> ∀ j,0<=(aS d x 1).getD j 0/\(aS d x 1).getD j 0<=50000000:=fun d x h j=>by
  have:=QO (B:=1048576) (M:=1) (i:=x) (d:=1) (qK h) (by omega) j
  omega
 intro l hl'
 rw[xu] at hl'
 cases h1:(r.kind==1) with
 |true =>
  rw[h1,cond_true] at hl'
  cases ha:oP r (fP c r.to) with
  |true =>
   rw[ha,cond_true,List.mem_singleton] at hl'
   subst hl'
   exact⟨gX,fun j=>by have:=qK hd j; omega⟩
  |false =>
   rw[ha,cond_false,List.mem_map] at hl'
   obtain⟨x,_,rfl⟩:=hl'
   exact⟨by rw[jf,gX],hone _ x hd⟩
 |false =>
  rw[h1,cond_false] at hl'
  cases h2:(r.kind==2) with
  |true =>
   rw[h2,cond_true,List.mem_singleton] at hl'
   subst hl'
   exact⟨by rw[jf,gX,gX],hone _ _ (wU hd)⟩
  |false =>
   rw[h2,cond_false] at hl'
   cases h3:(r.kind==3) with
   |true =>
    obtain⟨ZT,afg⟩:=hp.rsp (by simpa using h3)
    rw[h3,cond_true] at hl'
    cases hs:pF r.response (fP c r.to) with
    |true=>rw[hs,cond_true] at hl'; cases hl'
    |false =>
     rw[hs,cond_false] at hl'
     have h1:=Vd (b:=List.replicate (fP c r.to).length 0) (by simp[gX,ZT]) (by rw[gX,ZT]) (fun i=>(qK hd i).1) (Nat.le_refl _) l hl'
     refine⟨by rw[h1,ZT],fun j=>?_⟩
     have:=Vf hd (by omega) _ l hl' j
     rw[gX] at this
     have:(c.length:Int)*6291456<=6*6291456:=Int.mul_le_mul_of_nonneg_right (by omega) (by decide)
     omega
   |false =>
    rw[h3,cond_false,List.mem_singleton] at hl'
    subst hl'
    exact⟨gX,fun j=>by have:=qK hd j; omega⟩
abbrev zW(r:Rule):OV:=.box 86 19 (.dat (.rule r))
set_option maxHeartbeats 4000000 in
theorem S.jO(r:Rule)(c:List Int)(f:Bool)(hr:sG r)(hp:FT c.length r)(h0:Lr c)(hl0:0<c.length)(hl:c.length<=6)(hx:r.ex.length<=100)(hk:r.kind=1\/r.kind=2\/r.kind=3):ak Tryz.prog 85 [.dat (.rule r),.row 0 f (.ints c)] (Kq r c):=by
 have hfree:=@Na r c
 have hsm:=CZ hp h0 hl
 have hB:yg r c=(zZ r c).map fun l=>aS l r.fr 1:=rfl
 obtain⟨q1,q2⟩:=hp.dst
 obtain⟨q3,q4⟩:=hp.aei
 obtain⟨q5,q6⟩:=hp.acL
 obtain⟨q7,q8⟩:=hp.src
 have hc0:=qK h0
 generalize hv:Kq r c=res
 rw[hv] at hfree
 refine ak.ofF Bd.jO rfl (by simp) rfl hfree ?_
 have hdt:=hc0 r.to.toNat
 conv=>whnf
 repeat(refine VC.mk (by first|(simp only[Rw.rng]; omega)|(simp only[okI]; omega)|(simp only[nK,nT,Rw.len]; omega)) ?_; conv=>whnf)
 refine⟨fun h1=>?_,fun h1=>?_⟩
 ·have hk1:r.kind=1:=by simpa using h1
  conv=>whnf
  cases ha:oP r (fP c r.to) with
  |true =>
   obtain⟨RS,Bf⟩: ∃ RS,RS=[fP c r.to]:=⟨_,rfl⟩
   have hlen:RS.length=1:=by rw[Bf]; rfl
   have hcR:zZ r c=RS:=by rw[Bf,xu,show(r.kind==1)=true by rw[hk1]; rfl,ha]; rfl
   have Kr:RS.length<=100:=by omega
   have hRS: ∀ l∈RS,l.length=c.length/\ ∀ j,0<=l.getD j 0/\l.getD j 0<=50000000:=fun l hl'=>hsm l (by rw[hcR]; exact hl')
   have hres:V.cO [.row 0 false (.dV (RS.map fun l=>aS l r.fr 1)),.bool true]=res:=by
    rw[<- hv]; unfold Kq; rw[hB,hcR,decide_eq_true (by rw[List.length_map]; exact Kr)]; rfl
   refine ah.TP [4] (S.OE r (fP c r.to) hr (by rw[gX]; omega) ha) rfl rfl rfl rfl rfl ⟨⟨_,rfl,uy rfl _⟩,trivial⟩ rfl (by decide) ?_
   rintro t hp' ⟨rfl,rfl⟩
   refine⟨.own 27,[some (mF (fP c r.to)),some (.gen 24 0 [.inn 4])],rfl,rfl,⟨congrArg some (uy rfl _).symm,rfl,trivial⟩,?_⟩
   conv=>whnf
   refine aG.fam 20000 [65,2] (fun i:Nat=>[(66,.int i),(64,.own 9),(7,.own 9)]) (fun i=>xP [(0,zW r),(9,xg RS.length)]++iP 10000 (fR (xk RS r.fr i))) (fun i=>i<=RS.length) (fun i=>RS.length-i) 0 (nG 10000 (fun _=>4) (iI [(0,zW r),(9,xg RS.length)] [0,27])) _ rfl (by decide) (fun _=>rfl) (Nat.zero_le _) (sR rfl) (.inl rfl) ?_ ?_
   ·refine jY.fam (g:=fun _=>4) [(0,zW r),(9,xg RS.length)] [0,27] ?_ rfl (Nat.zero_le _) (by rw[gW,uz (Nat.zero_le _)]; omega) (fun j o q=>?_) (fun j j' o o' q q' _=>?_)
    ·exact kC rfl nofun rfl rfl ⟨_,rfl,rfl,rfl,by rw[OV.dU rfl]; exact .refl _⟩ (kC rfl nofun rfl (dD (by omega)) ⟨_,rfl,rfl,rfl,by rw[hlen]; exact .refl _⟩ trivial)
    ·rw[vM,Bf] at q
     match j,q with
     |0,q=>cases q; exact⟨rfl,rfl,⟨_,rfl,rfl⟩,rfl⟩
     |j+1,q=>cases q
    ·rw[vM,Bf] at q q'
     match j,j',q,q' with
     |0,0,_,_=>rfl
     |j+1,_,q,_=>cases q
     |0,j+1,_,q=>cases q
   conv=>whnf
   refine⟨(sR rfl),rfl,?_⟩
   rintro i hi
   have hpl:=uz (f:=r.fr) hi
   conv=>whnf
   refine⟨fun h5=>?_,fun h5=>?_⟩
   ·have hi':i<RS.length:=by
     have:=of_decide_eq_true h5
     (try simp only[List.length_cons,List.length_nil] at this)
     first|omega|(replace h5:decide ((i:Int)<1)=true:=h5; have:=of_decide_eq_true h5; omega)
    have hg:=Fv (f:=r.fr) hi'
    obtain⟨hR1,hR2⟩:=hRS (RS.getD i []) (by rw[getD_some hi']; exact List.getElem_mem hi')
    rw[<- hg] at hR1 hR2
    have XM:=hR2 r.fr.toNat
    conv=>whnf
    refine .mk (by show 0<=(i:Int)/\(i:Int)<((qI 10000 RS.length).length:Int); rw[oC]; omega) ?_
    conv=>whnf
    refine AtZ.inn hi' ?_
    conv=>whnf
    refine MN.fR 20000 2 rfl rfl (by omega) (by rw[hpl]; exact hi') ?_
    conv=>whnf
    refine .mk (by simp only[Rw.rng] at *; first|omega|(simp_all; done)|(simp_all; omega)) ?_
    conv=>whnf
    refine MN.fR 20000 2 rfl rfl (by omega) (by rw[hpl]; exact hi') ?_
    conv=>whnf
    repeat(refine VC.mk (by simp only[okI,Rw.rng] at *; first|omega|(simp_all; done)|(simp_all; omega)) ?_; conv=>whnf)
    refine MN.fR 20000 2 rfl rfl (by omega) (by rw[hpl]; exact hi') ?_
    conv=>whnf
    refine .mk (by simp only[Rw.rng] at *; first|omega|(simp_all; done)|(simp_all; omega)) ?_
    conv=>whnf
    refine Le.fR 20000 2 (aS (RS.getD i []) r.fr 1) rfl rfl (by omega) (by rw[hpl]; exact hi') (by show r.fr.toNat<((xk RS r.fr i).getD i []).length; omega) (by show some _=some _; rw[<- hg]; rfl) ?_
    conv=>whnf
    refine .mk (by simp only[okI] at *; first|omega|(simp_all; done)|(simp_all; omega)) ?_
    conv=>whnf
    refine rC.Fg 20000 (i+1) (fR ((xk RS r.fr i).set i (aS (RS.getD i []) r.fr 1))) [(0,zW r),(9,xg RS.length)] [0,9] (by rw[Fz hi']) hi' (by omega) ?_ rfl rfl (Nat.zero_le _) (by rw[gW,List.length_set,hpl]; omega) (by decide) jd (sR rfl) (sR rfl) ?_
    (repeat' (first|refine dw.lo rfl ?_|refine dw.hi rfl ?_|exact dw.nil))
    ·exact kC rfl nofun rfl rfl ⟨_,rfl,rfl,rfl,by rw[OV.dU rfl]; exact .refl _⟩ (kC rfl nofun rfl (dD (by omega)) ⟨_,rfl,rfl,rfl,jL⟩ trivial)
   ·have hi':i=RS.length:=by
     have:=of_decide_eq_false h5
     (try simp only[List.length_cons,List.length_nil] at this)
     first|omega|(replace h5:decide ((i:Int)<1)=false:=h5; have:=of_decide_eq_false h5; omega)
    subst hi'
    rw[FB] at hpl ⊢
    rw[<- hres]
    conv=>whnf
    refine iL.WV (iL.QJ 20000 (by rw[List.length_map]; rfl) (by decide) ?_ (by rw[List.length_map]; omega))
    (repeat' (first|refine dw.lo rfl ?_|refine dw.hi rfl ?_|exact dw.nil))
  |false =>
   obtain⟨RS,Bf⟩: ∃ RS,RS=r.ex.map fun x=>aS (fP c r.to) x 1:=⟨_,rfl⟩
   have Kr:RS.length<=100:=by rw[Bf,List.length_map]; exact hx
   have hcR:zZ r c=RS:=by rw[Bf,xu,show(r.kind==1)=true by rw[hk1]; rfl,ha]; rfl
   have hRS: ∀ l∈RS,l.length=c.length/\ ∀ j,0<=l.getD j 0/\l.getD j 0<=50000000:=fun l hl'=>hsm l (by rw[hcR]; exact hl')
   have hres:V.cO [.row 0 false (.dV (RS.map fun l=>aS l r.fr 1)),.bool true]=res:=by
    rw[<- hv]; unfold Kq; rw[hB,hcR,decide_eq_true (by rw[List.length_map]; exact Kr)]; rfl
   have hW:=S.OG r (fP c r.to) false hr (by rw[gX]; omega) (by rw[gX]; exact hp.exs) hx (wU h0) ha
   rw[<- Bf] at hW
   refine ah.nest (fun c=>c=4) (BR (i:=0) (o:=zW r) (r:=[]) rfl (by decide) trivial) hW ⟨aH _,Eh rfl rfl,trivial⟩ rfl acI (fun o ho=>(IQ o ho).1) ?_
   conv=>whnf
   refine aG.fam 20000 [65,2] (fun i:Nat=>[(66,.int i),(64,.own 9),(7,.own 9)]) (fun i=>xP [(0,zW r),(9,xg RS.length)]++iP 10000 (fR (xk RS r.fr i))) (fun i=>i<=RS.length) (fun i=>RS.length-i) 0 (nG 10000 (fun j=>28+j) (iI [(0,zW r),(9,xg RS.length)] [0,27])) _ rfl (by decide) (fun _=>rfl) (Nat.zero_le _) (sR rfl) (.inl rfl) ?_ ?_
   ·refine jY.fam (g:=fun j=>28+j) [(0,zW r),(9,xg RS.length)] [0,27] ?_ rfl (Nat.zero_le _) (by rw[gW,uz (Nat.zero_le _)]; omega) (fun j o q=>?_) (fun j j' o o' q q' e=>by replace e:28+j=28+j':=e; omega)
    ·refine kC rfl nofun rfl rfl ⟨_,QT (by decide),rfl,rfl,by rw[OV.dU rfl]; exact .refl _⟩ (kC rfl nofun rfl (dD (by omega)) ⟨_,rfl,rfl,rfl,by rw[List.length_map]; exact Vg⟩ trivial)
    ·rw[vM] at q
     have hj:j<(fR RS).length:=(List.getElem?_eq_some_iff.1 q).1
     obtain⟨g1,g2⟩:=jd (nx:=20000) o (List.mem_of_getElem? q)
     exact⟨g1,g2,⟨o,by rw[QL]; exact(Vh (n:=27) hj).trans (by rw[q]; rfl),rfl⟩,ZR (by omega) (by omega)⟩
   conv=>whnf
   refine⟨(sR rfl),rfl,?_⟩
   rintro i hi
   have hpl:=uz (f:=r.fr) hi
   conv=>whnf
   refine⟨fun h5=>?_,fun h5=>?_⟩
   ·have hi':i<RS.length:=by
     have:=of_decide_eq_true h5
     (try simp only[List.length_map,List.length_range,List.length_cons,List.length_nil] at this)
     first|omega|(replace h5:decide ((i:Int)<1)=true:=h5; have:=of_decide_eq_true h5; omega)
    have hg:=Fv (f:=r.fr) hi'
    obtain⟨hR1,hR2⟩:=hRS (RS.getD i []) (by rw[getD_some hi']; exact List.getElem_mem hi')
    rw[<- hg] at hR1 hR2
    have XM:=hR2 r.fr.toNat
    conv=>whnf
    refine .mk (by show 0<=(i:Int)/\(i:Int)<((qI 10000 RS.length).length:Int); rw[oC]; omega) ?_
    conv=>whnf
    refine AtZ.inn hi' ?_
    conv=>whnf
    refine MN.fR 20000 2 rfl rfl (by omega) (by rw[hpl]; exact hi') ?_
    conv=>whnf
    refine .mk (by simp only[Rw.rng] at *; first|omega|(simp_all; done)|(simp_all; omega)) ?_
    conv=>whnf
    refine MN.fR 20000 2 rfl rfl (by omega) (by rw[hpl]; exact hi') ?_
    conv=>whnf
    repeat(refine VC.mk (by simp only[okI,Rw.rng] at *; first|omega|(simp_all; done)|(simp_all; omega)) ?_; conv=>whnf)
    refine MN.fR 20000 2 rfl rfl (by omega) (by rw[hpl]; exact hi') ?_
    conv=>whnf
    refine .mk (by simp only[Rw.rng] at *; first|omega|(simp_all; done)|(simp_all; omega)) ?_
    conv=>whnf
    refine Le.fR 20000 2 (aS (RS.getD i []) r.fr 1) rfl rfl (by omega) (by rw[hpl]; exact hi') (by show r.fr.toNat<((xk RS r.fr i).getD i []).length; omega) (by show some _=some _; rw[<- hg]; rfl) ?_
    conv=>whnf
    refine .mk (by simp only[okI] at *; first|omega|(simp_all; done)|(simp_all; omega)) ?_
    conv=>whnf
    refine rC.Fg 20000 (i+1) (fR ((xk RS r.fr i).set i (aS (RS.getD i []) r.fr 1))) [(0,zW r),(9,xg RS.length)] [0,9] (by rw[Fz hi']) hi' (by omega) ?_ rfl rfl (Nat.zero_le _) (by rw[gW,List.length_set,hpl]; omega) (by decide) jd (sR rfl) (sR rfl) ?_
    (repeat' (first|refine dw.lo rfl ?_|refine dw.hi rfl ?_|exact dw.nil))
    ·exact kC rfl nofun rfl rfl ⟨_,rfl,rfl,rfl,by rw[OV.dU rfl]; exact .refl _⟩ (kC rfl nofun rfl (dD (by omega)) ⟨_,rfl,rfl,rfl,jL⟩ trivial)
   ·have hi':i=RS.length:=by
     have:=of_decide_eq_false h5
     (try simp only[List.length_map,List.length_range,List.length_cons,List.length_nil] at this)
     first|omega|(replace h5:decide ((i:Int)<1)=false:=h5; have:=of_decide_eq_false h5; omega)
    subst hi'
    rw[FB] at hpl ⊢
    rw[<- hres]
    conv=>whnf
    refine iL.WV (iL.QJ 20000 (by rw[List.length_map]; rfl) (by decide) ?_ (by rw[List.length_map]; omega))
    (repeat' (first|refine dw.lo rfl ?_|refine dw.hi rfl ?_|exact dw.nil))
 ·conv=>whnf
  refine⟨fun h2=>?_,fun h2=>?_⟩
  ·have hk2:r.kind=2:=by simpa using h2
   obtain⟨RS,Bf⟩: ∃ RS,RS=[aS (fP (fP c r.to) r.wX) r.dS 1]:=⟨_,rfl⟩
   have hlen:RS.length=1:=by rw[Bf]; rfl
   have hcR:zZ r c=RS:=by rw[Bf,xu,show(r.kind==1)=false by rw[hk2]; rfl,show(r.kind==2)=true by rw[hk2]; rfl]; rfl
   have Kr:RS.length<=100:=by omega
   have hRS: ∀ l∈RS,l.length=c.length/\ ∀ j,0<=l.getD j 0/\l.getD j 0<=50000000:=fun l hl'=>hsm l (by rw[hcR]; exact hl')
   have hres:V.cO [.row 0 false (.dV (RS.map fun l=>aS l r.fr 1)),.bool true]=res:=by
    rw[<- hv]; unfold Kq; rw[hB,hcR,decide_eq_true (by rw[List.length_map]; exact Kr)]; rfl
   have hd1:0<=(c.set r.to.toNat (max (c.getD r.to.toNat 0-1) 0)).getD r.wX.toNat 0/\(c.set r.to.toNat (max (c.getD r.to.toNat 0-1) 0)).getD r.wX.toNat 0<=1048576:=qK (wU h0) _
   have hd2:0<=((c.set r.to.toNat (max (c.getD r.to.toNat 0-1) 0)).set r.wX.toNat (max ((c.set r.to.toNat (max (c.getD r.to.toNat 0-1) 0)).getD r.wX.toNat 0-1) 0)).getD r.dS.toNat 0/\((c.set r.to.toNat (max (c.getD r.to.toNat 0-1) 0)).set r.wX.toNat (max ((c.set r.to.toNat (max (c.getD r.to.toNat 0-1) 0)).getD r.wX.toNat 0-1) 0)).getD r.dS.toNat 0<=1048576:=qK (wU (wU h0)) _
   conv=>whnf
   repeat(refine VC.mk (by first|(simp only[Rw.rng,List.length_set]; omega)|(simp only[okI]; omega)) ?_; conv=>whnf)
   refine aG.fam 20000 [65,2] (fun i:Nat=>[(66,.int i),(64,.own 9),(7,.own 9)]) (fun i=>xP [(0,zW r),(9,xg RS.length)]++iP 10000 (fR (xk RS r.fr i))) (fun i=>i<=RS.length) (fun i=>RS.length-i) 0 (nG 10000 (fun _=>4) (iI [(0,zW r),(9,xg RS.length)] [0,19])) _ rfl (by decide) (fun _=>rfl) (Nat.zero_le _) (sR rfl) (.inl rfl) ?_ ?_
   ·refine jY.fam (g:=fun _=>4) [(0,zW r),(9,xg RS.length)] [0,19] ?_ rfl (Nat.zero_le _) (by rw[gW,uz (Nat.zero_le _)]; omega) (fun j o q=>?_) (fun j j' o o' q q' _=>?_)
    ·exact kC rfl nofun rfl rfl ⟨_,rfl,rfl,rfl,by rw[OV.dU rfl]; exact .refl _⟩ (kC rfl nofun rfl (dD (by omega)) ⟨_,rfl,rfl,rfl,by rw[hlen]; exact .refl _⟩ trivial)
    ·rw[vM,Bf] at q
     match j,q with
     |0,q=>cases q; exact⟨rfl,rfl,⟨_,rfl,rfl⟩,rfl⟩
     |j+1,q=>cases q
    ·rw[vM,Bf] at q q'
     match j,j',q,q' with
     |0,0,_,_=>rfl
     |j+1,_,q,_=>cases q
     |0,j+1,_,q=>cases q
   conv=>whnf
   refine⟨(sR rfl),rfl,?_⟩
   rintro i hi
   have hpl:=uz (f:=r.fr) hi
   conv=>whnf
   refine⟨fun h5=>?_,fun h5=>?_⟩
   ·have hi':i<RS.length:=by
     have:=of_decide_eq_true h5
     (try simp only[List.length_cons,List.length_nil] at this)
     first|omega|(replace h5:decide ((i:Int)<1)=true:=h5; have:=of_decide_eq_true h5; omega)
    have hg:=Fv (f:=r.fr) hi'
    obtain⟨hR1,hR2⟩:=hRS (RS.getD i []) (by rw[getD_some hi']; exact List.getElem_mem hi')
    rw[<- hg] at hR1 hR2
    have XM:=hR2 r.fr.toNat
    conv=>whnf
    refine .mk (by show 0<=(i:Int)/\(i:Int)<((qI 10000 RS.length).length:Int); rw[oC]; omega) ?_
    conv=>whnf
    refine AtZ.inn hi' ?_
    conv=>whnf
    refine MN.fR 20000 2 rfl rfl (by omega) (by rw[hpl]; exact hi') ?_
    conv=>whnf
    refine .mk (by simp only[Rw.rng] at *; first|omega|(simp_all; done)|(simp_all; omega)) ?_
    conv=>whnf
    refine MN.fR 20000 2 rfl rfl (by omega) (by rw[hpl]; exact hi') ?_
    conv=>whnf
    repeat(refine VC.mk (by simp only[okI,Rw.rng] at *; first|omega|(simp_all; done)|(simp_all; omega)) ?_; conv=>whnf)
    refine MN.fR 20000 2 rfl rfl (by omega) (by rw[hpl]; exact hi') ?_
    conv=>whnf
    refine .mk (by simp only[Rw.rng] at *; first|omega|(simp_all; done)|(simp_all; omega)) ?_
    conv=>whnf
    refine Le.fR 20000 2 (aS (RS.getD i []) r.fr 1) rfl rfl (by omega) (by rw[hpl]; exact hi') (by show r.fr.toNat<((xk RS r.fr i).getD i []).length; omega) (by show some _=some _; rw[<- hg]; rfl) ?_
    conv=>whnf
    refine .mk (by simp only[okI] at *; first|omega|(simp_all; done)|(simp_all; omega)) ?_
    conv=>whnf
    refine rC.Fg 20000 (i+1) (fR ((xk RS r.fr i).set i (aS (RS.getD i []) r.fr 1))) [(0,zW r),(9,xg RS.length)] [0,9] (by rw[Fz hi']) hi' (by omega) ?_ rfl rfl (Nat.zero_le _) (by rw[gW,List.length_set,hpl]; omega) (by decide) jd (sR rfl) (sR rfl) ?_
    (repeat' (first|refine dw.lo rfl ?_|refine dw.hi rfl ?_|exact dw.nil))
    ·exact kC rfl nofun rfl rfl ⟨_,rfl,rfl,rfl,by rw[OV.dU rfl]; exact .refl _⟩ (kC rfl nofun rfl (dD (by omega)) ⟨_,rfl,rfl,rfl,jL⟩ trivial)
   ·have hi':i=RS.length:=by
     have:=of_decide_eq_false h5
     (try simp only[List.length_cons,List.length_nil] at this)
     first|omega|(replace h5:decide ((i:Int)<1)=false:=h5; have:=of_decide_eq_false h5; omega)
    subst hi'
    rw[FB] at hpl ⊢
    rw[<- hres]
    conv=>whnf
    refine iL.WV (iL.QJ 20000 (by rw[List.length_map]; rfl) (by decide) ?_ (by rw[List.length_map]; omega))
    (repeat' (first|refine dw.lo rfl ?_|refine dw.hi rfl ?_|exact dw.nil))
  ·have hk3:r.kind=3:=by
    rcases hk with h|h|h
    ·rw[h] at h1; cases h1
    ·rw[h] at h2; cases h2
    ·exact h
   obtain⟨ZT,afg⟩:=hp.rsp hk3
   have hS:=S.o9 r.response (fP c r.to) false false (by rw[gX,ZT]) (by rw[gX]; exact hl0) (by rw[gX]; exact hl) (wU h0) (by rw[gX]; exact afg)
   conv=>whnf
   refine Fork.mk (fun _=>?_) (fun q=>absurd (q.symm.trans (by rw[hk3]; rfl)) Bool.false_ne_true)
   conv=>whnf
   cases hso:zO r.response (fP c r.to) with
   |true =>
    have hW:=hS.1 hso
    have ab1:=hso
    unfold zO at ab1
    rw[Bool.and_eq_true] at ab1
    have hst:pF r.response (fP c r.to)=false:=by simpa using ab1.1
    obtain⟨RS,Bf⟩: ∃ RS,RS=mY r.response (fP c r.to) (kW (fP c r.to)) (fP c r.to).length:=⟨_,rfl⟩
    have Kr:RS.length<=100:=by rw[Bf]; exact of_decide_eq_true ab1.2
    have hcR:zZ r c=RS:=by rw[Bf,xu,show(r.kind==1)=false by rw[hk3]; rfl,show(r.kind==2)=false by rw[hk3]; rfl,show(r.kind==3)=true by rw[hk3]; rfl,hst]; rfl
    have hRS: ∀ l∈RS,l.length=c.length/\ ∀ j,0<=l.getD j 0/\l.getD j 0<=50000000:=fun l hl'=>hsm l (by rw[hcR]; exact hl')
    have hres:V.cO [.row 0 false (.dV (RS.map fun l=>aS l r.fr 1)),.bool true]=res:=by
     rw[<- hv]; unfold Kq; rw[hB,hcR,decide_eq_true (by rw[List.length_map]; exact Kr)]; rfl
    rw[<- Bf] at hW
    refine ah.nest (fun c=>c=4) (BR (i:=0) (o:=zW r) (r:=[]) rfl (by decide) trivial) hW ⟨aH _,Eh rfl rfl,trivial⟩ rfl (ZK true) (fun o ho=>(IQ o ho).1) ?_
    conv=>whnf
    refine Fork.mk (fun q=>absurd (q.symm.trans (rfl)).symm Bool.false_ne_true) (fun _=>?_)
    conv=>whnf
    refine aG.fam 20000 [65,2] (fun i:Nat=>[(66,.int i),(64,.own 9),(7,.own 9)]) (fun i=>xP [(0,zW r),(9,xg RS.length)]++iP 10000 (fR (xk RS r.fr i))) (fun i=>i<=RS.length) (fun i=>RS.length-i) 0 (nG 10000 (fun j=>34+j) (iI [(0,zW r),(9,xg RS.length)] [0,33])) _ rfl (by decide) (fun _=>rfl) (Nat.zero_le _) (sR rfl) (.inl rfl) ?_ ?_
    ·refine jY.fam (g:=fun j=>34+j) [(0,zW r),(9,xg RS.length)] [0,33] ?_ rfl (Nat.zero_le _) (by rw[gW,uz (Nat.zero_le _)]; omega) (fun j o q=>?_) (fun j j' o o' q q' e=>by replace e:34+j=34+j':=e; omega)
     ·refine kC rfl nofun rfl rfl ⟨_,QT (by decide),rfl,rfl,by rw[OV.dU rfl]; exact .refl _⟩ (kC rfl nofun rfl (dD (by omega)) ⟨_,rfl,rfl,rfl,by rw[List.length_map]; exact Vg⟩ trivial)
     ·rw[vM] at q
      have hj:j<(fR RS).length:=(List.getElem?_eq_some_iff.1 q).1
      obtain⟨g1,g2⟩:=jd (nx:=20000) o (List.mem_of_getElem? q)
      exact⟨g1,g2,⟨o,by rw[QL]; exact(Vh (n:=33) hj).trans (by rw[q]; rfl),rfl⟩,ZR (by omega) (by omega)⟩
    conv=>whnf
    refine⟨(sR rfl),rfl,?_⟩
    rintro i hi
    have hpl:=uz (f:=r.fr) hi
    conv=>whnf
    refine⟨fun h5=>?_,fun h5=>?_⟩
    ·have hi':i<RS.length:=by
      have:=of_decide_eq_true h5
      (try simp only[List.length_map,List.length_range,List.length_cons,List.length_nil] at this)
      first|omega|(replace h5:decide ((i:Int)<1)=true:=h5; have:=of_decide_eq_true h5; omega)
     have hg:=Fv (f:=r.fr) hi'
     obtain⟨hR1,hR2⟩:=hRS (RS.getD i []) (by rw[getD_some hi']; exact List.getElem_mem hi')
     rw[<- hg] at hR1 hR2
     have XM:=hR2 r.fr.toNat
     conv=>whnf
     refine .mk (by show 0<=(i:Int)/\(i:Int)<((qI 10000 RS.length).length:Int); rw[oC]; omega) ?_
     conv=>whnf
     refine AtZ.inn hi' ?_
     conv=>whnf
     refine MN.fR 20000 2 rfl rfl (by omega) (by rw[hpl]; exact hi') ?_
     conv=>whnf
     refine .mk (by simp only[Rw.rng] at *; first|omega|(simp_all; done)|(simp_all; omega)) ?_
     conv=>whnf
     refine MN.fR 20000 2 rfl rfl (by omega) (by rw[hpl]; exact hi') ?_
     conv=>whnf
     repeat(refine VC.mk (by simp only[okI,Rw.rng] at *; first|omega|(simp_all; done)|(simp_all; omega)) ?_; conv=>whnf)
     refine MN.fR 20000 2 rfl rfl (by omega) (by rw[hpl]; exact hi') ?_
     conv=>whnf
     refine .mk (by simp only[Rw.rng] at *; first|omega|(simp_all; done)|(simp_all; omega)) ?_
     conv=>whnf
     refine Le.fR 20000 2 (aS (RS.getD i []) r.fr 1) rfl rfl (by omega) (by rw[hpl]; exact hi') (by show r.fr.toNat<((xk RS r.fr i).getD i []).length; omega) (by show some _=some _; rw[<- hg]; rfl) ?_
     conv=>whnf
     refine .mk (by simp only[okI] at *; first|omega|(simp_all; done)|(simp_all; omega)) ?_
     conv=>whnf
     refine rC.Fg 20000 (i+1) (fR ((xk RS r.fr i).set i (aS (RS.getD i []) r.fr 1))) [(0,zW r),(9,xg RS.length)] [0,9] (by rw[Fz hi']) hi' (by omega) ?_ rfl rfl (Nat.zero_le _) (by rw[gW,List.length_set,hpl]; omega) (by decide) jd (sR rfl) (sR rfl) ?_
     (repeat' (first|refine dw.lo rfl ?_|refine dw.hi rfl ?_|exact dw.nil))
     ·exact kC rfl nofun rfl rfl ⟨_,rfl,rfl,rfl,by rw[OV.dU rfl]; exact .refl _⟩ (kC rfl nofun rfl (dD (by omega)) ⟨_,rfl,rfl,rfl,jL⟩ trivial)
    ·have hi':i=RS.length:=by
      have:=of_decide_eq_false h5
      (try simp only[List.length_map,List.length_range,List.length_cons,List.length_nil] at this)
      first|omega|(replace h5:decide ((i:Int)<1)=false:=h5; have:=of_decide_eq_false h5; omega)
     subst hi'
     rw[FB] at hpl ⊢
     rw[<- hres]
     conv=>whnf
     refine iL.WV (iL.QJ 20000 (by rw[List.length_map]; rfl) (by decide) ?_ (by rw[List.length_map]; omega))
     (repeat' (first|refine dw.lo rfl ?_|refine dw.hi rfl ?_|exact dw.nil))
   |false =>
    refine ah.lend (hS.2 hso) ⟨aH _,Eh trivial rfl,trivial⟩ rfl rfl ?_
    unfold zO at hso
    cases hst:pF r.response (fP c r.to) with
    |true =>
     have hcR:zZ r c=[]:=by rw[xu,show(r.kind==1)=false by rw[hk3]; rfl,show(r.kind==2)=false by rw[hk3]; rfl,show(r.kind==3)=true by rw[hk3]; rfl,hst]; rfl
     have hres:V.cO [.row 0 false (.dV []),.bool true]=res:=by
      rw[<- hv]; unfold Kq; rw[hB,hcR]; rfl
     conv=>whnf
     refine Fork.mk (fun q=>absurd (q.symm.trans (rfl)).symm Bool.false_ne_true) (fun _=>?_)
     conv=>whnf
     refine aG.times 1 rfl ?_
     conv=>whnf
     refine Fork.mk (fun q=>absurd (q.symm.trans ((rfl:decide ((0:Int)<0)=false))).symm Bool.false_ne_true) (fun _=>?_)
     conv=>whnf
     rw[<- hres]
     exact iL.same
    |false =>
     have hbig: ¬ (mY r.response (fP c r.to) (kW (fP c r.to)) (fP c r.to).length).length<=100:=by
      rw[hst] at hso
      simpa using hso
     have hcR:zZ r c=mY r.response (fP c r.to) (kW (fP c r.to)) (fP c r.to).length:=by rw[xu,show(r.kind==1)=false by rw[hk3]; rfl,show(r.kind==2)=false by rw[hk3]; rfl,show(r.kind==3)=true by rw[hk3]; rfl,hst]; rfl
     have hres:V.cO [.row 0 false (.dV []),.bool false]=res:=by
      rw[<- hv]; unfold Kq; rw[hB,hcR,decide_eq_false (by rw[List.length_map]; exact hbig)]; rfl
     conv=>whnf
     refine Fork.mk (fun _=>?_) (fun q=>absurd (q.symm.trans (rfl)) Bool.false_ne_true)
     conv=>whnf
     rw[<- hres]
     exact iL.QK
end Go.Proofs.YtkmldgihhaooaaaGreatDoor
