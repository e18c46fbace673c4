/-
 What a broadcast comes from: the program's lists. No condition.
-/
import Derived.Test.YtkmldgihhaooaaaGreatDoorQa
namespace Go.Proofs.YtkmldgihhaooaaaGreatDoor
open Go.Ab Go.Proofs
set_option maxRecDepth 100000
theorem abX{Z:Nat->Prop}{h:Hz}{i:Nat}{R:List (List Int)}(C:Nat)(hi:h.get i=some (yu R.length))(hz: ¬ Z i)(hZ: ∀ j,j<R.length->Z (10000+j))(q:bQ 10000 C (iH 10000 (fR R)) h)(hC:10000+R.length<=C) :
  ∃ o',h.get i=some o'/\ ¬ Z i/\o'.au.ty=(OV.row 24 0 (.bH R) []).au.ty/\o'.au.k=(OV.row 24 0 (.bH R) []).au.k/\T.dA Z h.ay (OV.row 24 0 (.bH R) []).au.l o'.au.l/\(OV.row 24 0 (.bH R) []).au.l.map T.kd=o'.au.l.map T.kd/\(OV.row 24 0 (.bH R) []).au.l.map gB=o'.au.l.map gB:=by
 have e1:(OV.row 24 0 (.bH R) []).au.l=R.map Go.Ab.ints:=by simp[OV.au,Rw.aU,V.aU]
 have e2:(yu R.length).au.l=(List.range R.length).map fun j=>T.own (10000+j):=lZ
 refine⟨_,hi,hz,rfl,rfl,?_,?_,?_⟩
 ·rw[e1,e2];refine GK (by simp) fun j t u h1 h2=>?_
  have hj:j<R.length:=by have:=(List.getElem?_eq_some_iff.1 h1).1; simpa using this
  rw[List.getElem?_map,List.getElem?_eq_getElem hj] at h1;rw[List.getElem?_map,List.getElem?_range hj] at h2;cases h1; cases h2;refine⟨rfl,hZ j hj,?_,by decide,3,?_⟩
  ·rw[fZ]; intro t ht; obtain⟨x,_,rfl⟩:=List.mem_map.1 ht; rfl
  ·have:=aN (q.get (by rw[gZ]; exact hC) (MJ hj));rw[this,getD_some hj];simp[OV.au,V.aU,Rw.aU]
 ·rw[e1,e2,List.map_map,List.map_map];apply List.ext_getElem
  ·simp
  ·intro j h1 h2;simp only[List.getElem_map,Function.comp]; rfl
 ·rw[e1,e2,List.map_map,List.map_map];apply List.ext_getElem
  ·simp
  ·intro j h1 h2;simp only[List.getElem_map,Function.comp]; rfl
theorem Zu{Z:Nat->Prop}{h:Hz}{i:Nat}{R:List (List Int)}{r:Hz}(C:Nat)(hi:h.get i=some (yu R.length))(hz: ¬ Z i)(hZ: ∀ j,j<R.length->Z (10000+j))(q:bQ 10000 C (iH 10000 (fR R)) h)(hC:10000+R.length<=C)(hr:MF Z h r):MF Z h ((i,some (.row 24 0 (.bH R) []))::r):=⟨abX C hi hz hZ q hC,hr⟩
theorem D9{Z:Nat->Prop}{h:Hz}{i:Nat}{o:OV}{r:Hz}(hi:h.get i=some o)(hz: ¬ Z i)(hr:MF Z h r):MF Z h ((i,some o)::r):=⟨dM hi hz,hr⟩
def mF(resp:List Int)(t i:Nat):List Int:=((List.range i).filter fun x=>resp.getD x 0==(t:Int)).map fun x:Nat=>(x:Int)
theorem xX{resp:List Int}{t i:Nat}:mF resp t (i+1)=bif resp.getD i 0==(t:Int) then mF resp t i++[(i:Int)] else mF resp t i:=by
 unfold mF;rw[List.range_succ,List.filter_append,List.map_append,List.filter_cons,List.filter_nil];show _++List.map _ (if(resp.getD i 0==(t:Int))=true then [i] else [])=_;cases (resp.getD i 0==(t:Int))
 ·exact List.append_nil _
 ·rfl
theorem zL{resp:List Int}{t i:Nat}:(mF resp t i).length<=i:=by
 unfold mF;rw[List.length_map];exact Nat.le_trans (List.length_filter_le ..) (by simp)
theorem O4{resp:List Int}{t i:Nat}: ∀ x∈mF resp t i,0<=x/\x<i:=by
 intro x hx;obtain⟨k,hk,rfl⟩:=List.mem_map.1 hx;have:=List.mem_range.1 (List.mem_filter.1 hk).1;omega
def Fa(resp need:List Int)(i:Nat):Bool:=(List.range i).any fun t=>decide (0<need.getD t 0)&& !(Kv resp t)
theorem Jt{resp need:List Int}{i:Nat}:Fa resp need (i+1)=(Fa resp need i||(decide (0<need.getD i 0)&& !(Kv resp i))):=by
 unfold Fa;rw[List.range_succ,List.any_append]; simp
theorem ML{resp need:List Int}:Fa resp need need.length=mD resp need:=rfl
theorem O5{resp need:List Int}{i:Nat}(hi:i<need.length)(h:(decide (0<need.getD i 0)&& !(Kv resp i))=true):mD resp need=true:=by
 unfold mD;rw[List.any_eq_true];exact⟨i,List.mem_range.2 hi,h⟩
def I8(c xs ks:List Int)(i:Nat):List Int:=oH c (xs.take i) (ks.take i)
theorem abY: ∀ {xs ks:List Int} {c:List Int} {x k:Int},xs.length=ks.length->oH c (xs++[x]) (ks++[k])=aT (oH c xs ks) x k:=by
 intro xs;induction xs with
 |nil=>intro ks c x k h; cases ks with|nil=>rfl|cons _ _=>cases h
 |cons a xs ih =>
  intro ks c x k h;cases ks with
  |nil=>cases h
  |cons b ks=>exact ih (Nat.succ.inj h)
theorem Zv{c xs ks:List Int}{i:Nat}(h1:i<xs.length)(h2:i<ks.length):I8 c xs ks (i+1)=aT (I8 c xs ks i) (xs.getD i 0) (ks.getD i 0):=by
 unfold I8;rw[List.take_succ_eq_append_getElem h1,List.take_succ_eq_append_getElem h2,abY (by simp; omega),getD_some h1,getD_some h2]
theorem abZ{c xs ks:List Int}(h:xs.length=ks.length):I8 c xs ks ks.length=oH c xs ks:=by
 unfold I8;rw[<- h,List.take_length,h,List.take_length]
theorem ab1{c xs ks:List Int}{i:Nat}:(I8 c xs ks i).length=c.length:=TI
def Ez(O S:List (List Int))(xs:List Int)(i j:Nat):List (List Int):=((O.take i).flatMap fun c=>S.map fun s=>oH c xs s)++(S.take j).map fun s=>oH (O.getD i []) xs s
theorem Qw{O S:List (List Int)}{xs:List Int}{i j:Nat}(hi:i<=O.length)(hj:j<=S.length):(Ez O S xs i j).length=i*S.length+j:=by
 have: ∀ L:List (List Int),(L.flatMap fun c=>S.map fun s=>oH c xs s).length=L.length*S.length:=by
  intro L;induction L with
  |nil=>simp
  |cons c L ih=>rw[List.flatMap_cons,List.length_append,ih,List.length_map,List.length_cons,Nat.succ_mul,Nat.add_comm]
 unfold Ez;rw[List.length_append,this,List.length_map,List.length_take,List.length_take,Nat.min_eq_left hi,Nat.min_eq_left hj]
theorem ab2{O S:List (List Int)}{xs:List Int}{i j:Nat}(hj:j<S.length):Ez O S xs i (j+1)=Ez O S xs i j++[oH (O.getD i []) xs (S.getD j [])]:=by
 unfold Ez;rw[List.take_succ_eq_append_getElem hj,List.map_append,<- List.append_assoc,getD_some hj]; rfl
theorem ab3{O S:List (List Int)}{xs:List Int}{i:Nat}(hi:i<O.length):Ez O S xs (i+1) 0=Ez O S xs i S.length:=by
 unfold Ez;rw[List.take_succ_eq_append_getElem hi,List.flatMap_append,List.take_length,getD_some hi];simp
theorem aen{O S:List (List Int)}{xs:List Int}:Ez O S xs O.length 0=O.flatMap fun c=>S.map fun s=>oH c xs s:=by
 unfold Ez;rw[List.take_length]; simp
theorem Qx{resp need b:List Int}(hb:b.length=resp.length)(_hn:need.length=resp.length)(h0: ∀ i,0<=need.getD i 0){n:Nat}(h:n<=need.length): ∀ c∈lF resp need [b] n,c.length=resp.length:=(XB hb h h0).len
theorem aj.TU{b:Bool}{k:Nat}{h:Hz}:aj (.dW [.row 0 false (.bH []),.bool b]) (.dW [.row k true .nil,.bool b]) h:=⟨by
  show T.sub _ _ (.dW [.sl 0 false [],(V.bool b).aH]) (.dW [.sl k true [],(V.bool b).aH]);simp only[T.sub,T.dA]
  exact⟨⟨.inl trivial,.inr trivial,fun h=>by cases h⟩,aC _,trivial⟩⟩
def nS(need:List Int):List (List Int):=[List.replicate need.length 0]
theorem Hf{c:List Int}{i d B M:Int}(hc: ∀ j,0<=c.getD j 0/\c.getD j 0<=B)(hd:0<=d/\d<=M)(j:Nat):0<=(aT c i d).getD j 0/\(aT c i d).getD j 0<=B+M:=by
 have:=hc j;rw[nG];split<;>omega
theorem TY: ∀ {xs ks c:List Int} {B M:Int},(∀ j,0<=c.getD j 0/\c.getD j 0<=B)->(∀ k∈ks,0<=k/\k<=M)->0<=M-> ∀ j,0<=(oH c xs ks).getD j 0/\(oH c xs ks).getD j 0<=B+xs.length*M:=by
 intro xs;induction xs with
 |nil=>intro ks c B M hc _ _ j; have:=hc j; simp only[oH,List.length_nil]; omega
 |cons x xs ih =>
  intro ks c B M hc hk hM j;have hm:(0:Int)<=(xs.length:Int)*M:=Int.mul_nonneg (by omega) hM;have e:(((x::xs).length:Nat):Int)*M=M+(xs.length:Int)*M:=by rw[List.length_cons,Int.natCast_add,Int.add_mul]; simp only[Int.natCast_one,Int.one_mul]; omega
  cases ks with
  |nil=>have:=hc j; rw[e]; simp only[oH]; omega
  |cons k ks =>
   have:=ih (c:=aT c x k) (B:=B+M) (ks:=ks) (Hf hc (hk k (by simp))) (fun y hy=>hk y (List.mem_cons_of_mem _ hy)) hM j;rw[e];simp only[oH];omega
theorem XH: ∀ {l:List Int} {x:Int},(∀ y∈l,0<=y)->x∈l->x<=l.sum:=by
 intro l;induction l with
 |nil=>intro x _ h; cases h
 |cons a l ih =>
  intro x h0 hx;have ha:=h0 a (by simp);have hl: ∀ y∈l,0<=y:=fun y hy=>h0 y (List.mem_cons_of_mem _ hy)
  have hs:0<=l.sum:=by
   cases l with
   |nil=>simp
   |cons b l=>exact Int.le_trans (hl b (by simp)) (ih hl (by simp))
  rw[List.sum_cons];rcases List.mem_cons.1 hx with rfl|hx
  ·omega
  ·have:=ih hl hx; omega
theorem Qy{resp need:List Int}(h0:NM need)(hl:resp.length<=6): ∀ t:Nat,∀ c∈lF resp need (nS need) t,∀ j,0<=c.getD j 0/\c.getD j 0<=(t:Int)*6291456:=by
 intro t;induction t with
 |zero =>
  intro c hc j
  have:c=List.replicate need.length 0:=by simpa [lF,nS] using hc
  subst this;rw[List.getD_eq_getElem?_getD,List.getElem?_replicate];split<;>simp
 |succ t ih =>
  intro c hc j;rw[uI] at hc;unfold yt at hc;cases hz:(need.getD t 0==0) with
  |true =>
   rw[hz] at hc;have:=ih c hc j;omega
  |false =>
   rw[hz,cond_false,List.mem_flatMap] at hc;obtain⟨b,hb,hc⟩:=hc;rw[wu,List.mem_map] at hc;obtain⟨s,hs,rfl⟩:=hc;have hm:=jE h0 t;obtain⟨hs1,hs2⟩:=Qr hs;have hx:(iq resp t).length<=6:=Nat.le_trans (zL (resp:=resp) (t:=t) (i:=resp.length)) hl;have:=TY (xs:=iq resp t) (ks:=s) (M:=1048576) (ih b hb) (fun k hk=>⟨hs2 k hk,by have:=XH hs2 hk; rw[hs1] at this; omega⟩) (by decide) j
   have:((iq resp t).length:Int)*1048576<=6*1048576:=Int.mul_le_mul_of_nonneg_right (by omega) (by decide)
   omega
def Bf(resp need:List Int):Bool:= !(mD resp need)&&decide ((lF resp need (nS need) need.length).length<=100)
abbrev JF(O:List (List Int))(xs:List Int)(k:Nat):List (Nat×OV):=[(9,.row 24 0 (.bH O) []),(10,iY xs),(11,yu k)]
theorem kP{ρ:Nat->Nat}{nx pn:Nat}{h:Hz}{c n:Nat}{o:OV}{l:List (Nat×OV)}{s:List Nat}(h1:Nat.blt c nx=true)(h2:Nat.blt c pn=true->n=c)(h3:oZ n s=true)(h4:o.good nx=true)(h5: ∃ o',h.get n=some o'/\o'.au.ty=o.au.ty/\o'.au.k=o.au.k/\dP (T.bJ ρ o.au.l) o'.au.l)(h6:okR ρ nx pn h l s):okR ρ nx pn h ((c,o)::l) (n::s):=⟨⟨h1,h2,h3,h4,h5⟩,h6⟩
set_option maxHeartbeats 4000000 in
theorem S.qO(resp need:List Int)(f g:Bool)(hn:need.length=resp.length)(hn0:0<need.length)(Z7:need.length<=6)(h0:NM need)(_hp:qU need.length resp) :
  (Bf resp need=true->Dc Tryz.prog 121 [.row 0 f (.ints resp),.row 0 g (.ints need)] (fun n=>.dW [.own n,.bool true]) 24 ((lF resp need (nS need) need.length).map iY)) /\
  (Bf resp need=false->ak Tryz.prog 121 [.row 0 f (.ints resp),.row 0 g (.ints need)] (.dW [.row 0 false (.bH []),.bool (mD resp need)])):=by
 have hpos: ∀ i,0<=need.getD i 0:=fun i=>(jE h0 i).1
 refine agc.of (Bf resp need) Bd.qO (by simp) rfl (abW true) Kq rfl ?_;refine aA.objs 0 [24,25,0,1] (fun i:Nat=>[(26,.int i)]) (fun _=>[]) (fun i=>i<=need.length/\Fa resp need i=false) (fun i=>need.length-i) 0 [] rfl (by decide) (fun _=>rfl) ⟨Nat.zero_le _,rfl⟩ (sR rfl) trivial ?_;refine⟨(sR rfl),rfl,?_⟩;rintro i ⟨hi,hs⟩;refine⟨fun h1=>?_,fun h1=>?_⟩
 ·have hi':i<need.length:=by simpa using h1
  repeat(refine VC.mk (by first|exact fun h=>⟨h,h⟩|(simp only[Rw.rng] at *; omega)) ?_)
  refine ah.ig (fun _=>S.slices_Contains_int resp i f (by omega)) rfl ?_;repeat(refine VC.mk id ?_)
  refine⟨fun h2=>?_,fun h2=>?_⟩
  ·replace h2:(decide (0<need.getD i 0)&& !(Kv resp i))=true:=h2;have hS:=O5 hi' h2;conv=>whnf
   rw[show Bf resp need=false by unfold Bf; rw[hS]; rfl,hS];exact⟨nofun,fun _=>aj.TU⟩
  ·replace h2:(decide (0<need.getD i 0)&& !(Kv resp i))=false:=h2;refine .mk (by simp only[okI] at *; omega) ?_;exact⟨i+1,[],⟨hi',by rw[Jt,hs,h2]; rfl⟩,by omega,(sR rfl),(sR rfl),trivial⟩
 ·have hi':i=need.length:=by have:=of_decide_eq_false h1; omega
  subst hi';rw[ML] at hs;conv=>whnf
  rw[BH hn0];refine .mk (by omega) ?_;conv=>whnf
  have hz:(nS need).length=1:=rfl;have ahp: ∀ t,need.getD t 0≠0->iq resp t≠[]:=Au hs hpos;refine aA.fam 20000 [44,45,0] (fun t:Nat=>[(46,.int t),(8,.own 9)]) (fun t=>yj [(9,yu (lF resp need (nS need) t).length)]++iH 10000 (fR (lF resp need (nS need) t))) (fun t=>t<=need.length/\(lF resp need (nS need) t).length<=100) (fun t=>need.length-t) 0 (lY 10000 (fun _=>3) (iM [(9,yu 1)] [4])) _ rfl (by decide) (fun _=>rfl) ⟨Nat.zero_le _,by show 1<=100; decide⟩ (sR rfl) (.inl rfl) ?_ ?_
  ·refine jX.fam (g:=fun _=>3) [(9,yu 1)] [4] ?_ rfl (Nat.zero_le _) (show 10000+1<=20000 by decide) (fun j o q=>?_) (fun j j' o o' q q' _=>?_)
   ·exact kP rfl nofun rfl (dD (by decide)) ⟨_,rfl,rfl,rfl,.refl _⟩ trivial
   ·match j,q with
    |0,q=>cases q; exact⟨rfl,rfl,⟨_,rfl,rfl⟩,rfl⟩
    |j+1,q=>cases q
   ·match j,j',q,q' with
    |0,0,_,_=>rfl
    |j+1,_,q,_=>cases q
    |0,j+1,_,q=>cases q
  refine⟨(sR rfl),rfl,?_⟩;clear h1 hi;rintro t ⟨ht,hL⟩;have hlen: ∀ c∈lF resp need (nS need) t,c.length=resp.length:=Qx (by simp[hn]) hn hpos ht;have aaM:=Qy h0 (by omega:resp.length<=6) t;have hne:(lF resp need (nS need) t)≠[]:=by
   have:=TQ (resp:=resp) (need:=need) (out:=nS need) ahp (n:=0) t;rw[Nat.zero_add] at this;intro h;rw[h] at this;exact absurd this (by show ¬ 1<=0; decide)
  have hnx:lF resp need (nS need) (t+1)=yt resp need (lF resp need (nS need) t) t:=uI;have hbig: ∀ u,u<=need.length->100<(lF resp need (nS need) u).length->Bf resp need=false:=fun u hu hb=>by
   have:=aem ahp hu hb;unfold Bf;rw[decide_eq_false (by omega),Bool.and_false]
  generalize hO:lF resp need (nS need) t=OUT at hL hlen hne hnx aaM;refine⟨fun h1=>?_,fun h1=>?_⟩
  ·have ht':t<need.length:=by simpa using h1
   refine .mk (by simp only[Rw.rng] at *; omega) ?_;refine⟨fun h2=>?_,fun h2=>?_⟩
   ·replace h2:(need.getD t 0==0)=true:=h2;have hsame:lF resp need (nS need) (t+1)=OUT:=by rw[hnx]; unfold yt; rw[h2]; rfl
    refine .mk (by simp only[okI] at *; omega) ?_;refine qN.GY 20000 (t+1) (fR OUT) [(9,yu OUT.length)] [9] (by rw[hsame]) ⟨ht',by rw[hsame]; exact hL⟩ (by omega) ?_ rfl rfl (Nat.zero_le _) (by rw[gZ]; omega) (by decide) jA (sR rfl) (sR rfl) ?_
    (repeat' (first|refine bQ.lo rfl ?_|refine bQ.hi rfl ?_|exact bQ.nil))
    ·exact kP rfl nofun rfl (dD (by omega)) ⟨_,rfl,rfl,rfl,jY⟩ trivial
   ·replace h2:(need.getD t 0==0)=false:=h2;refine aA.nil 11 3 0 (by rfl) rfl rfl rfl ?_;refine aA.fam 20000 [53,54,9,10,8,46,44,45,0] (fun i:Nat=>[(55,.int i),(11,.own 10)]) (fun i=>yj [(9,yu OUT.length),(10,iY (mF resp t i))]++iH 10000 (fR OUT)) (fun i=>i<=resp.length) (fun i=>resp.length-i) 0 (lY 10000 (fun j=>10000+j) (iM [(9,yu OUT.length),(10,iY [])] [9,20012])) _ rfl (by decide) (fun _=>rfl) (Nat.zero_le _) (sR rfl) (.inl rfl) ?_ ?_
    ·refine jX.Xx 20000 [(9,yu OUT.length),(10,iY [])] [9,20012] ?_ rfl rfl (Nat.zero_le _) (by rw[gZ]; omega) (by decide) jA ?_
     (repeat' (first|refine bQ.lo rfl ?_|refine bQ.hi rfl ?_|exact bQ.nil))
     ·exact kP rfl nofun rfl (dD (by omega)) ⟨_,rfl,rfl,rfl,jY⟩ (kP rfl nofun rfl rfl ⟨_,rfl,rfl,rfl,.refl _⟩ trivial)
    refine⟨(sR rfl),rfl,?_⟩;rintro i hi;have hfl:=zL (resp:=resp) (t:=t) (i:=i);refine⟨fun h3=>?_,fun h3=>?_⟩
    ·have hi':i<resp.length:=by simpa using h3
     refine .mk (by simp only[Rw.rng] at *; omega) ?_;refine⟨fun h4=>?_,fun h4=>?_⟩
     ·replace h4:(resp.getD i 0==(t:Int))=true:=h4;have hf:mF resp t (i+1)=mF resp t i++[(i:Int)]:=by rw[xX,h4]; rfl
      repeat(refine VC.mk (by first|(simp only[jH,jP,Rw.len,List.length_cons,List.length_nil]; omega)|(simp only[okI] at *; omega)) ?_)
      refine qN.GY 20000 (i+1) (fR OUT) [(9,yu OUT.length),(10,iY (mF resp t (i+1)))] [9,20012] rfl hi' (by omega) ?_ rfl rfl (Nat.zero_le _) (by rw[gZ]; omega) (by decide) jA (sR rfl) (sR rfl) ?_
      (repeat' (first|refine bQ.lo rfl ?_|refine bQ.hi rfl ?_|exact bQ.nil))
      ·exact kP rfl nofun rfl (dD (by omega)) ⟨_,rfl,rfl,rfl,jY⟩ (kP rfl nofun rfl rfl ⟨_,rfl,rfl,rfl,by rw[hf,OV.dY rfl]; exact .refl _⟩ trivial)
     ·replace h4:(resp.getD i 0==(t:Int))=false:=h4;have hf:mF resp t (i+1)=mF resp t i:=by rw[xX,h4]; rfl
      refine .mk (by simp only[okI] at *; omega) ?_;refine qN.GY 20000 (i+1) (fR OUT) [(9,yu OUT.length),(10,iY (mF resp t (i+1)))] [9,10] rfl hi' (by omega) ?_ rfl rfl (Nat.zero_le _) (by rw[gZ]; omega) (by decide) jA (sR rfl) (sR rfl) ?_
      (repeat' (first|refine bQ.lo rfl ?_|refine bQ.hi rfl ?_|exact bQ.nil))
      ·exact kP rfl nofun rfl (dD (by omega)) ⟨_,rfl,rfl,rfl,jY⟩ (kP rfl nofun rfl rfl ⟨_,rfl,rfl,rfl,by rw[hf,OV.dY rfl]; exact .refl _⟩ trivial)
    ·have hi':i=resp.length:=by have:=of_decide_eq_false h3; omega
     subst hi';have hFr:mF resp t resp.length=iq resp t:=rfl;rw[hFr] at hfl ⊢;have hrg: ∀ x∈iq resp t,0<=x/\x<resp.length:=fun x hx=>O4 x (hFr▸hx)
     have hm:=jE h0 t;have hm0:need.getD t 0≠0:=by simpa using h2
     generalize hX:iq resp t=XS at hfl hrg;obtain⟨m,hm'⟩: ∃ m:Nat,need.getD t 0=(m:Int):=⟨(need.getD t 0).toNat,by omega⟩
     have hmT:(need.getD t 0).toNat=m:=by omega
     have htl:=aei (resp:=resp) (out:=OUT) hm0;rw[hX,hmT,<- hnx] at htl;conv=>whnf
     rw[show need.getD ((t:Int)).toNat 0=(m:Int) from hm'];refine ah.pure (S.nH XS.length m (by omega) (by omega)) I7 ?_;by_cases hd:(kN XS.length m).length<=100
     ·rw[zK hd];have hmul:OUT.length*(kN XS.length m).length<=100*100:=Nat.mul_le_mul hL hd;repeat(refine VC.mk (by first|(intro _; refine⟨rfl,rfl,?_⟩; show okI (((rV 10000 OUT.length).length:Int)*((kN XS.length m).length:Int)); rw[pG,<- Int.natCast_mul]; simp only[okI]; omega)|exact fun h=>h|(intro h; rw[h]; rfl)) ?_)
      refine⟨fun h4=>?_,fun h4=>?_⟩
      ·have hf:100<OUT.length*(kN XS.length m).length:=by
        replace h4:decide (100<((rV 10000 OUT.length).length:Int)*((kN XS.length m).length:Int))=true:=h4;have:=of_decide_eq_true h4;rw[pG,<- Int.natCast_mul] at this;omega
       have hno:=hbig (t+1) ht' (by rw[htl]; exact hf);rw[hno,hs];exact⟨nofun,fun _=>aj.TU⟩
      ·have hf:OUT.length*(kN XS.length m).length<=100:=by
        replace h4:decide (100<((rV 10000 OUT.length).length:Int)*((kN XS.length m).length:Int))=false:=h4;have:=of_decide_eq_false h4;rw[pG,<- Int.natCast_mul] at this;omega
       have hsl: ∀ x∈kN XS.length m,x.length=XS.length/\(x.sum=m/\ ∀ y∈x,0<=y):=fun x hx=>⟨G9 hx,Qr hx⟩
       have hfin:(OUT.flatMap fun c=>(kN XS.length m).map fun x=>oH c XS x)=lF resp need (nS need) (t+1):=by
        rw[hnx];unfold yt;rw[h2,hX,hmT];show _=OUT.flatMap _
        congr 1
        funext c;rw[wu]
       generalize hS:kN XS.length m=SH at hf hsl hd hfin;refine aA.nil 16 24 0 (by rfl) rfl rfl rfl ?_;refine aA.fam 20000 [85,86,14,11,46,44,45,0] (fun i:Nat=>[(87,.int i),(16,.own 11)]) (fun i=>yj (JF OUT XS (Ez OUT SH XS i 0).length)++iH 10000 (fR (Ez OUT SH XS i 0))) (fun i=>i<=OUT.length) (fun i=>OUT.length-i) 0 (lY 10000 (fun j=>10000+j) (iM (JF OUT XS 0) [9,10,20024])) [(9,some (.row 24 0 (.bH OUT) [])),(10,some (iY XS)),(20024,some (.row 24 0 .nil []))] rfl (by decide) (fun _=>rfl) (Nat.zero_le _) (sR rfl) (.inr ⟨fun c=>10000<=c/\c<20000,Zu (R:=OUT) 20000 rfl (show ¬ (10000<=9/\9<20000) by omega) (fun j hj=>show 10000<=10000+j/\10000+j<20000 by omega) ?_ (by omega) (D9 rfl (show ¬ (10000<=10/\10<20000) by omega) (D9 rfl (show ¬ (10000<=20024/\20024<20000) by omega) trivial))⟩) ?_ ?_
       (repeat' (first|refine bQ.lo rfl ?_|refine bQ.hi rfl ?_|exact bQ.nil))
       ·refine jX.fam (g:=fun j=>10000+j) (JF OUT XS 0) [9,10,20024] ?_ rfl (Nat.zero_le _) (show 10000+0<=20000 by decide) (fun j o q=>by cases q) (fun j _ o _ q=>by cases q);exact kP rfl nofun rfl rfl ⟨_,rfl,rfl,rfl,by rw[OV.dY rfl]; exact .refl _⟩ (kP rfl nofun rfl rfl ⟨_,rfl,rfl,rfl,by rw[OV.dY rfl]; exact .refl _⟩ (kP rfl nofun rfl rfl ⟨_,rfl,rfl,rfl,.refl _⟩ trivial))
       refine⟨(sR rfl),rfl,?_⟩;clear hi;rintro i hi;have hN0:=Qw (xs:=XS) hi (Nat.zero_le SH.length);have agi: ∀ i j,i<OUT.length->j<=SH.length->i*SH.length+j<=100:=fun i j h1 h2=>by
        have:=Nat.mul_le_mul_right SH.length h1;rw[Nat.succ_mul] at this;omega
       have hN0':i*SH.length<=100:=Nat.le_trans (Nat.mul_le_mul_right _ hi) hf;refine⟨fun h5=>?_,fun h5=>?_⟩
       ·have hi':i<OUT.length:=by simpa using h5
        have hmem:OUT.getD ((i:Int)).toNat []∈OUT:=by show OUT.getD i []∈OUT; rw[getD_some hi']; exact List.getElem_mem hi'
        have hb:=hlen _ hmem;have hbb:=aaM _ hmem;repeat(refine VC.mk (by simp only[Rw.rng] at *; omega) ?_)
        refine aA.fam 20000 [91,92,18,11,87,85,86,14,46,44,45,0] (fun j:Nat=>[(93,.int j),(16,.own 11)]) (fun j=>yj (JF OUT XS (Ez OUT SH XS i j).length)++iH 10000 (fR (Ez OUT SH XS i j))) (fun j=>j<=SH.length) (fun j=>SH.length-j) 0 (lY 10000 (fun j=>10000+j) (iM (JF OUT XS (Ez OUT SH XS i 0).length) [9,10,11])) _ rfl (by decide) (fun _=>rfl) (Nat.zero_le _) (sR rfl) (.inl rfl) ?_ ?_
        ·refine jX.Xx 20000 (JF OUT XS (Ez OUT SH XS i 0).length) [9,10,11] ?_ rfl rfl (Nat.zero_le _) (by rw[gZ]; omega) (by decide) jA ?_
         (repeat' (first|refine bQ.lo rfl ?_|refine bQ.hi rfl ?_|exact bQ.nil))
         ·exact kP rfl nofun rfl rfl ⟨_,rfl,rfl,rfl,by rw[OV.dY rfl]; exact .refl _⟩ (kP rfl nofun rfl rfl ⟨_,rfl,rfl,rfl,by rw[OV.dY rfl]; exact .refl _⟩ (kP rfl nofun rfl (dD (by omega)) ⟨_,rfl,rfl,rfl,jY⟩ trivial))
        refine⟨(sR rfl),rfl,?_⟩;rintro j hj;have hNj:=Qw (xs:=XS) hi hj;have air:=agi i j hi' hj;refine⟨fun h6=>?_,fun h6=>?_⟩
        ·have hj':j<SH.length:=by simpa using h6
         have hNs:Ez OUT SH XS i (j+1)=Ez OUT SH XS i j++[oH (OUT.getD ((i:Int)).toNat []) XS (SH.getD ((j:Int)).toNat [])]:=ab2 hj';have hN1:=Qw (xs:=XS) hi hj';rw[hNs] at hN1;have ais:=agi i (j+1) hi' hj';obtain⟨hs1,hs2,hs3⟩:=hsl (SH.getD ((j:Int)).toNat []) (by show SH.getD j []∈SH; rw[getD_some hj']; exact List.getElem_mem hj');have hs4: ∀ k∈SH.getD ((j:Int)).toNat [],0<=k/\k<=1048576:=fun k hk=>⟨hs3 k hk,by have:=XH hs3 hk; rw[hs2] at this; omega⟩
         repeat(refine VC.mk (by first|(simp only[jH,jP,Rw.len]; omega)|(simp only[Rw.rng] at *; omega)) ?_)
         generalize hbase:OUT.getD ((i:Int)).toNat []=base at hb hbb hNs hN1 ⊢;generalize ait:SH.getD ((j:Int)).toNat []=shr at hs1 hs2 hs3 hs4 hNs hN1 ⊢;refine aA.fam 20000 [99,100,11,16,93,91,92,18,87,85,86,14,46,44,45,0] (fun x:Nat=>[(101,.int x),(21,.own 12)]) (fun x=>yj (JF OUT XS (Ez OUT SH XS i j).length++[(12,iY (I8 base XS shr x))])++iH 10000 (fR (Ez OUT SH XS i j))) (fun x=>x<=shr.length) (fun x=>shr.length-x) 0 (lY 10000 (fun j=>10000+j) (iM (JF OUT XS (Ez OUT SH XS i j).length++[(12,iY (I8 base XS shr 0))]) [9,10,11,20005])) _ rfl (by decide) (fun _=>rfl) (Nat.zero_le _) (sR rfl) (.inl rfl) ?_ ?_
         ·refine jX.Xx 20000 (JF OUT XS (Ez OUT SH XS i j).length++[(12,iY (I8 base XS shr 0))]) [9,10,11,20005] ?_ rfl rfl (Nat.zero_le _) (by rw[gZ]; omega) (by decide) jA ?_
          (repeat' (first|refine bQ.lo rfl ?_|refine bQ.hi rfl ?_|exact bQ.nil))
          ·exact kP rfl nofun rfl rfl ⟨_,rfl,rfl,rfl,by rw[OV.dY rfl]; exact .refl _⟩ (kP rfl nofun rfl rfl ⟨_,rfl,rfl,rfl,by rw[OV.dY rfl]; exact .refl _⟩ (kP rfl nofun rfl (dD (by omega)) ⟨_,rfl,rfl,rfl,jY⟩ (kP rfl nofun rfl rfl ⟨_,rfl,rfl,rfl,by rw[OV.dY rfl]; exact .refl _⟩ trivial)))
         refine⟨(sR rfl),rfl,?_⟩;rintro x hx;have hpl:=@ab1 base XS shr x;have hpb: ∀ k,0<=(I8 base XS shr x).getD k 0/\(I8 base XS shr x).getD k 0<=50000000:=fun k=>by
          have h1:=TY (xs:=XS.take x) (ks:=shr.take x) (M:=1048576) hbb (fun k hk=>hs4 k (List.mem_of_mem_take hk)) (by decide) k;have h2:((XS.take x).length:Int)*1048576<=6*1048576:=Int.mul_le_mul_of_nonneg_right (by rw[List.length_take]; omega) (by decide);have h3:(t:Int)*6291456<=6*6291456:=Int.mul_le_mul_of_nonneg_right (by omega) (by decide);unfold I8;omega
         refine⟨fun h7=>?_,fun h7=>?_⟩
         ·have hx':x<shr.length:=by simpa using h7
          have ah8:=Zv (c:=base) (xs:=XS) (ks:=shr) (i:=x) (by omega) hx';have hxr:=hrg (XS.getD x 0) (by rw[getD_some (by omega)]; exact List.getElem_mem _);have hxk:=hs4 (shr.getD x 0) (by rw[getD_some hx']; exact List.getElem_mem _);have hpx:=hpb (XS.getD ((x:Int)).toNat 0).toNat;replace hxr:0<=XS.getD ((x:Int)).toNat 0/\XS.getD ((x:Int)).toNat 0<resp.length:=hxr;replace hxk:0<=shr.getD ((x:Int)).toNat 0/\shr.getD ((x:Int)).toNat 0<=1048576:=hxk;repeat(refine VC.mk (by first|(simp only[Rw.rng]; omega)|(simp only[okI]; omega)) ?_)
          refine qN.GY 20000 (x+1) (fR (Ez OUT SH XS i j)) (JF OUT XS (Ez OUT SH XS i j).length++[(12,iY (I8 base XS shr (x+1)))]) [9,10,11,12] rfl hx' (by omega) ?_ rfl rfl (Nat.zero_le _) (by rw[gZ]; omega) (by decide) jA (sR rfl) (sR rfl) ?_
          (repeat' (first|refine bQ.lo rfl ?_|refine bQ.hi rfl ?_|exact bQ.nil))
          ·exact kP rfl nofun rfl rfl ⟨_,rfl,rfl,rfl,by rw[OV.dY rfl]; exact .refl _⟩ (kP rfl nofun rfl rfl ⟨_,rfl,rfl,rfl,by rw[OV.dY rfl]; exact .refl _⟩ (kP rfl nofun rfl (dD (by omega)) ⟨_,rfl,rfl,rfl,jY⟩ (kP rfl nofun rfl rfl ⟨_,rfl,rfl,rfl,by rw[ah8,OV.dY rfl]; exact .refl _⟩ trivial)))
         ·have hx':x=shr.length:=by have:=of_decide_eq_false h7; omega
          subst hx';rw[abZ hs1.symm] at hpl ⊢;repeat(refine VC.mk (by first|(show((rV 10000 (Ez OUT SH XS i j).length).length+(0+1))*24<=140737488355328/\(rV 10000 (Ez OUT SH XS i j).length).length+(0+1)<=1152921504606846976; rw[pG]; omega)|(simp only[okI] at *; omega)) ?_)
          refine qN.VW 20000 (j+1) (Ez OUT SH XS i j).length 12 (fR (Ez OUT SH XS i j)) (fR (Ez OUT SH XS i j++[oH base XS shr])) (JF OUT XS ((Ez OUT SH XS i j).length+1)) [9,10,20004] (by rw[hNs,List.length_append]; rfl) hj' (by omega) ?_ rfl rfl rfl (Nat.zero_le _) (by rw[gZ]; omega) (by rw[gZ]; omega) (by decide) jA ?_ (V7 rfl) (sR rfl) (sR rfl) ?_
          (repeat' (first|refine bQ.lo rfl ?_|refine bQ.hi rfl ?_|exact bQ.nil))
          ·intro o ho;rw[Qs rfl] at ho;cases ho;exact⟨_,rfl,rfl⟩
          ·exact kP rfl nofun rfl rfl ⟨_,rfl,rfl,rfl,by rw[OV.dY rfl]; exact .refl _⟩ (kP rfl nofun rfl rfl ⟨_,rfl,rfl,rfl,by rw[OV.dY rfl]; exact .refl _⟩ (kP rfl nofun rfl (dD (by omega)) ⟨_,rfl,rfl,rfl,IX⟩ trivial))
        ·have hj':j=SH.length:=by have:=of_decide_eq_false h6; omega
         subst hj';have hst:=ab3 (S:=SH) (xs:=XS) hi';refine .mk (by simp only[okI] at *; omega) ?_;refine qN.GY 20000 (i+1) (fR (Ez OUT SH XS i SH.length)) (JF OUT XS (Ez OUT SH XS i SH.length).length) [9,10,11] (by rw[hst]) hi' (by omega) ?_ rfl rfl (Nat.zero_le _) (by rw[gZ]; omega) (by decide) jA (sR rfl) (sR rfl) ?_
         (repeat' (first|refine bQ.lo rfl ?_|refine bQ.hi rfl ?_|exact bQ.nil))
         ·exact kP rfl nofun rfl rfl ⟨_,rfl,rfl,rfl,by rw[OV.dY rfl]; exact .refl _⟩ (kP rfl nofun rfl rfl ⟨_,rfl,rfl,rfl,by rw[OV.dY rfl]; exact .refl _⟩ (kP rfl nofun rfl (dD (by omega)) ⟨_,rfl,rfl,rfl,jY⟩ trivial))
       ·have hi':i=OUT.length:=by have:=of_decide_eq_false h5; rw[pG] at this; omega
        subst hi';rw[aen,hfin] at hN0 ⊢;refine .mk (by simp only[okI] at *; omega) ?_;refine qN.GY 20000 (t+1) (fR (lF resp need (nS need) (t+1))) [(9,yu (lF resp need (nS need) (t+1)).length)] [11] rfl ⟨ht',by omega⟩ (by omega) ?_ rfl rfl (Nat.zero_le _) (by rw[gZ]; omega) (by decide) jA (sR rfl) (sR rfl) ?_
        (repeat' (first|refine bQ.lo rfl ?_|refine bQ.hi rfl ?_|exact bQ.nil))
        ·exact kP rfl nofun rfl (dD (by omega)) ⟨_,rfl,rfl,rfl,jY⟩ trivial
     ·have hnone:divO XS.length m=none:=by unfold divO; rw[if_neg hd]
      rw[D8 hnone]
      have hno:=hbig (t+1) ht' (by
       rw[htl]
       have:0<OUT.length:=List.length_pos_iff.2 hne
       exact Nat.lt_of_lt_of_le (by omega:100<(kN XS.length m).length) (Nat.le_mul_of_pos_left _ this))
      rw[hno,hs];repeat(refine VC.mk (by first|exact id|(intro h; rw[h]; rfl)|(intro h; simp_all; done)) ?_)
      refine Fork.mk (fun _=>?_) (fun q=>absurd (q.symm.trans (rfl)) Bool.false_ne_true);exact⟨nofun,fun _=>aj.TU⟩
  ·have ht':t=need.length:=by have:=of_decide_eq_false h1; omega
   subst ht';have hok:Bf resp need=true:=by unfold Bf; rw[hs,hO,decide_eq_true hL]; rfl
   rw[hok,hO];refine⟨fun _=>Qq.fam 20000 rfl (by decide) ?_ (by omega),nofun⟩
   (repeat' (first|refine bQ.lo rfl ?_|refine bQ.hi rfl ?_|exact bQ.nil))
theorem OE.fR(C k:Nat){j:Nat}{R:List (List Int)}{h:Hz}{K:Nat->Rw->Prop}(e:h.drop k=iH 10000 (fR R))(ho:CZ 10000 C (h.take k)=true)(hC:10000+R.length<=C)(hj:j<R.length)(hK:K 0 (.ints (R.getD j []))):OE h (10000+j) K :=
 OE.fam C (show Ar (h.take k) _ h from by rw[Ar,<- e,List.take_append_drop]) ho (by rw[gZ]; exact hC) (MJ hj) hK
theorem agj{R:List (List Int)}{j:Nat}{r:List Int}:(fR R).set j (some (iY r))=fR (R.set j r):=(List.map_set ..).symm
theorem NH.fR(C k:Nat){j x:Nat}{R:List (List Int)}{v:V}{h:Hz}{K:Hz->Prop}(r':List Int)(e:h.drop k=iH 10000 (fR R))(ho:CZ 10000 C (h.take k)=true)(hC:10000+R.length<=C)(hj:j<R.length)(hr:x<(R.getD j []).length)(hs:(Rw.ints (R.getD j [])).set x v=some (.ints r'))
  (hK:K (h.take k++iH 10000 (fR (R.set j r')))):NH h (10000+j) x 0 v K :=
 NH.fam C (show Ar (h.take k) _ h from by rw[Ar,<- e,List.take_append_drop]) ho (by rw[gZ]; exact hC) (MJ hj) hs (by show 0<=(x:Int)/\(x:Int)<_; omega) (by rw[agj]; exact hK)
theorem XI{B k:Nat}{f:Nat->Nat}:dP (T.bJ (lY 10000 (fun j=>B+j) f) (yu k).au.l) (C9 24 B k).au.l:=by
 refine dP.of_eq ?_;show T.bJ _ (V.aU (rV 10000 k))=V.aU (rV B k);rw[lZ,lZ,zH,List.map_map];refine List.map_congr_left fun j _=>?_
 show T.own (lY 10000 (fun j=>B+j) f (10000+j))=T.own (B+j);rw[tC]
theorem XJ{n j:Nat}{x:Option OV}{L:List (Option OV)}{h:Hz}(hj:j<L.length):Hz.get (n+1+j) ((n,x)::(iH (n+1) L++h))=(L[j]?).join:=by
 simp only[Hz.get];have hne:Nat.beq n (n+1+j)=false:=by
  cases e:Nat.beq n (n+1+j) with
  |false=>rfl
  |true=>have:=fD e; omega
 rw[hne,cond_false,VY hj]
theorem ab4{a x y:Nat}(h1:a≠x)(h2:a≠y):oZ a [x,y]=true:=by
 have e: ∀ z,a≠z->Nat.beq a z=false:=fun z h=>by
  cases e:Nat.beq a z with
  |false=>rfl
  |true=>exact absurd (fD e) h
 simp only[oZ,e x h1,e y h2]; rfl
def yw(R:List (List Int))(f:Int)(i:Nat):List (List Int):=(R.take i).map (fun l=>aT l f 1)++R.drop i
theorem vk{R:List (List Int)}{f:Int}{i:Nat}(h:i<=R.length):(yw R f i).length=R.length:=by
 unfold yw;rw[List.length_append,List.length_map,List.length_take,List.length_drop]; omega
theorem Hg{R:List (List Int)}{f:Int}{i:Nat}(h:i<R.length):(yw R f i).getD i []=R.getD i []:=by
 unfold yw;rw[List.getD_eq_getElem?_getD,List.getElem?_append_right (by rw[List.length_map,List.length_take]; omega),List.length_map,List.length_take,Nat.min_eq_left (by omega),Nat.sub_self,List.getElem?_drop,Nat.add_zero,<- List.getD_eq_getElem?_getD]
theorem Hl{R:List (List Int)}{f:Int}{i:Nat}(h:i<R.length):yw R f (i+1)=(yw R f i).set i (aT (R.getD i []) f 1):=by
 unfold yw;rw[List.take_succ_eq_append_getElem h,List.map_append,List.set_append_right _ _ (by rw[List.length_map,List.length_take]; omega),List.length_map,List.length_take,Nat.min_eq_left (by omega),Nat.sub_self,List.drop_eq_getElem_cons h,List.set_cons_zero,getD_some h,List.append_assoc]; rfl
theorem Ho{R:List (List Int)}{f:Int}:yw R f R.length=R.map fun l=>aT l f 1:=by
 unfold yw;rw[List.take_length,List.drop_length,List.append_nil]
theorem wP{R:List (List Int)}{f:Int}:yw R f 0=R:=rfl
theorem Ua{n:Nat}{x:Option OV}{L:List (Option OV)}{i:Nat}{o:OV}{h:Hz}(hi:i<n)(e:h.get i=some o:=by rfl):Hz.get i ((n,x)::(iH (n+1) L++h))=some o:=by
 simp only[Hz.get];have hne:Nat.beq n i=false:=by
  cases e:Nat.beq n i with
  |false=>rfl
  |true=>have:=fD e; omega
 rw[hne,cond_false,Qp (.inl (by omega)),e]
def MN(r:Rule)(c:List Int):V:=bif decide ((tZ r c).length<=100) then .dW [.row 0 false (.bH (tZ r c)),.bool true] else .dW [.row 0 false (.bH []),.bool false]
theorem O6{r:Rule}{c:List Int}:(MN r c).free=true:=by unfold MN; cases decide ((tZ r c).length<=100)<;>rfl
theorem Aw{r:Rule}{c:List Int}:zJ r c=(bif r.kind==1 then(bif qV r (cO c r.to) then [cO c r.to] else r.ex.map fun x=>aT (cO c r.to) x 1) else
  bif r.kind==2 then [aT (cO (cO c r.to) r.zV) r.jh 1] else
  bif r.kind==3 then(bif mD r.response (cO c r.to) then [] else lF r.response (cO c r.to) (nS (cO c r.to)) (cO c r.to).length) else [cO c r.to]):=rfl
theorem xY{c:List Int}{i:Int}(h:NM c):NM (cO c i):=by
 intro x hx;rcases List.mem_or_eq_of_mem_set hx with h1|h1
 ·exact h x h1
 ·have:=jE h i.toNat; omega
theorem MO{r:Rule}{c:List Int}(hp:oW c.length r)(h0:NM c)(hl:c.length<=6): ∀ l∈zJ r c,l.length=c.length/\ ∀ j,0<=l.getD j 0/\l.getD j 0<=50000000:=by
 have hd:NM (cO c r.to):=xY h0;have hone: ∀ (d:List Int) (x:Int),NM d-> ∀ j,0<=(aT d x 1).getD j 0/\(aT d x 1).getD j 0<=50000000:=fun d x h j=>by
  have:=Hf (B:=1048576) (M:=1) (i:=x) (d:=1) (jE h) (by omega) j;omega
 intro l hl';rw[Aw] at hl';cases h1:(r.kind==1) with
 |true =>
  rw[h1,cond_true] at hl';cases ha:qV r (cO c r.to) with
  |true =>
   rw[ha,cond_true,List.mem_singleton] at hl';subst hl';exact⟨dO,fun j=>by have:=jE hd j; omega⟩
  |false =>
   rw[ha,cond_false,List.mem_map] at hl';obtain⟨x,_,rfl⟩:=hl';exact⟨by rw[iU,dO],hone _ x hd⟩
 |false =>
  rw[h1,cond_false] at hl';cases h2:(r.kind==2) with
  |true =>
   rw[h2,cond_true,List.mem_singleton] at hl';subst hl';exact⟨by rw[iU,dO,dO],hone _ _ (xY hd)⟩
  |false =>
   rw[h2,cond_false] at hl';cases h3:(r.kind==3) with
   |true =>
    obtain⟨ab5,ahq⟩:=hp.rsp (by simpa using h3);rw[h3,cond_true] at hl';cases hs:mD r.response (cO c r.to) with
    |true=>rw[hs,cond_true] at hl'; cases hl'
    |false =>
     rw[hs,cond_false] at hl';have h1:=Qx (b:=List.replicate (cO c r.to).length 0) (by simp[dO,ab5]) (by rw[dO,ab5]) (fun i=>(jE hd i).1) (Nat.le_refl _) l hl';refine⟨by rw[h1,ab5],fun j=>?_⟩;have:=Qy hd (by omega) _ l hl' j;rw[dO] at this
     have:(c.length:Int)*6291456<=6*6291456:=Int.mul_le_mul_of_nonneg_right (by omega) (by decide)
     omega
   |false =>
    rw[h3,cond_false,List.mem_singleton] at hl';subst hl';exact⟨dO,fun j=>by have:=jE hd j; omega⟩
abbrev vM(r:Rule):OV:=.box 86 19 (.dat (.rule r))
set_option maxHeartbeats 4000000 in
theorem S.kC(r:Rule)(c:List Int)(f:Bool)(hr:vG r)(hp:oW c.length r)(h0:NM c)(hl0:0<c.length)(hl:c.length<=6)(hx:r.ex.length<=100)(hk:r.kind=1\/r.kind=2\/r.kind=3):ak Tryz.prog 85 [.dat (.rule r),.row 0 f (.ints c)] (MN r c):=by
 have hfree:=@O6 r c;have hsm:=MO hp h0 hl;have hB:tZ r c=(zJ r c).map fun l=>aT l r.fr 1:=rfl
 obtain⟨q1,q2⟩:=hp.dst;obtain⟨q3,q4⟩:=hp.agE;obtain⟨q5,q6⟩:=hp.agD;obtain⟨q7,q8⟩:=hp.src;have hc0:=jE h0;generalize hv:MN r c=res;rw[hv] at hfree;refine ak.ofF Bd.kC rfl (by simp) rfl hfree ?_;have hdt:=hc0 r.to.toNat;repeat(refine VC.mk (by first|(simp only[Rw.rng]; omega)|(simp only[okI]; omega)|(simp only[jH,jP,Rw.len]; omega)) ?_)
 refine⟨fun h1=>?_,fun h1=>?_⟩
 ·have hk1:r.kind=1:=by simpa using h1
  conv=>whnf
  cases ha:qV r (cO c r.to) with
  |true =>
   obtain⟨RS,Dn⟩: ∃ RS,RS=[cO c r.to]:=⟨_,rfl⟩
   have hlen:RS.length=1:=by rw[Dn]; rfl
   have hcR:zJ r c=RS:=by rw[Dn,Aw,show(r.kind==1)=true by rw[hk1]; rfl,ha]; rfl
   have MP:RS.length<=100:=by omega
   have hRS: ∀ l∈RS,l.length=c.length/\ ∀ j,0<=l.getD j 0/\l.getD j 0<=50000000:=fun l hl'=>hsm l (by rw[hcR]; exact hl')
   have hres:V.dW [.row 0 false (.bH (RS.map fun l=>aT l r.fr 1)),.bool true]=res:=by
    rw[<- hv]; unfold MN; rw[hB,hcR,decide_eq_true (by rw[List.length_map]; exact MP)]; rfl
   refine ah.Ql [4] (S.Qu r (cO c r.to) hr (by rw[dO]; omega) ha) rfl rfl rfl rfl rfl ⟨⟨_,rfl,tq rfl _⟩,trivial⟩ rfl (by decide) ?_;rintro t hp' ⟨rfl,rfl⟩;refine⟨.own 27,[some (iY (cO c r.to)),some (.gen 24 0 [.inn 4])],rfl,rfl,⟨congrArg some (tq rfl _).symm,rfl,trivial⟩,?_⟩;refine aA.fam 20000 [65,2] (fun i:Nat=>[(66,.int i),(64,.own 9),(7,.own 9)]) (fun i=>yj [(0,vM r),(9,yu RS.length)]++iH 10000 (fR (yw RS r.fr i))) (fun i=>i<=RS.length) (fun i=>RS.length-i) 0 (lY 10000 (fun _=>4) (iM [(0,vM r),(9,yu RS.length)] [0,27])) _ rfl (by decide) (fun _=>rfl) (Nat.zero_le _) (sR rfl) (.inl rfl) ?_ ?_
   ·refine jX.fam (g:=fun _=>4) [(0,vM r),(9,yu RS.length)] [0,27] ?_ rfl (Nat.zero_le _) (by rw[gZ,vk (Nat.zero_le _)]; omega) (fun j o q=>?_) (fun j j' o o' q q' _=>?_)
    ·exact kP rfl nofun rfl rfl ⟨_,rfl,rfl,rfl,by rw[OV.dY rfl]; exact .refl _⟩ (kP rfl nofun rfl (dD (by omega)) ⟨_,rfl,rfl,rfl,by rw[hlen]; exact .refl _⟩ trivial)
    ·rw[wP,Dn] at q;match j,q with
     |0,q=>cases q; exact⟨rfl,rfl,⟨_,rfl,rfl⟩,rfl⟩
     |j+1,q=>cases q
    ·rw[wP,Dn] at q q';match j,j',q,q' with
     |0,0,_,_=>rfl
     |j+1,_,q,_=>cases q
     |0,j+1,_,q=>cases q
   refine⟨(sR rfl),rfl,?_⟩;rintro i hi;have hpl:=vk (f:=r.fr) hi;refine⟨fun h5=>?_,fun h5=>?_⟩
   ·have hi':i<RS.length:=by
     have:=of_decide_eq_true h5
     (try simp only[List.length_cons,List.length_nil] at this)
     first|omega|(replace h5:decide ((i:Int)<1)=true:=h5; have:=of_decide_eq_true h5; omega)
    have hg:=Hg (f:=r.fr) hi';obtain⟨hR1,hR2⟩:=hRS (RS.getD i []) (by rw[getD_some hi']; exact List.getElem_mem hi');rw[<- hg] at hR1 hR2;have Z9:=hR2 r.fr.toNat;refine .mk (by show 0<=(i:Int)/\(i:Int)<((rV 10000 RS.length).length:Int); rw[pG]; omega) ?_;refine AtZ.inn hi' ?_;refine OE.fR 20000 2 rfl rfl (by omega) (by rw[hpl]; exact hi') ?_;refine .mk (by simp only[Rw.rng] at *; first|omega|(simp_all; done)|(simp_all; omega)) ?_;refine OE.fR 20000 2 rfl rfl (by omega) (by rw[hpl]; exact hi') ?_;repeat(refine VC.mk (by simp only[okI,Rw.rng] at *; first|omega|(simp_all; done)|(simp_all; omega)) ?_)
    refine OE.fR 20000 2 rfl rfl (by omega) (by rw[hpl]; exact hi') ?_;refine .mk (by simp only[Rw.rng] at *; first|omega|(simp_all; done)|(simp_all; omega)) ?_;refine NH.fR 20000 2 (aT (RS.getD i []) r.fr 1) rfl rfl (by omega) (by rw[hpl]; exact hi') (by show r.fr.toNat<((yw RS r.fr i).getD i []).length; omega) (by show some _=some _; rw[<- hg]; rfl) ?_;refine .mk (by simp only[okI] at *; first|omega|(simp_all; done)|(simp_all; omega)) ?_;refine qN.GY 20000 (i+1) (fR ((yw RS r.fr i).set i (aT (RS.getD i []) r.fr 1))) [(0,vM r),(9,yu RS.length)] [0,9] (by rw[Hl hi']) hi' (by omega) ?_ rfl rfl (Nat.zero_le _) (by rw[gZ,List.length_set,hpl]; omega) (by decide) jA (sR rfl) (sR rfl) ?_
    (repeat' (first|refine bQ.lo rfl ?_|refine bQ.hi rfl ?_|exact bQ.nil))
    ·exact kP rfl nofun rfl rfl ⟨_,rfl,rfl,rfl,by rw[OV.dY rfl]; exact .refl _⟩ (kP rfl nofun rfl (dD (by omega)) ⟨_,rfl,rfl,rfl,jY⟩ trivial)
   ·have hi':i=RS.length:=by
     have:=of_decide_eq_false h5
     (try simp only[List.length_cons,List.length_nil] at this)
     first|omega|(replace h5:decide ((i:Int)<1)=false:=h5; have:=of_decide_eq_false h5; omega)
    subst hi';rw[Ho] at hpl ⊢;rw[<- hres];refine iW.Y7 (iW.TT 20000 (by rw[List.length_map]; rfl) (by decide) ?_ (by rw[List.length_map]; omega))
    (repeat' (first|refine bQ.lo rfl ?_|refine bQ.hi rfl ?_|exact bQ.nil))
  |false =>
   obtain⟨RS,Dn⟩: ∃ RS,RS=r.ex.map fun x=>aT (cO c r.to) x 1:=⟨_,rfl⟩
   have MP:RS.length<=100:=by rw[Dn,List.length_map]; exact hx
   have hcR:zJ r c=RS:=by rw[Dn,Aw,show(r.kind==1)=true by rw[hk1]; rfl,ha]; rfl
   have hRS: ∀ l∈RS,l.length=c.length/\ ∀ j,0<=l.getD j 0/\l.getD j 0<=50000000:=fun l hl'=>hsm l (by rw[hcR]; exact hl')
   have hres:V.dW [.row 0 false (.bH (RS.map fun l=>aT l r.fr 1)),.bool true]=res:=by
    rw[<- hv]; unfold MN; rw[hB,hcR,decide_eq_true (by rw[List.length_map]; exact MP)]; rfl
   have hW:=S.Qv r (cO c r.to) false hr (by rw[dO]; omega) (by rw[dO]; exact hp.exs) hx (xY h0) ha;rw[<- Dn] at hW;refine ah.nest (fun c=>c=4) (D9 (i:=0) (o:=vM r) (r:=[]) rfl (by decide) trivial) hW ⟨aC _,AX rfl rfl,trivial⟩ rfl ae8 (fun o ho=>(Kq o ho).1) ?_;refine aA.fam 20000 [65,2] (fun i:Nat=>[(66,.int i),(64,.own 9),(7,.own 9)]) (fun i=>yj [(0,vM r),(9,yu RS.length)]++iH 10000 (fR (yw RS r.fr i))) (fun i=>i<=RS.length) (fun i=>RS.length-i) 0 (lY 10000 (fun j=>28+j) (iM [(0,vM r),(9,yu RS.length)] [0,27])) _ rfl (by decide) (fun _=>rfl) (Nat.zero_le _) (sR rfl) (.inl rfl) ?_ ?_
   ·refine jX.fam (g:=fun j=>28+j) [(0,vM r),(9,yu RS.length)] [0,27] ?_ rfl (Nat.zero_le _) (by rw[gZ,vk (Nat.zero_le _)]; omega) (fun j o q=>?_) (fun j j' o o' q q' e=>by replace e:28+j=28+j':=e; omega)
    ·refine kP rfl nofun rfl rfl ⟨_,Ua (by decide),rfl,rfl,by rw[OV.dY rfl]; exact .refl _⟩ (kP rfl nofun rfl (dD (by omega)) ⟨_,rfl,rfl,rfl,by rw[List.length_map]; exact XI⟩ trivial)
    ·rw[wP] at q;have hj:j<(fR RS).length:=(List.getElem?_eq_some_iff.1 q).1;obtain⟨g1,g2⟩:=jA (nx:=20000) o (List.mem_of_getElem? q);exact⟨g1,g2,⟨o,by rw[TW]; exact(XJ (n:=27) hj).trans (by rw[q]; rfl),rfl⟩,ab4 (by omega) (by omega)⟩
   refine⟨(sR rfl),rfl,?_⟩;rintro i hi;have hpl:=vk (f:=r.fr) hi;refine⟨fun h5=>?_,fun h5=>?_⟩
   ·have hi':i<RS.length:=by
     have:=of_decide_eq_true h5
     (try simp only[List.length_map,List.length_range,List.length_cons,List.length_nil] at this)
     first|omega|(replace h5:decide ((i:Int)<1)=true:=h5; have:=of_decide_eq_true h5; omega)
    have hg:=Hg (f:=r.fr) hi';obtain⟨hR1,hR2⟩:=hRS (RS.getD i []) (by rw[getD_some hi']; exact List.getElem_mem hi');rw[<- hg] at hR1 hR2;have Z9:=hR2 r.fr.toNat;refine .mk (by show 0<=(i:Int)/\(i:Int)<((rV 10000 RS.length).length:Int); rw[pG]; omega) ?_;refine AtZ.inn hi' ?_;refine OE.fR 20000 2 rfl rfl (by omega) (by rw[hpl]; exact hi') ?_;refine .mk (by simp only[Rw.rng] at *; first|omega|(simp_all; done)|(simp_all; omega)) ?_;refine OE.fR 20000 2 rfl rfl (by omega) (by rw[hpl]; exact hi') ?_;repeat(refine VC.mk (by simp only[okI,Rw.rng] at *; first|omega|(simp_all; done)|(simp_all; omega)) ?_)
    refine OE.fR 20000 2 rfl rfl (by omega) (by rw[hpl]; exact hi') ?_;refine .mk (by simp only[Rw.rng] at *; first|omega|(simp_all; done)|(simp_all; omega)) ?_;refine NH.fR 20000 2 (aT (RS.getD i []) r.fr 1) rfl rfl (by omega) (by rw[hpl]; exact hi') (by show r.fr.toNat<((yw RS r.fr i).getD i []).length; omega) (by show some _=some _; rw[<- hg]; rfl) ?_;refine .mk (by simp only[okI] at *; first|omega|(simp_all; done)|(simp_all; omega)) ?_;refine qN.GY 20000 (i+1) (fR ((yw RS r.fr i).set i (aT (RS.getD i []) r.fr 1))) [(0,vM r),(9,yu RS.length)] [0,9] (by rw[Hl hi']) hi' (by omega) ?_ rfl rfl (Nat.zero_le _) (by rw[gZ,List.length_set,hpl]; omega) (by decide) jA (sR rfl) (sR rfl) ?_
    (repeat' (first|refine bQ.lo rfl ?_|refine bQ.hi rfl ?_|exact bQ.nil))
    ·exact kP rfl nofun rfl rfl ⟨_,rfl,rfl,rfl,by rw[OV.dY rfl]; exact .refl _⟩ (kP rfl nofun rfl (dD (by omega)) ⟨_,rfl,rfl,rfl,jY⟩ trivial)
   ·have hi':i=RS.length:=by
     have:=of_decide_eq_false h5
     (try simp only[List.length_map,List.length_range,List.length_cons,List.length_nil] at this)
     first|omega|(replace h5:decide ((i:Int)<1)=false:=h5; have:=of_decide_eq_false h5; omega)
    subst hi';rw[Ho] at hpl ⊢;rw[<- hres];refine iW.Y7 (iW.TT 20000 (by rw[List.length_map]; rfl) (by decide) ?_ (by rw[List.length_map]; omega))
    (repeat' (first|refine bQ.lo rfl ?_|refine bQ.hi rfl ?_|exact bQ.nil))
 ·conv=>whnf
  refine⟨fun h2=>?_,fun h2=>?_⟩
  ·have hk2:r.kind=2:=by simpa using h2
   obtain⟨RS,Dn⟩: ∃ RS,RS=[aT (cO (cO c r.to) r.zV) r.jh 1]:=⟨_,rfl⟩
   have hlen:RS.length=1:=by rw[Dn]; rfl
   have hcR:zJ r c=RS:=by rw[Dn,Aw,show(r.kind==1)=false by rw[hk2]; rfl,show(r.kind==2)=true by rw[hk2]; rfl]; rfl
   have MP:RS.length<=100:=by omega
   have hRS: ∀ l∈RS,l.length=c.length/\ ∀ j,0<=l.getD j 0/\l.getD j 0<=50000000:=fun l hl'=>hsm l (by rw[hcR]; exact hl')
   have hres:V.dW [.row 0 false (.bH (RS.map fun l=>aT l r.fr 1)),.bool true]=res:=by
    rw[<- hv]; unfold MN; rw[hB,hcR,decide_eq_true (by rw[List.length_map]; exact MP)]; rfl
   have hd1:0<=(c.set r.to.toNat (max (c.getD r.to.toNat 0-1) 0)).getD r.zV.toNat 0/\(c.set r.to.toNat (max (c.getD r.to.toNat 0-1) 0)).getD r.zV.toNat 0<=1048576:=jE (xY h0) _;have hd2:0<=((c.set r.to.toNat (max (c.getD r.to.toNat 0-1) 0)).set r.zV.toNat (max ((c.set r.to.toNat (max (c.getD r.to.toNat 0-1) 0)).getD r.zV.toNat 0-1) 0)).getD r.jh.toNat 0/\((c.set r.to.toNat (max (c.getD r.to.toNat 0-1) 0)).set r.zV.toNat (max ((c.set r.to.toNat (max (c.getD r.to.toNat 0-1) 0)).getD r.zV.toNat 0-1) 0)).getD r.jh.toNat 0<=1048576:=jE (xY (xY h0)) _;repeat(refine VC.mk (by first|(simp only[Rw.rng,List.length_set]; omega)|(simp only[okI]; omega)) ?_)
   refine aA.fam 20000 [65,2] (fun i:Nat=>[(66,.int i),(64,.own 9),(7,.own 9)]) (fun i=>yj [(0,vM r),(9,yu RS.length)]++iH 10000 (fR (yw RS r.fr i))) (fun i=>i<=RS.length) (fun i=>RS.length-i) 0 (lY 10000 (fun _=>4) (iM [(0,vM r),(9,yu RS.length)] [0,19])) _ rfl (by decide) (fun _=>rfl) (Nat.zero_le _) (sR rfl) (.inl rfl) ?_ ?_
   ·refine jX.fam (g:=fun _=>4) [(0,vM r),(9,yu RS.length)] [0,19] ?_ rfl (Nat.zero_le _) (by rw[gZ,vk (Nat.zero_le _)]; omega) (fun j o q=>?_) (fun j j' o o' q q' _=>?_)
    ·exact kP rfl nofun rfl rfl ⟨_,rfl,rfl,rfl,by rw[OV.dY rfl]; exact .refl _⟩ (kP rfl nofun rfl (dD (by omega)) ⟨_,rfl,rfl,rfl,by rw[hlen]; exact .refl _⟩ trivial)
    ·rw[wP,Dn] at q;match j,q with
     |0,q=>cases q; exact⟨rfl,rfl,⟨_,rfl,rfl⟩,rfl⟩
     |j+1,q=>cases q
    ·rw[wP,Dn] at q q';match j,j',q,q' with
     |0,0,_,_=>rfl
     |j+1,_,q,_=>cases q
     |0,j+1,_,q=>cases q
   refine⟨(sR rfl),rfl,?_⟩;rintro i hi;have hpl:=vk (f:=r.fr) hi;refine⟨fun h5=>?_,fun h5=>?_⟩
   ·have hi':i<RS.length:=by
     have:=of_decide_eq_true h5
     (try simp only[List.length_cons,List.length_nil] at this)
     first|omega|(replace h5:decide ((i:Int)<1)=true:=h5; have:=of_decide_eq_true h5; omega)
    have hg:=Hg (f:=r.fr) hi';obtain⟨hR1,hR2⟩:=hRS (RS.getD i []) (by rw[getD_some hi']; exact List.getElem_mem hi');rw[<- hg] at hR1 hR2;have Z9:=hR2 r.fr.toNat;refine .mk (by show 0<=(i:Int)/\(i:Int)<((rV 10000 RS.length).length:Int); rw[pG]; omega) ?_;refine AtZ.inn hi' ?_;refine OE.fR 20000 2 rfl rfl (by omega) (by rw[hpl]; exact hi') ?_;refine .mk (by simp only[Rw.rng] at *; first|omega|(simp_all; done)|(simp_all; omega)) ?_;refine OE.fR 20000 2 rfl rfl (by omega) (by rw[hpl]; exact hi') ?_;repeat(refine VC.mk (by simp only[okI,Rw.rng] at *; first|omega|(simp_all; done)|(simp_all; omega)) ?_)
    refine OE.fR 20000 2 rfl rfl (by omega) (by rw[hpl]; exact hi') ?_;refine .mk (by simp only[Rw.rng] at *; first|omega|(simp_all; done)|(simp_all; omega)) ?_;refine NH.fR 20000 2 (aT (RS.getD i []) r.fr 1) rfl rfl (by omega) (by rw[hpl]; exact hi') (by show r.fr.toNat<((yw RS r.fr i).getD i []).length; omega) (by show some _=some _; rw[<- hg]; rfl) ?_;refine .mk (by simp only[okI] at *; first|omega|(simp_all; done)|(simp_all; omega)) ?_;refine qN.GY 20000 (i+1) (fR ((yw RS r.fr i).set i (aT (RS.getD i []) r.fr 1))) [(0,vM r),(9,yu RS.length)] [0,9] (by rw[Hl hi']) hi' (by omega) ?_ rfl rfl (Nat.zero_le _) (by rw[gZ,List.length_set,hpl]; omega) (by decide) jA (sR rfl) (sR rfl) ?_
    (repeat' (first|refine bQ.lo rfl ?_|refine bQ.hi rfl ?_|exact bQ.nil))
    ·exact kP rfl nofun rfl rfl ⟨_,rfl,rfl,rfl,by rw[OV.dY rfl]; exact .refl _⟩ (kP rfl nofun rfl (dD (by omega)) ⟨_,rfl,rfl,rfl,jY⟩ trivial)
   ·have hi':i=RS.length:=by
     have:=of_decide_eq_false h5
     (try simp only[List.length_cons,List.length_nil] at this)
     first|omega|(replace h5:decide ((i:Int)<1)=false:=h5; have:=of_decide_eq_false h5; omega)
    subst hi';rw[Ho] at hpl ⊢;rw[<- hres];refine iW.Y7 (iW.TT 20000 (by rw[List.length_map]; rfl) (by decide) ?_ (by rw[List.length_map]; omega))
    (repeat' (first|refine bQ.lo rfl ?_|refine bQ.hi rfl ?_|exact bQ.nil))
  ·have hk3:r.kind=3:=by
    rcases hk with h|h|h
    ·rw[h] at h1; cases h1
    ·rw[h] at h2; cases h2
    ·exact h
   obtain⟨ab5,ahq⟩:=hp.rsp hk3;have hS:=S.qO r.response (cO c r.to) false false (by rw[dO,ab5]) (by rw[dO]; exact hl0) (by rw[dO]; exact hl) (xY h0) (by rw[dO]; exact ahq);refine Fork.mk (fun _=>?_) (fun q=>absurd (q.symm.trans (by rw[hk3]; rfl)) Bool.false_ne_true);conv=>whnf
   cases hso:Bf r.response (cO c r.to) with
   |true =>
    have hW:=hS.1 hso;have aeo:=hso;unfold Bf at aeo;rw[Bool.and_eq_true] at aeo;have hst:mD r.response (cO c r.to)=false:=by simpa using aeo.1
    obtain⟨RS,Dn⟩: ∃ RS,RS=lF r.response (cO c r.to) (nS (cO c r.to)) (cO c r.to).length:=⟨_,rfl⟩
    have MP:RS.length<=100:=by rw[Dn]; exact of_decide_eq_true aeo.2
    have hcR:zJ r c=RS:=by rw[Dn,Aw,show(r.kind==1)=false by rw[hk3]; rfl,show(r.kind==2)=false by rw[hk3]; rfl,show(r.kind==3)=true by rw[hk3]; rfl,hst]; rfl
    have hRS: ∀ l∈RS,l.length=c.length/\ ∀ j,0<=l.getD j 0/\l.getD j 0<=50000000:=fun l hl'=>hsm l (by rw[hcR]; exact hl')
    have hres:V.dW [.row 0 false (.bH (RS.map fun l=>aT l r.fr 1)),.bool true]=res:=by
     rw[<- hv]; unfold MN; rw[hB,hcR,decide_eq_true (by rw[List.length_map]; exact MP)]; rfl
    rw[<- Dn] at hW;refine ah.nest (fun c=>c=4) (D9 (i:=0) (o:=vM r) (r:=[]) rfl (by decide) trivial) hW ⟨aC _,AX rfl rfl,trivial⟩ rfl (abW true) (fun o ho=>(Kq o ho).1) ?_;refine Fork.mk (fun q=>absurd (q.symm.trans (rfl)).symm Bool.false_ne_true) (fun _=>?_);refine aA.fam 20000 [65,2] (fun i:Nat=>[(66,.int i),(64,.own 9),(7,.own 9)]) (fun i=>yj [(0,vM r),(9,yu RS.length)]++iH 10000 (fR (yw RS r.fr i))) (fun i=>i<=RS.length) (fun i=>RS.length-i) 0 (lY 10000 (fun j=>34+j) (iM [(0,vM r),(9,yu RS.length)] [0,33])) _ rfl (by decide) (fun _=>rfl) (Nat.zero_le _) (sR rfl) (.inl rfl) ?_ ?_
    ·refine jX.fam (g:=fun j=>34+j) [(0,vM r),(9,yu RS.length)] [0,33] ?_ rfl (Nat.zero_le _) (by rw[gZ,vk (Nat.zero_le _)]; omega) (fun j o q=>?_) (fun j j' o o' q q' e=>by replace e:34+j=34+j':=e; omega)
     ·refine kP rfl nofun rfl rfl ⟨_,Ua (by decide),rfl,rfl,by rw[OV.dY rfl]; exact .refl _⟩ (kP rfl nofun rfl (dD (by omega)) ⟨_,rfl,rfl,rfl,by rw[List.length_map]; exact XI⟩ trivial)
     ·rw[wP] at q;have hj:j<(fR RS).length:=(List.getElem?_eq_some_iff.1 q).1;obtain⟨g1,g2⟩:=jA (nx:=20000) o (List.mem_of_getElem? q);exact⟨g1,g2,⟨o,by rw[TW]; exact(XJ (n:=33) hj).trans (by rw[q]; rfl),rfl⟩,ab4 (by omega) (by omega)⟩
    refine⟨(sR rfl),rfl,?_⟩;rintro i hi;have hpl:=vk (f:=r.fr) hi;refine⟨fun h5=>?_,fun h5=>?_⟩
    ·have hi':i<RS.length:=by
      have:=of_decide_eq_true h5
      (try simp only[List.length_map,List.length_range,List.length_cons,List.length_nil] at this)
      first|omega|(replace h5:decide ((i:Int)<1)=true:=h5; have:=of_decide_eq_true h5; omega)
     have hg:=Hg (f:=r.fr) hi';obtain⟨hR1,hR2⟩:=hRS (RS.getD i []) (by rw[getD_some hi']; exact List.getElem_mem hi');rw[<- hg] at hR1 hR2;have Z9:=hR2 r.fr.toNat;refine .mk (by show 0<=(i:Int)/\(i:Int)<((rV 10000 RS.length).length:Int); rw[pG]; omega) ?_;refine AtZ.inn hi' ?_;refine OE.fR 20000 2 rfl rfl (by omega) (by rw[hpl]; exact hi') ?_;refine .mk (by simp only[Rw.rng] at *; first|omega|(simp_all; done)|(simp_all; omega)) ?_;refine OE.fR 20000 2 rfl rfl (by omega) (by rw[hpl]; exact hi') ?_;repeat(refine VC.mk (by simp only[okI,Rw.rng] at *; first|omega|(simp_all; done)|(simp_all; omega)) ?_)
     refine OE.fR 20000 2 rfl rfl (by omega) (by rw[hpl]; exact hi') ?_;refine .mk (by simp only[Rw.rng] at *; first|omega|(simp_all; done)|(simp_all; omega)) ?_;refine NH.fR 20000 2 (aT (RS.getD i []) r.fr 1) rfl rfl (by omega) (by rw[hpl]; exact hi') (by show r.fr.toNat<((yw RS r.fr i).getD i []).length; omega) (by show some _=some _; rw[<- hg]; rfl) ?_;refine .mk (by simp only[okI] at *; first|omega|(simp_all; done)|(simp_all; omega)) ?_;refine qN.GY 20000 (i+1) (fR ((yw RS r.fr i).set i (aT (RS.getD i []) r.fr 1))) [(0,vM r),(9,yu RS.length)] [0,9] (by rw[Hl hi']) hi' (by omega) ?_ rfl rfl (Nat.zero_le _) (by rw[gZ,List.length_set,hpl]; omega) (by decide) jA (sR rfl) (sR rfl) ?_
     (repeat' (first|refine bQ.lo rfl ?_|refine bQ.hi rfl ?_|exact bQ.nil))
     ·exact kP rfl nofun rfl rfl ⟨_,rfl,rfl,rfl,by rw[OV.dY rfl]; exact .refl _⟩ (kP rfl nofun rfl (dD (by omega)) ⟨_,rfl,rfl,rfl,jY⟩ trivial)
    ·have hi':i=RS.length:=by
      have:=of_decide_eq_false h5
      (try simp only[List.length_map,List.length_range,List.length_cons,List.length_nil] at this)
      first|omega|(replace h5:decide ((i:Int)<1)=false:=h5; have:=of_decide_eq_false h5; omega)
     subst hi';rw[Ho] at hpl ⊢;rw[<- hres];refine iW.Y7 (iW.TT 20000 (by rw[List.length_map]; rfl) (by decide) ?_ (by rw[List.length_map]; omega))
     (repeat' (first|refine bQ.lo rfl ?_|refine bQ.hi rfl ?_|exact bQ.nil))
   |false =>
    refine ah.lend (hS.2 hso) ⟨aC _,AX trivial rfl,trivial⟩ rfl rfl ?_;unfold Bf at hso;cases hst:mD r.response (cO c r.to) with
    |true =>
     have hcR:zJ r c=[]:=by rw[Aw,show(r.kind==1)=false by rw[hk3]; rfl,show(r.kind==2)=false by rw[hk3]; rfl,show(r.kind==3)=true by rw[hk3]; rfl,hst]; rfl
     have hres:V.dW [.row 0 false (.bH []),.bool true]=res:=by
      rw[<- hv]; unfold MN; rw[hB,hcR]; rfl
     refine Fork.mk (fun q=>absurd (q.symm.trans (rfl)).symm Bool.false_ne_true) (fun _=>?_);refine aA.times 1 rfl ?_;refine Fork.mk (fun q=>absurd (q.symm.trans ((rfl:decide ((0:Int)<0)=false))).symm Bool.false_ne_true) (fun _=>?_);conv=>whnf
     rw[<- hres];exact iW.same
    |false =>
     have hbig: ¬ (lF r.response (cO c r.to) (nS (cO c r.to)) (cO c r.to).length).length<=100:=by
      rw[hst] at hso;simpa using hso
     have hcR:zJ r c=lF r.response (cO c r.to) (nS (cO c r.to)) (cO c r.to).length:=by rw[Aw,show(r.kind==1)=false by rw[hk3]; rfl,show(r.kind==2)=false by rw[hk3]; rfl,show(r.kind==3)=true by rw[hk3]; rfl,hst]; rfl
     have hres:V.dW [.row 0 false (.bH []),.bool false]=res:=by
      rw[<- hv]; unfold MN; rw[hB,hcR,decide_eq_false (by rw[List.length_map]; exact hbig)]; rfl
     refine Fork.mk (fun _=>?_) (fun q=>absurd (q.symm.trans (rfl)) Bool.false_ne_true);conv=>whnf
     rw[<- hres];exact iW.TU
end Go.Proofs.YtkmldgihhaooaaaGreatDoor
