/-
 What a broadcast comes from: the program's lists. No condition.
-/
import Derived.Test.YtkmldgihhaooaaaGreatDoorQa
namespace Go.Proofs.YtkmldgihhaooaaaGreatDoor
open Go.Ab Go.Proofs
set_option maxRecDepth 100000
theorem abt{Z:Nat->Prop}{h:Hz}{i:Nat}{R:List (List Int)}(C:Nat)(hi:h.get i=some (xW R.length))(hz: ¬ Z i)(hZ: ∀ j,j<R.length->Z (10000+j))(q:bU 10000 C (iD 10000 (fR R)) h)(hC:10000+R.length<=C) :
  ∃ o',h.get i=some o'/\ ¬ Z i/\o'.au.ty=(OV.row 24 0 (.bG R) []).au.ty/\o'.au.k=(OV.row 24 0 (.bG R) []).au.k/\T.dH Z h.ay (OV.row 24 0 (.bG R) []).au.l o'.au.l/\(OV.row 24 0 (.bG R) []).au.l.map T.kd=o'.au.l.map T.kd/\(OV.row 24 0 (.bG R) []).au.l.map fZ=o'.au.l.map fZ:=by
 have e1:(OV.row 24 0 (.bG R) []).au.l=R.map Go.Ab.ints:=by simp[OV.au,Rw.aU,V.aU]
 have e2:(xW R.length).au.l=(List.range R.length).map fun j=>T.own (10000+j):=lN
 refine⟨_,hi,hz,rfl,rfl,?_,?_,?_⟩
 ·rw[e1,e2]
  refine Gg (by simp) fun j t u h1 h2=>?_
  have hj:j<R.length:=by have:=(List.getElem?_eq_some_iff.1 h1).1; simpa using this
  rw[List.getElem?_map,List.getElem?_eq_getElem hj] at h1
  rw[List.getElem?_map,List.getElem?_range hj] at h2
  cases h1; cases h2
  refine⟨rfl,hZ j hj,?_,by decide,3,?_⟩
  ·rw[fU]; intro t ht; obtain⟨x,_,rfl⟩:=List.mem_map.1 ht; rfl
  ·have:=aK (q.get (by rw[gZ]; exact hC) (LU hj))
   rw[this,getD_some hj]
   simp[OV.au,V.aU,Rw.aU]
 ·rw[e1,e2,List.map_map,List.map_map]
  apply List.ext_getElem
  ·simp
  ·intro j h1 h2
   simp only[List.getElem_map,Function.comp]; rfl
 ·rw[e1,e2,List.map_map,List.map_map]
  apply List.ext_getElem
  ·simp
  ·intro j h1 h2
   simp only[List.getElem_map,Function.comp]; rfl
theorem YS{Z:Nat->Prop}{h:Hz}{i:Nat}{R:List (List Int)}{r:Hz}(C:Nat)(hi:h.get i=some (xW R.length))(hz: ¬ Z i)(hZ: ∀ j,j<R.length->Z (10000+j))(q:bU 10000 C (iD 10000 (fR R)) h)(hC:10000+R.length<=C)(hr:LK Z h r):LK Z h ((i,some (.row 24 0 (.bG R) []))::r):=⟨abt C hi hz hZ q hC,hr⟩
theorem Du{Z:Nat->Prop}{h:Hz}{i:Nat}{o:OV}{r:Hz}(hi:h.get i=some o)(hz: ¬ Z i)(hr:LK Z h r):LK Z h ((i,some o)::r):=⟨iW hi hz,hr⟩
def lU(resp:List Int)(t i:Nat):List Int:=((List.range i).filter fun x=>resp.getD x 0==(t:Int)).map fun x:Nat=>(x:Int)
theorem xH{resp:List Int}{t i:Nat}:lU resp t (i+1)=bif resp.getD i 0==(t:Int) then lU resp t i++[(i:Int)] else lU resp t i:=by
 unfold lU
 rw[List.range_succ,List.filter_append,List.map_append,List.filter_cons,List.filter_nil]
 show _++List.map _ (if(resp.getD i 0==(t:Int))=true then [i] else [])=_
 cases (resp.getD i 0==(t:Int))
 ·exact List.append_nil _
 ·rfl
theorem zy{resp:List Int}{t i:Nat}:(lU resp t i).length<=i:=by
 unfold lU
 rw[List.length_map]
 exact Nat.le_trans (List.length_filter_le ..) (by simp)
theorem OE{resp:List Int}{t i:Nat}: ∀ x∈lU resp t i,0<=x/\x<i:=by
 intro x hx
 obtain⟨k,hk,rfl⟩:=List.mem_map.1 hx
 have:=List.mem_range.1 (List.mem_filter.1 hk).1
 omega
def EK(resp need:List Int)(i:Nat):Bool:=(List.range i).any fun t=>decide (0<need.getD t 0)&& !(MN resp t)
theorem Jg{resp need:List Int}{i:Nat}:EK resp need (i+1)=(EK resp need i||(decide (0<need.getD i 0)&& !(MN resp i))):=by
 unfold EK
 rw[List.range_succ,List.any_append]; simp
theorem LW{resp need:List Int}:EK resp need need.length=lS resp need:=rfl
theorem OG{resp need:List Int}{i:Nat}(hi:i<need.length)(h:(decide (0<need.getD i 0)&& !(MN resp i))=true):lS resp need=true:=by
 unfold lS
 rw[List.any_eq_true]
 exact⟨i,List.mem_range.2 hi,h⟩
def IG(c xs ks:List Int)(i:Nat):List Int:=nU c (xs.take i) (ks.take i)
theorem abu: ∀ {xs ks:List Int} {c:List Int} {x k:Int},xs.length=ks.length->nU c (xs++[x]) (ks++[k])=aT (nU c xs ks) x k:=by
 intro xs
 induction xs with
 |nil=>intro ks c x k h; cases ks with|nil=>rfl|cons _ _=>cases h
 |cons a xs ih =>
  intro ks c x k h
  cases ks with
  |nil=>cases h
  |cons b ks=>exact ih (Nat.succ.inj h)
theorem YT{c xs ks:List Int}{i:Nat}(h1:i<xs.length)(h2:i<ks.length):IG c xs ks (i+1)=aT (IG c xs ks i) (xs.getD i 0) (ks.getD i 0):=by
 unfold IG
 rw[List.take_succ_eq_append_getElem h1,List.take_succ_eq_append_getElem h2,abu (by simp; omega),getD_some h1,getD_some h2]
theorem abv{c xs ks:List Int}(h:xs.length=ks.length):IG c xs ks ks.length=nU c xs ks:=by
 unfold IG
 rw[<- h,List.take_length,h,List.take_length]
theorem abw{c xs ks:List Int}{i:Nat}:(IG c xs ks i).length=c.length:=SI
def D5(O S:List (List Int))(xs:List Int)(i j:Nat):List (List Int):=((O.take i).flatMap fun c=>S.map fun s=>nU c xs s)++(S.take j).map fun s=>nU (O.getD i []) xs s
theorem Qm{O S:List (List Int)}{xs:List Int}{i j:Nat}(hi:i<=O.length)(hj:j<=S.length):(D5 O S xs i j).length=i*S.length+j:=by
 have: ∀ L:List (List Int),(L.flatMap fun c=>S.map fun s=>nU c xs s).length=L.length*S.length:=by
  intro L
  induction L with
  |nil=>simp
  |cons c L ih=>rw[List.flatMap_cons,List.length_append,ih,List.length_map,List.length_cons,Nat.succ_mul,Nat.add_comm]
 unfold D5
 rw[List.length_append,this,List.length_map,List.length_take,List.length_take,Nat.min_eq_left hi,Nat.min_eq_left hj]
theorem abx{O S:List (List Int)}{xs:List Int}{i j:Nat}(hj:j<S.length):D5 O S xs i (j+1)=D5 O S xs i j++[nU (O.getD i []) xs (S.getD j [])]:=by
 unfold D5
 rw[List.take_succ_eq_append_getElem hj,List.map_append,<- List.append_assoc,getD_some hj]; rfl
theorem aby{O S:List (List Int)}{xs:List Int}{i:Nat}(hi:i<O.length):D5 O S xs (i+1) 0=D5 O S xs i S.length:=by
 unfold D5
 rw[List.take_succ_eq_append_getElem hi,List.flatMap_append,List.take_length,getD_some hi]
 simp
theorem adR{O S:List (List Int)}{xs:List Int}:D5 O S xs O.length 0=O.flatMap fun c=>S.map fun s=>nU c xs s:=by
 unfold D5
 rw[List.take_length]; simp
theorem Qn{resp need b:List Int}(hb:b.length=resp.length)(_hn:need.length=resp.length)(h0: ∀ i,0<=need.getD i 0){n:Nat}(h:n<=need.length): ∀ c∈lg resp need [b] n,c.length=resp.length:=(WR hb h h0).len
theorem ak.Td{b:Bool}{k:Nat}{h:Hz}:ak (.dU [.row 0 false (.bG []),.bool b]) (.dU [.row k true .nil,.bool b]) h:=⟨by
  show T.sub _ _ (.dU [.sl 0 false [],(V.bool b).aH]) (.dU [.sl k true [],(V.bool b).aH])
  simp only[T.sub,T.dH]
  exact⟨⟨.inl trivial,.inr trivial,fun h=>by cases h⟩,aG _,trivial⟩⟩
def nD(need:List Int):List (List Int):=[List.replicate need.length 0]
theorem Gx{c:List Int}{i d B M:Int}(hc: ∀ j,0<=c.getD j 0/\c.getD j 0<=B)(hd:0<=d/\d<=M)(j:Nat):0<=(aT c i d).getD j 0/\(aT c i d).getD j 0<=B+M:=by
 have:=hc j
 rw[mO]
 split<;>omega
theorem Tj: ∀ {xs ks c:List Int} {B M:Int},(∀ j,0<=c.getD j 0/\c.getD j 0<=B)->(∀ k∈ks,0<=k/\k<=M)->0<=M-> ∀ j,0<=(nU c xs ks).getD j 0/\(nU c xs ks).getD j 0<=B+xs.length*M:=by
 intro xs
 induction xs with
 |nil=>intro ks c B M hc _ _ j; have:=hc j; simp only[nU,List.length_nil]; omega
 |cons x xs ih =>
  intro ks c B M hc hk hM j
  have hm:(0:Int)<=(xs.length:Int)*M:=Int.mul_nonneg (by omega) hM
  have e:(((x::xs).length:Nat):Int)*M=M+(xs.length:Int)*M:=by rw[List.length_cons,Int.natCast_add,Int.add_mul]; simp only[Int.natCast_one,Int.one_mul]; omega
  cases ks with
  |nil=>have:=hc j; rw[e]; simp only[nU]; omega
  |cons k ks =>
   have:=ih (c:=aT c x k) (B:=B+M) (ks:=ks) (Gx hc (hk k (by simp))) (fun y hy=>hk y (List.mem_cons_of_mem _ hy)) hM j
   rw[e]
   simp only[nU]
   omega
theorem WX: ∀ {l:List Int} {x:Int},(∀ y∈l,0<=y)->x∈l->x<=l.sum:=by
 intro l
 induction l with
 |nil=>intro x _ h; cases h
 |cons a l ih =>
  intro x h0 hx
  have ha:=h0 a (by simp)
  have hl: ∀ y∈l,0<=y:=fun y hy=>h0 y (List.mem_cons_of_mem _ hy)
  have hs:0<=l.sum:=by
   cases l with
   |nil=>simp
   |cons b l=>exact Int.le_trans (hl b (by simp)) (ih hl (by simp))
  rw[List.sum_cons]
  rcases List.mem_cons.1 hx with rfl|hx
  ·omega
  ·have:=ih hl hx; omega
theorem Qo{resp need:List Int}(h0:Nq need)(hl:resp.length<=6): ∀ t:Nat,∀ c∈lg resp need (nD need) t,∀ j,0<=c.getD j 0/\c.getD j 0<=(t:Int)*6291456:=by
 intro t
 induction t with
 |zero =>
  intro c hc j
  have:c=List.replicate need.length 0:=by simpa [lg,nD] using hc
  subst this
  rw[List.getD_eq_getElem?_getD,List.getElem?_replicate]
  split<;>simp
 |succ t ih =>
  intro c hc j
  rw[uj] at hc
  unfold xU at hc
  cases hz:(need.getD t 0==0) with
  |true =>
   rw[hz] at hc
   have:=ih c hc j
   omega
  |false =>
   rw[hz,cond_false,List.mem_flatMap] at hc
   obtain⟨b,hb,hc⟩:=hc
   rw[vM,List.mem_map] at hc
   obtain⟨s,hs,rfl⟩:=hc
   have hm:=jv h0 t
   obtain⟨hs1,hs2⟩:=Qi hs
   have hx:(iq resp t).length<=6:=Nat.le_trans (zy (resp:=resp) (t:=t) (i:=resp.length)) hl
   have:=Tj (xs:=iq resp t) (ks:=s) (M:=1048576) (ih b hb) (fun k hk=>⟨hs2 k hk,by have:=WX hs2 hk; rw[hs1] at this; omega⟩) (by decide) j
   have:((iq resp t).length:Int)*1048576<=6*1048576:=Int.mul_le_mul_of_nonneg_right (by omega) (by decide)
   omega
def Aw(resp need:List Int):Bool:= !(lS resp need)&&decide ((lg resp need (nD need) need.length).length<=100)
abbrev Jp(O:List (List Int))(xs:List Int)(k:Nat):List (Nat×OV):=[(9,.row 24 0 (.bG O) []),(10,jm xs),(11,xW k)]
theorem kL{ρ:Nat->Nat}{nx pn:Nat}{h:Hz}{c n:Nat}{o:OV}{l:List (Nat×OV)}{s:List Nat}(h1:Nat.blt c nx=true)(h2:Nat.blt c pn=true->n=c)(h3:oD n s=true)(h4:o.good nx=true)(h5: ∃ o',h.get n=some o'/\o'.au.ty=o.au.ty/\o'.au.k=o.au.k/\dR (T.bK ρ o.au.l) o'.au.l)(h6:okR ρ nx pn h l s):okR ρ nx pn h ((c,o)::l) (n::s):=⟨⟨h1,h2,h3,h4,h5⟩,h6⟩
set_option maxHeartbeats 4000000 in
theorem S.qh(resp need:List Int)(f g:Bool)(hn:need.length=resp.length)(hn0:0<need.length)(hn6:need.length<=6)(h0:Nq need)(_hp:qy need.length resp) :
  (Aw resp need=true->Cb Tryz.prog 121 [.row 0 f (.ints resp),.row 0 g (.ints need)] (fun n=>.dU [.own n,.bool true]) 24 ((lg resp need (nD need) need.length).map jm)) /\
  (Aw resp need=false->aj Tryz.prog 121 [.row 0 f (.ints resp),.row 0 g (.ints need)] (.dU [.row 0 false (.bG []),.bool (lS resp need)])):=by
 have hpos: ∀ i,0<=need.getD i 0:=fun i=>(jv h0 i).1
 refine afK.of (Aw resp need) Bd.qh (by simp) rfl (abr true) JV rfl ?_
 refine aC.objs 0 [24,25,0,1] (fun i:Nat=>[(26,.int i)]) (fun _=>[]) (fun i=>i<=need.length/\EK resp need i=false) (fun i=>need.length-i) 0 [] rfl (by decide) (fun _=>rfl) ⟨Nat.zero_le _,rfl⟩ (sR rfl) trivial ?_
 refine⟨(sR rfl),rfl,?_⟩
 rintro i ⟨hi,hs⟩
 refine⟨fun h1=>?_,fun h1=>?_⟩
 ·have hi':i<need.length:=by simpa using h1
  repeat(refine VC.mk (by first|exact fun h=>⟨h,h⟩|(simp only[Rw.rng] at *; omega)) ?_)
  refine ah.ig (fun _=>S.slices_Contains_int resp i f (by omega)) rfl ?_
  repeat(refine VC.mk id ?_)
  refine⟨fun h2=>?_,fun h2=>?_⟩
  ·replace h2:(decide (0<need.getD i 0)&& !(MN resp i))=true:=h2
   have hS:=OG hi' h2
   conv=>whnf
   rw[show Aw resp need=false by unfold Aw; rw[hS]; rfl,hS]
   exact⟨nofun,fun _=>ak.Td⟩
  ·replace h2:(decide (0<need.getD i 0)&& !(MN resp i))=false:=h2
   refine .mk (by simp only[okI] at *; omega) ?_
   exact⟨i+1,[],⟨hi',by rw[Jg,hs,h2]; rfl⟩,by omega,(sR rfl),(sR rfl),trivial⟩
 ·have hi':i=need.length:=by have:=of_decide_eq_false h1; omega
  subst hi'
  rw[LW] at hs
  conv=>whnf
  rw[E9 hn0]
  refine .mk (by omega) ?_
  conv=>whnf
  have hz:(nD need).length=1:=rfl
  have ag4: ∀ t,need.getD t 0≠0->iq resp t≠[]:=Ac hs hpos
  refine aC.fam 20000 [44,45,0] (fun t:Nat=>[(46,.int t),(8,.own 9)]) (fun t=>xR [(9,xW (lg resp need (nD need) t).length)]++iD 10000 (fR (lg resp need (nD need) t))) (fun t=>t<=need.length/\(lg resp need (nD need) t).length<=100) (fun t=>need.length-t) 0 (lM 10000 (fun _=>3) (iK [(9,xW 1)] [4])) _ rfl (by decide) (fun _=>rfl) ⟨Nat.zero_le _,by show 1<=100; decide⟩ (sR rfl) (.inl rfl) ?_ ?_
  ·refine jR.fam (g:=fun _=>3) [(9,xW 1)] [4] ?_ rfl (Nat.zero_le _) (show 10000+1<=20000 by decide) (fun j o q=>?_) (fun j j' o o' q q' _=>?_)
   ·exact kL rfl nofun rfl (dF (by decide)) ⟨_,rfl,rfl,rfl,.refl _⟩ trivial
   ·match j,q with
    |0,q=>cases q; exact⟨rfl,rfl,⟨_,rfl,rfl⟩,rfl⟩
    |j+1,q=>cases q
   ·match j,j',q,q' with
    |0,0,_,_=>rfl
    |j+1,_,q,_=>cases q
    |0,j+1,_,q=>cases q
  refine⟨(sR rfl),rfl,?_⟩
  clear h1 hi
  rintro t ⟨ht,hL⟩
  have hlen: ∀ c∈lg resp need (nD need) t,c.length=resp.length:=Qn (by simp[hn]) hn hpos ht
  have aai:=Qo h0 (by omega:resp.length<=6) t
  have hne:(lg resp need (nD need) t)≠[]:=by
   have:=SX (resp:=resp) (need:=need) (out:=nD need) ag4 (n:=0) t
   rw[Nat.zero_add] at this
   intro h
   rw[h] at this
   exact absurd this (by show ¬ 1<=0; decide)
  have hnx:lg resp need (nD need) (t+1)=xU resp need (lg resp need (nD need) t) t:=uj
  have hbig: ∀ u,u<=need.length->100<(lg resp need (nD need) u).length->Aw resp need=false:=fun u hu hb=>by
   have:=adQ ag4 hu hb
   unfold Aw
   rw[decide_eq_false (by omega),Bool.and_false]
  generalize hO:lg resp need (nD need) t=OUT at hL hlen hne hnx aai
  refine⟨fun h1=>?_,fun h1=>?_⟩
  ·have ht':t<need.length:=by simpa using h1
   refine .mk (by simp only[Rw.rng] at *; omega) ?_
   refine⟨fun h2=>?_,fun h2=>?_⟩
   ·replace h2:(need.getD t 0==0)=true:=h2
    have hsame:lg resp need (nD need) (t+1)=OUT:=by rw[hnx]; unfold xU; rw[h2]; rfl
    refine .mk (by simp only[okI] at *; omega) ?_
    refine qg.Gp 20000 (t+1) (fR OUT) [(9,xW OUT.length)] [9] (by rw[hsame]) ⟨ht',by rw[hsame]; exact hL⟩ (by omega) ?_ rfl rfl (Nat.zero_le _) (by rw[gZ]; omega) (by decide) jk (sR rfl) (sR rfl) ?_
    (repeat' (first|refine bU.lo rfl ?_|refine bU.hi rfl ?_|exact bU.nil))
    ·exact kL rfl nofun rfl (dF (by omega)) ⟨_,rfl,rfl,rfl,jS⟩ trivial
   ·replace h2:(need.getD t 0==0)=false:=h2
    refine aC.nil 11 3 0 (by rfl) rfl rfl rfl ?_
    refine aC.fam 20000 [53,54,9,10,8,46,44,45,0] (fun i:Nat=>[(55,.int i),(11,.own 10)]) (fun i=>xR [(9,xW OUT.length),(10,jm (lU resp t i))]++iD 10000 (fR OUT)) (fun i=>i<=resp.length) (fun i=>resp.length-i) 0 (lM 10000 (fun j=>10000+j) (iK [(9,xW OUT.length),(10,jm [])] [9,20012])) _ rfl (by decide) (fun _=>rfl) (Nat.zero_le _) (sR rfl) (.inl rfl) ?_ ?_
    ·refine jR.WM 20000 [(9,xW OUT.length),(10,jm [])] [9,20012] ?_ rfl rfl (Nat.zero_le _) (by rw[gZ]; omega) (by decide) jk ?_
     (repeat' (first|refine bU.lo rfl ?_|refine bU.hi rfl ?_|exact bU.nil))
     ·exact kL rfl nofun rfl (dF (by omega)) ⟨_,rfl,rfl,rfl,jS⟩ (kL rfl nofun rfl rfl ⟨_,rfl,rfl,rfl,.refl _⟩ trivial)
    refine⟨(sR rfl),rfl,?_⟩
    rintro i hi
    have hfl:=zy (resp:=resp) (t:=t) (i:=i)
    refine⟨fun h3=>?_,fun h3=>?_⟩
    ·have hi':i<resp.length:=by simpa using h3
     refine .mk (by simp only[Rw.rng] at *; omega) ?_
     refine⟨fun h4=>?_,fun h4=>?_⟩
     ·replace h4:(resp.getD i 0==(t:Int))=true:=h4
      have hf:lU resp t (i+1)=lU resp t i++[(i:Int)]:=by rw[xH,h4]; rfl
      repeat(refine VC.mk (by first|(simp only[kH,kQ,Rw.len,List.length_cons,List.length_nil]; omega)|(simp only[okI] at *; omega)) ?_)
      refine qg.Gp 20000 (i+1) (fR OUT) [(9,xW OUT.length),(10,jm (lU resp t (i+1)))] [9,20012] rfl hi' (by omega) ?_ rfl rfl (Nat.zero_le _) (by rw[gZ]; omega) (by decide) jk (sR rfl) (sR rfl) ?_
      (repeat' (first|refine bU.lo rfl ?_|refine bU.hi rfl ?_|exact bU.nil))
      ·exact kL rfl nofun rfl (dF (by omega)) ⟨_,rfl,rfl,rfl,jS⟩ (kL rfl nofun rfl rfl ⟨_,rfl,rfl,rfl,by rw[hf,OV.dS rfl]; exact .refl _⟩ trivial)
     ·replace h4:(resp.getD i 0==(t:Int))=false:=h4
      have hf:lU resp t (i+1)=lU resp t i:=by rw[xH,h4]; rfl
      refine .mk (by simp only[okI] at *; omega) ?_
      refine qg.Gp 20000 (i+1) (fR OUT) [(9,xW OUT.length),(10,jm (lU resp t (i+1)))] [9,10] rfl hi' (by omega) ?_ rfl rfl (Nat.zero_le _) (by rw[gZ]; omega) (by decide) jk (sR rfl) (sR rfl) ?_
      (repeat' (first|refine bU.lo rfl ?_|refine bU.hi rfl ?_|exact bU.nil))
      ·exact kL rfl nofun rfl (dF (by omega)) ⟨_,rfl,rfl,rfl,jS⟩ (kL rfl nofun rfl rfl ⟨_,rfl,rfl,rfl,by rw[hf,OV.dS rfl]; exact .refl _⟩ trivial)
    ·have hi':i=resp.length:=by have:=of_decide_eq_false h3; omega
     subst hi'
     have hFr:lU resp t resp.length=iq resp t:=rfl
     rw[hFr] at hfl ⊢
     have hrg: ∀ x∈iq resp t,0<=x/\x<resp.length:=fun x hx=>OE x (hFr▸hx)
     have hm:=jv h0 t
     have hm0:need.getD t 0≠0:=by simpa using h2
     generalize hX:iq resp t=XS at hfl hrg
     obtain⟨m,hm'⟩: ∃ m:Nat,need.getD t 0=(m:Int):=⟨(need.getD t 0).toNat,by omega⟩
     have hmT:(need.getD t 0).toNat=m:=by omega
     have htl:=adM (resp:=resp) (out:=OUT) hm0
     rw[hX,hmT,<- hnx] at htl
     conv=>whnf
     rw[show need.getD ((t:Int)).toNat 0=(m:Int) from hm']
     refine ah.pure (S.mP XS.length m (by omega) (by omega)) IE ?_
     by_cases hd:(kK XS.length m).length<=100
     ·rw[zx hd]
      have hmul:OUT.length*(kK XS.length m).length<=100*100:=Nat.mul_le_mul hL hd
      repeat(refine VC.mk (by first|(intro _; refine⟨rfl,rfl,?_⟩; show okI (((rD 10000 OUT.length).length:Int)*((kK XS.length m).length:Int)); rw[oQ,<- Int.natCast_mul]; simp only[okI]; omega)|exact fun h=>h|(intro h; rw[h]; rfl)) ?_)
      refine⟨fun h4=>?_,fun h4=>?_⟩
      ·have hf:100<OUT.length*(kK XS.length m).length:=by
        replace h4:decide (100<((rD 10000 OUT.length).length:Int)*((kK XS.length m).length:Int))=true:=h4
        have:=of_decide_eq_true h4
        rw[oQ,<- Int.natCast_mul] at this
        omega
       have hno:=hbig (t+1) ht' (by rw[htl]; exact hf)
       rw[hno,hs]
       exact⟨nofun,fun _=>ak.Td⟩
      ·have hf:OUT.length*(kK XS.length m).length<=100:=by
        replace h4:decide (100<((rD 10000 OUT.length).length:Int)*((kK XS.length m).length:Int))=false:=h4
        have:=of_decide_eq_false h4
        rw[oQ,<- Int.natCast_mul] at this
        omega
       have hsl: ∀ x∈kK XS.length m,x.length=XS.length/\(x.sum=m/\ ∀ y∈x,0<=y):=fun x hx=>⟨Gv hx,Qi hx⟩
       have hfin:(OUT.flatMap fun c=>(kK XS.length m).map fun x=>nU c XS x)=lg resp need (nD need) (t+1):=by
        rw[hnx]
        unfold xU
        rw[h2,hX,hmT]
        show _=OUT.flatMap _
        congr 1
        funext c
        rw[vM]
       generalize hS:kK XS.length m=SH at hf hsl hd hfin
       refine aC.nil 16 24 0 (by rfl) rfl rfl rfl ?_
       refine aC.fam 20000 [85,86,14,11,46,44,45,0] (fun i:Nat=>[(87,.int i),(16,.own 11)]) (fun i=>xR (Jp OUT XS (D5 OUT SH XS i 0).length)++iD 10000 (fR (D5 OUT SH XS i 0))) (fun i=>i<=OUT.length) (fun i=>OUT.length-i) 0 (lM 10000 (fun j=>10000+j) (iK (Jp OUT XS 0) [9,10,20024])) [(9,some (.row 24 0 (.bG OUT) [])),(10,some (jm XS)),(20024,some (.row 24 0 .nil []))] rfl (by decide) (fun _=>rfl) (Nat.zero_le _) (sR rfl) (.inr ⟨fun c=>10000<=c/\c<20000,YS (R:=OUT) 20000 rfl (show ¬ (10000<=9/\9<20000) by omega) (fun j hj=>show 10000<=10000+j/\10000+j<20000 by omega) ?_ (by omega) (Du rfl (show ¬ (10000<=10/\10<20000) by omega) (Du rfl (show ¬ (10000<=20024/\20024<20000) by omega) trivial))⟩) ?_ ?_
       (repeat' (first|refine bU.lo rfl ?_|refine bU.hi rfl ?_|exact bU.nil))
       ·refine jR.fam (g:=fun j=>10000+j) (Jp OUT XS 0) [9,10,20024] ?_ rfl (Nat.zero_le _) (show 10000+0<=20000 by decide) (fun j o q=>by cases q) (fun j _ o _ q=>by cases q)
        exact kL rfl nofun rfl rfl ⟨_,rfl,rfl,rfl,by rw[OV.dS rfl]; exact .refl _⟩ (kL rfl nofun rfl rfl ⟨_,rfl,rfl,rfl,by rw[OV.dS rfl]; exact .refl _⟩ (kL rfl nofun rfl rfl ⟨_,rfl,rfl,rfl,.refl _⟩ trivial))
       refine⟨(sR rfl),rfl,?_⟩
       clear hi
       rintro i hi
       have hN0:=Qm (xs:=XS) hi (Nat.zero_le SH.length)
       have afO: ∀ i j,i<OUT.length->j<=SH.length->i*SH.length+j<=100:=fun i j h1 h2=>by
        have:=Nat.mul_le_mul_right SH.length h1
        rw[Nat.succ_mul] at this
        omega
       have hN0':i*SH.length<=100:=Nat.le_trans (Nat.mul_le_mul_right _ hi) hf
       refine⟨fun h5=>?_,fun h5=>?_⟩
       ·have hi':i<OUT.length:=by simpa using h5
        have hmem:OUT.getD ((i:Int)).toNat []∈OUT:=by show OUT.getD i []∈OUT; rw[getD_some hi']; exact List.getElem_mem hi'
        have hb:=hlen _ hmem
        have hbb:=aai _ hmem
        repeat(refine VC.mk (by simp only[Rw.rng] at *; omega) ?_)
        refine aC.fam 20000 [91,92,18,11,87,85,86,14,46,44,45,0] (fun j:Nat=>[(93,.int j),(16,.own 11)]) (fun j=>xR (Jp OUT XS (D5 OUT SH XS i j).length)++iD 10000 (fR (D5 OUT SH XS i j))) (fun j=>j<=SH.length) (fun j=>SH.length-j) 0 (lM 10000 (fun j=>10000+j) (iK (Jp OUT XS (D5 OUT SH XS i 0).length) [9,10,11])) _ rfl (by decide) (fun _=>rfl) (Nat.zero_le _) (sR rfl) (.inl rfl) ?_ ?_
        ·refine jR.WM 20000 (Jp OUT XS (D5 OUT SH XS i 0).length) [9,10,11] ?_ rfl rfl (Nat.zero_le _) (by rw[gZ]; omega) (by decide) jk ?_
         (repeat' (first|refine bU.lo rfl ?_|refine bU.hi rfl ?_|exact bU.nil))
         ·exact kL rfl nofun rfl rfl ⟨_,rfl,rfl,rfl,by rw[OV.dS rfl]; exact .refl _⟩ (kL rfl nofun rfl rfl ⟨_,rfl,rfl,rfl,by rw[OV.dS rfl]; exact .refl _⟩ (kL rfl nofun rfl (dF (by omega)) ⟨_,rfl,rfl,rfl,jS⟩ trivial))
        refine⟨(sR rfl),rfl,?_⟩
        rintro j hj
        have hNj:=Qm (xs:=XS) hi hj
        have ah0:=afO i j hi' hj
        refine⟨fun h6=>?_,fun h6=>?_⟩
        ·have hj':j<SH.length:=by simpa using h6
         have hNs:D5 OUT SH XS i (j+1)=D5 OUT SH XS i j++[nU (OUT.getD ((i:Int)).toNat []) XS (SH.getD ((j:Int)).toNat [])]:=abx hj'
         have hN1:=Qm (xs:=XS) hi hj'
         rw[hNs] at hN1
         have ah1:=afO i (j+1) hi' hj'
         obtain⟨hs1,hs2,hs3⟩:=hsl (SH.getD ((j:Int)).toNat []) (by show SH.getD j []∈SH; rw[getD_some hj']; exact List.getElem_mem hj')
         have hs4: ∀ k∈SH.getD ((j:Int)).toNat [],0<=k/\k<=1048576:=fun k hk=>⟨hs3 k hk,by have:=WX hs3 hk; rw[hs2] at this; omega⟩
         repeat(refine VC.mk (by first|(simp only[kH,kQ,Rw.len]; omega)|(simp only[Rw.rng] at *; omega)) ?_)
         generalize hbase:OUT.getD ((i:Int)).toNat []=base at hb hbb hNs hN1 ⊢
         generalize ah2:SH.getD ((j:Int)).toNat []=shr at hs1 hs2 hs3 hs4 hNs hN1 ⊢
         refine aC.fam 20000 [99,100,11,16,93,91,92,18,87,85,86,14,46,44,45,0] (fun x:Nat=>[(101,.int x),(21,.own 12)]) (fun x=>xR (Jp OUT XS (D5 OUT SH XS i j).length++[(12,jm (IG base XS shr x))])++iD 10000 (fR (D5 OUT SH XS i j))) (fun x=>x<=shr.length) (fun x=>shr.length-x) 0 (lM 10000 (fun j=>10000+j) (iK (Jp OUT XS (D5 OUT SH XS i j).length++[(12,jm (IG base XS shr 0))]) [9,10,11,20005])) _ rfl (by decide) (fun _=>rfl) (Nat.zero_le _) (sR rfl) (.inl rfl) ?_ ?_
         ·refine jR.WM 20000 (Jp OUT XS (D5 OUT SH XS i j).length++[(12,jm (IG base XS shr 0))]) [9,10,11,20005] ?_ rfl rfl (Nat.zero_le _) (by rw[gZ]; omega) (by decide) jk ?_
          (repeat' (first|refine bU.lo rfl ?_|refine bU.hi rfl ?_|exact bU.nil))
          ·exact kL rfl nofun rfl rfl ⟨_,rfl,rfl,rfl,by rw[OV.dS rfl]; exact .refl _⟩ (kL rfl nofun rfl rfl ⟨_,rfl,rfl,rfl,by rw[OV.dS rfl]; exact .refl _⟩ (kL rfl nofun rfl (dF (by omega)) ⟨_,rfl,rfl,rfl,jS⟩ (kL rfl nofun rfl rfl ⟨_,rfl,rfl,rfl,by rw[OV.dS rfl]; exact .refl _⟩ trivial)))
         refine⟨(sR rfl),rfl,?_⟩
         rintro x hx
         have hpl:=@abw base XS shr x
         have hpb: ∀ k,0<=(IG base XS shr x).getD k 0/\(IG base XS shr x).getD k 0<=50000000:=fun k=>by
          have h1:=Tj (xs:=XS.take x) (ks:=shr.take x) (M:=1048576) hbb (fun k hk=>hs4 k (List.mem_of_mem_take hk)) (by decide) k
          have h2:((XS.take x).length:Int)*1048576<=6*1048576:=Int.mul_le_mul_of_nonneg_right (by rw[List.length_take]; omega) (by decide)
          have h3:(t:Int)*6291456<=6*6291456:=Int.mul_le_mul_of_nonneg_right (by omega) (by decide)
          unfold IG
          omega
         refine⟨fun h7=>?_,fun h7=>?_⟩
         ·have hx':x<shr.length:=by simpa using h7
          have ahN:=YT (c:=base) (xs:=XS) (ks:=shr) (i:=x) (by omega) hx'
          have hxr:=hrg (XS.getD x 0) (by rw[getD_some (by omega)]; exact List.getElem_mem _)
          have hxk:=hs4 (shr.getD x 0) (by rw[getD_some hx']; exact List.getElem_mem _)
          have hpx:=hpb (XS.getD ((x:Int)).toNat 0).toNat
          replace hxr:0<=XS.getD ((x:Int)).toNat 0/\XS.getD ((x:Int)).toNat 0<resp.length:=hxr
          replace hxk:0<=shr.getD ((x:Int)).toNat 0/\shr.getD ((x:Int)).toNat 0<=1048576:=hxk
          repeat(refine VC.mk (by first|(simp only[Rw.rng]; omega)|(simp only[okI]; omega)) ?_)
          refine qg.Gp 20000 (x+1) (fR (D5 OUT SH XS i j)) (Jp OUT XS (D5 OUT SH XS i j).length++[(12,jm (IG base XS shr (x+1)))]) [9,10,11,12] rfl hx' (by omega) ?_ rfl rfl (Nat.zero_le _) (by rw[gZ]; omega) (by decide) jk (sR rfl) (sR rfl) ?_
          (repeat' (first|refine bU.lo rfl ?_|refine bU.hi rfl ?_|exact bU.nil))
          ·exact kL rfl nofun rfl rfl ⟨_,rfl,rfl,rfl,by rw[OV.dS rfl]; exact .refl _⟩ (kL rfl nofun rfl rfl ⟨_,rfl,rfl,rfl,by rw[OV.dS rfl]; exact .refl _⟩ (kL rfl nofun rfl (dF (by omega)) ⟨_,rfl,rfl,rfl,jS⟩ (kL rfl nofun rfl rfl ⟨_,rfl,rfl,rfl,by rw[ahN,OV.dS rfl]; exact .refl _⟩ trivial)))
         ·have hx':x=shr.length:=by have:=of_decide_eq_false h7; omega
          subst hx'
          rw[abv hs1.symm] at hpl ⊢
          repeat(refine VC.mk (by first|(show((rD 10000 (D5 OUT SH XS i j).length).length+(0+1))*24<=140737488355328/\(rD 10000 (D5 OUT SH XS i j).length).length+(0+1)<=1152921504606846976; rw[oQ]; omega)|(simp only[okI] at *; omega)) ?_)
          refine qg.Vq 20000 (j+1) (D5 OUT SH XS i j).length 12 (fR (D5 OUT SH XS i j)) (fR (D5 OUT SH XS i j++[nU base XS shr])) (Jp OUT XS ((D5 OUT SH XS i j).length+1)) [9,10,20004] (by rw[hNs,List.length_append]; rfl) hj' (by omega) ?_ rfl rfl rfl (Nat.zero_le _) (by rw[gZ]; omega) (by rw[gZ]; omega) (by decide) jk ?_ (Vz rfl) (sR rfl) (sR rfl) ?_
          (repeat' (first|refine bU.lo rfl ?_|refine bU.hi rfl ?_|exact bU.nil))
          ·intro o ho
           rw[Qj rfl] at ho
           cases ho
           exact⟨_,rfl,rfl⟩
          ·exact kL rfl nofun rfl rfl ⟨_,rfl,rfl,rfl,by rw[OV.dS rfl]; exact .refl _⟩ (kL rfl nofun rfl rfl ⟨_,rfl,rfl,rfl,by rw[OV.dS rfl]; exact .refl _⟩ (kL rfl nofun rfl (dF (by omega)) ⟨_,rfl,rfl,rfl,Iu⟩ trivial))
        ·have hj':j=SH.length:=by have:=of_decide_eq_false h6; omega
         subst hj'
         have hst:=aby (S:=SH) (xs:=XS) hi'
         refine .mk (by simp only[okI] at *; omega) ?_
         refine qg.Gp 20000 (i+1) (fR (D5 OUT SH XS i SH.length)) (Jp OUT XS (D5 OUT SH XS i SH.length).length) [9,10,11] (by rw[hst]) hi' (by omega) ?_ rfl rfl (Nat.zero_le _) (by rw[gZ]; omega) (by decide) jk (sR rfl) (sR rfl) ?_
         (repeat' (first|refine bU.lo rfl ?_|refine bU.hi rfl ?_|exact bU.nil))
         ·exact kL rfl nofun rfl rfl ⟨_,rfl,rfl,rfl,by rw[OV.dS rfl]; exact .refl _⟩ (kL rfl nofun rfl rfl ⟨_,rfl,rfl,rfl,by rw[OV.dS rfl]; exact .refl _⟩ (kL rfl nofun rfl (dF (by omega)) ⟨_,rfl,rfl,rfl,jS⟩ trivial))
       ·have hi':i=OUT.length:=by have:=of_decide_eq_false h5; rw[oQ] at this; omega
        subst hi'
        rw[adR,hfin] at hN0 ⊢
        refine .mk (by simp only[okI] at *; omega) ?_
        refine qg.Gp 20000 (t+1) (fR (lg resp need (nD need) (t+1))) [(9,xW (lg resp need (nD need) (t+1)).length)] [11] rfl ⟨ht',by omega⟩ (by omega) ?_ rfl rfl (Nat.zero_le _) (by rw[gZ]; omega) (by decide) jk (sR rfl) (sR rfl) ?_
        (repeat' (first|refine bU.lo rfl ?_|refine bU.hi rfl ?_|exact bU.nil))
        ·exact kL rfl nofun rfl (dF (by omega)) ⟨_,rfl,rfl,rfl,jS⟩ trivial
     ·have hnone:divO XS.length m=none:=by unfold divO; rw[if_neg hd]
      rw[Dt hnone]
      have hno:=hbig (t+1) ht' (by
       rw[htl]
       have:0<OUT.length:=List.length_pos_iff.2 hne
       exact Nat.lt_of_lt_of_le (by omega:100<(kK XS.length m).length) (Nat.le_mul_of_pos_left _ this))
      rw[hno,hs]
      repeat(refine VC.mk (by first|exact id|(intro h; rw[h]; rfl)|(intro h; simp_all; done)) ?_)
      refine Fork.mk (fun _=>?_) (fun q=>absurd (q.symm.trans (rfl)) Bool.false_ne_true)
      exact⟨nofun,fun _=>ak.Td⟩
  ·have ht':t=need.length:=by have:=of_decide_eq_false h1; omega
   subst ht'
   have hok:Aw resp need=true:=by unfold Aw; rw[hs,hO,decide_eq_true hL]; rfl
   rw[hok,hO]
   refine⟨fun _=>Qh.fam 20000 rfl (by decide) ?_ (by omega),nofun⟩
   (repeat' (first|refine bU.lo rfl ?_|refine bU.hi rfl ?_|exact bU.nil))
theorem Oi.fR(C k:Nat){j:Nat}{R:List (List Int)}{h:Hz}{K:Nat->Rw->Prop}(e:h.drop k=iD 10000 (fR R))(ho:BX 10000 C (h.take k)=true)(hC:10000+R.length<=C)(hj:j<R.length)(hK:K 0 (.ints (R.getD j []))):Oi h (10000+j) K :=
 Oi.fam C (show Aa (h.take k) _ h from by rw[Aa,<- e,List.take_append_drop]) ho (by rw[gZ]; exact hC) (LU hj) hK
theorem afP{R:List (List Int)}{j:Nat}{r:List Int}:(fR R).set j (some (jm r))=fR (R.set j r):=(List.map_set ..).symm
theorem Nj.fR(C k:Nat){j x:Nat}{R:List (List Int)}{v:V}{h:Hz}{K:Hz->Prop}(r':List Int)(e:h.drop k=iD 10000 (fR R))(ho:BX 10000 C (h.take k)=true)(hC:10000+R.length<=C)(hj:j<R.length)(hr:x<(R.getD j []).length)(hs:(Rw.ints (R.getD j [])).set x v=some (.ints r'))
  (hK:K (h.take k++iD 10000 (fR (R.set j r')))):Nj h (10000+j) x 0 v K :=
 Nj.fam C (show Aa (h.take k) _ h from by rw[Aa,<- e,List.take_append_drop]) ho (by rw[gZ]; exact hC) (LU hj) hs (by show 0<=(x:Int)/\(x:Int)<_; omega) (by rw[afP]; exact hK)
theorem WY{B k:Nat}{f:Nat->Nat}:dR (T.bK (lM 10000 (fun j=>B+j) f) (xW k).au.l) (BZ 24 B k).au.l:=by
 refine dR.of_eq ?_
 show T.bK _ (V.aU (rD 10000 k))=V.aU (rD B k)
 rw[lN,lN,zo,List.map_map]
 refine List.map_congr_left fun j _=>?_
 show T.own (lM 10000 (fun j=>B+j) f (10000+j))=T.own (B+j)
 rw[sF]
theorem WZ{n j:Nat}{x:Option OV}{L:List (Option OV)}{h:Hz}(hj:j<L.length):Hz.get (n+1+j) ((n,x)::(iD (n+1) L++h))=(L[j]?).join:=by
 simp only[Hz.get]
 have hne:Nat.beq n (n+1+j)=false:=by
  cases e:Nat.beq n (n+1+j) with
  |false=>rfl
  |true=>have:=eY e; omega
 rw[hne,cond_false,Vs hj]
theorem abz{a x y:Nat}(h1:a≠x)(h2:a≠y):oD a [x,y]=true:=by
 have e: ∀ z,a≠z->Nat.beq a z=false:=fun z h=>by
  cases e:Nat.beq a z with
  |false=>rfl
  |true=>exact absurd (eY e) h
 simp only[oD,e x h1,e y h2]; rfl
def xX(R:List (List Int))(f:Int)(i:Nat):List (List Int):=(R.take i).map (fun l=>aT l f 1)++R.drop i
theorem uO{R:List (List Int)}{f:Int}{i:Nat}(h:i<=R.length):(xX R f i).length=R.length:=by
 unfold xX
 rw[List.length_append,List.length_map,List.length_take,List.length_drop]; omega
theorem Gy{R:List (List Int)}{f:Int}{i:Nat}(h:i<R.length):(xX R f i).getD i []=R.getD i []:=by
 unfold xX
 rw[List.getD_eq_getElem?_getD,List.getElem?_append_right (by rw[List.length_map,List.length_take]; omega),List.length_map,List.length_take,Nat.min_eq_left (by omega),Nat.sub_self,List.getElem?_drop,Nat.add_zero,<- List.getD_eq_getElem?_getD]
theorem Gz{R:List (List Int)}{f:Int}{i:Nat}(h:i<R.length):xX R f (i+1)=(xX R f i).set i (aT (R.getD i []) f 1):=by
 unfold xX
 rw[List.take_succ_eq_append_getElem h,List.map_append,List.set_append_right _ _ (by rw[List.length_map,List.length_take]; omega),List.length_map,List.length_take,Nat.min_eq_left (by omega),Nat.sub_self,List.drop_eq_getElem_cons h,List.set_cons_zero,getD_some h,List.append_assoc]; rfl
theorem GH{R:List (List Int)}{f:Int}:xX R f R.length=R.map fun l=>aT l f 1:=by
 unfold xX
 rw[List.take_length,List.drop_length,List.append_nil]
theorem wz{R:List (List Int)}{f:Int}:xX R f 0=R:=rfl
theorem Tm{n:Nat}{x:Option OV}{L:List (Option OV)}{i:Nat}{o:OV}{h:Hz}(hi:i<n)(e:h.get i=some o:=by rfl):Hz.get i ((n,x)::(iD (n+1) L++h))=some o:=by
 simp only[Hz.get]
 have hne:Nat.beq n i=false:=by
  cases e:Nat.beq n i with
  |false=>rfl
  |true=>have:=eY e; omega
 rw[hne,cond_false,Qg (.inl (by omega)),e]
def LX(r:Rule)(c:List Int):V:=bif decide ((sZ r c).length<=100) then .dU [.row 0 false (.bG (sZ r c)),.bool true] else .dU [.row 0 false (.bG []),.bool false]
theorem OH{r:Rule}{c:List Int}:(LX r c).free=true:=by unfold LX; cases decide ((sZ r c).length<=100)<;>rfl
theorem Ad{r:Rule}{c:List Int}:zu r c=(bif r.kind==1 then(bif qA r (cZ c r.to) then [cZ c r.to] else r.ex.map fun x=>aT (cZ c r.to) x 1) else
  bif r.kind==2 then [aT (cZ (cZ c r.to) r.zI) r.iV 1] else
  bif r.kind==3 then(bif lS r.response (cZ c r.to) then [] else lg r.response (cZ c r.to) (nD (cZ c r.to)) (cZ c r.to).length) else [cZ c r.to]):=rfl
theorem xI{c:List Int}{i:Int}(h:Nq c):Nq (cZ c i):=by
 intro x hx
 rcases List.mem_or_eq_of_mem_set hx with h1|h1
 ·exact h x h1
 ·have:=jv h i.toNat; omega
theorem LY{r:Rule}{c:List Int}(hp:oC c.length r)(h0:Nq c)(hl:c.length<=6): ∀ l∈zu r c,l.length=c.length/\ ∀ j,0<=l.getD j 0/\l.getD j 0<=50000000:=by
 have hd:Nq (cZ c r.to):=xI h0
 have hone: ∀ (d:List Int) (x:Int),Nq d-> ∀ j,0<=(aT d x 1).getD j 0/\(aT d x 1).getD j 0<=50000000:=fun d x h j=>by
  have:=Gx (B:=1048576) (M:=1) (i:=x) (d:=1) (jv h) (by omega) j
  omega
 intro l hl'
 rw[Ad] at hl'
 cases h1:(r.kind==1) with
 |true =>
  rw[h1,cond_true] at hl'
  cases ha:qA r (cZ c r.to) with
  |true =>
   rw[ha,cond_true,List.mem_singleton] at hl'
   subst hl'
   exact⟨dN,fun j=>by have:=jv hd j; omega⟩
  |false =>
   rw[ha,cond_false,List.mem_map] at hl'
   obtain⟨x,_,rfl⟩:=hl'
   exact⟨by rw[iQ,dN],hone _ x hd⟩
 |false =>
  rw[h1,cond_false] at hl'
  cases h2:(r.kind==2) with
  |true =>
   rw[h2,cond_true,List.mem_singleton] at hl'
   subst hl'
   exact⟨by rw[iQ,dN,dN],hone _ _ (xI hd)⟩
  |false =>
   rw[h2,cond_false] at hl'
   cases h3:(r.kind==3) with
   |true =>
    obtain⟨abA,ag5⟩:=hp.rsp (by simpa using h3)
    rw[h3,cond_true] at hl'
    cases hs:lS r.response (cZ c r.to) with
    |true=>rw[hs,cond_true] at hl'; cases hl'
    |false =>
     rw[hs,cond_false] at hl'
     have h1:=Qn (b:=List.replicate (cZ c r.to).length 0) (by simp[dN,abA]) (by rw[dN,abA]) (fun i=>(jv hd i).1) (Nat.le_refl _) l hl'
     refine⟨by rw[h1,abA],fun j=>?_⟩
     have:=Qo hd (by omega) _ l hl' j
     rw[dN] at this
     have:(c.length:Int)*6291456<=6*6291456:=Int.mul_le_mul_of_nonneg_right (by omega) (by decide)
     omega
   |false =>
    rw[h3,cond_false,List.mem_singleton] at hl'
    subst hl'
    exact⟨dN,fun j=>by have:=jv hd j; omega⟩
abbrev vg(r:Rule):OV:=.box 86 19 (.dat (.rule r))
set_option maxHeartbeats 4000000 in
theorem S.jV(r:Rule)(c:List Int)(f:Bool)(hr:uT r)(hp:oC c.length r)(h0:Nq c)(hl0:0<c.length)(hl:c.length<=6)(hx:r.ex.length<=100)(hk:r.kind=1\/r.kind=2\/r.kind=3):aj Tryz.prog 85 [.dat (.rule r),.row 0 f (.ints c)] (LX r c):=by
 have hfree:=@OH r c
 have hsm:=LY hp h0 hl
 have hB:sZ r c=(zu r c).map fun l=>aT l r.fr 1:=rfl
 obtain⟨q1,q2⟩:=hp.dst
 obtain⟨q3,q4⟩:=hp.af9
 obtain⟨q5,q6⟩:=hp.af8
 obtain⟨q7,q8⟩:=hp.src
 have hc0:=jv h0
 generalize hv:LX r c=res
 rw[hv] at hfree
 refine aj.ofF Bd.jV rfl (by simp) rfl hfree ?_
 have hdt:=hc0 r.to.toNat
 repeat(refine VC.mk (by first|(simp only[Rw.rng]; omega)|(simp only[okI]; omega)|(simp only[kH,kQ,Rw.len]; omega)) ?_)
 refine⟨fun h1=>?_,fun h1=>?_⟩
 ·have hk1:r.kind=1:=by simpa using h1
  conv=>whnf
  cases ha:qA r (cZ c r.to) with
  |true =>
   obtain⟨RS,CG⟩: ∃ RS,RS=[cZ c r.to]:=⟨_,rfl⟩
   have hlen:RS.length=1:=by rw[CG]; rfl
   have hcR:zu r c=RS:=by rw[CG,Ad,show(r.kind==1)=true by rw[hk1]; rfl,ha]; rfl
   have LZ:RS.length<=100:=by omega
   have hRS: ∀ l∈RS,l.length=c.length/\ ∀ j,0<=l.getD j 0/\l.getD j 0<=50000000:=fun l hl'=>hsm l (by rw[hcR]; exact hl')
   have hres:V.dU [.row 0 false (.bG (RS.map fun l=>aT l r.fr 1)),.bool true]=res:=by
    rw[<- hv]; unfold LX; rw[hB,hcR,decide_eq_true (by rw[List.length_map]; exact LZ)]; rfl
   refine ah.Vl [4] (S.Qk r (cZ c r.to) hr (by rw[dN]; omega) ha) rfl rfl rfl rfl rfl ⟨⟨_,rfl,uN rfl _⟩,trivial⟩ rfl (by decide) ?_
   rintro t hp' ⟨rfl,rfl⟩
   refine⟨.own 27,[some (jm (cZ c r.to)),some (.gen 24 0 [.inn 4])],rfl,rfl,⟨congrArg some (uN rfl _).symm,rfl,trivial⟩,?_⟩
   refine aC.fam 20000 [65,2] (fun i:Nat=>[(66,.int i),(64,.own 9),(7,.own 9)]) (fun i=>xR [(0,vg r),(9,xW RS.length)]++iD 10000 (fR (xX RS r.fr i))) (fun i=>i<=RS.length) (fun i=>RS.length-i) 0 (lM 10000 (fun _=>4) (iK [(0,vg r),(9,xW RS.length)] [0,27])) _ rfl (by decide) (fun _=>rfl) (Nat.zero_le _) (sR rfl) (.inl rfl) ?_ ?_
   ·refine jR.fam (g:=fun _=>4) [(0,vg r),(9,xW RS.length)] [0,27] ?_ rfl (Nat.zero_le _) (by rw[gZ,uO (Nat.zero_le _)]; omega) (fun j o q=>?_) (fun j j' o o' q q' _=>?_)
    ·exact kL rfl nofun rfl rfl ⟨_,rfl,rfl,rfl,by rw[OV.dS rfl]; exact .refl _⟩ (kL rfl nofun rfl (dF (by omega)) ⟨_,rfl,rfl,rfl,by rw[hlen]; exact .refl _⟩ trivial)
    ·rw[wz,CG] at q
     match j,q with
     |0,q=>cases q; exact⟨rfl,rfl,⟨_,rfl,rfl⟩,rfl⟩
     |j+1,q=>cases q
    ·rw[wz,CG] at q q'
     match j,j',q,q' with
     |0,0,_,_=>rfl
     |j+1,_,q,_=>cases q
     |0,j+1,_,q=>cases q
   refine⟨(sR rfl),rfl,?_⟩
   rintro i hi
   have hpl:=uO (f:=r.fr) hi
   refine⟨fun h5=>?_,fun h5=>?_⟩
   ·have hi':i<RS.length:=by
     have:=of_decide_eq_true h5
     (try simp only[List.length_cons,List.length_nil] at this)
     first|omega|(replace h5:decide ((i:Int)<1)=true:=h5; have:=of_decide_eq_true h5; omega)
    have hg:=Gy (f:=r.fr) hi'
    obtain⟨hR1,hR2⟩:=hRS (RS.getD i []) (by rw[getD_some hi']; exact List.getElem_mem hi')
    rw[<- hg] at hR1 hR2
    have Zu:=hR2 r.fr.toNat
    refine .mk (by show 0<=(i:Int)/\(i:Int)<((rD 10000 RS.length).length:Int); rw[oQ]; omega) ?_
    refine AtZ.inn hi' ?_
    refine Oi.fR 20000 2 rfl rfl (by omega) (by rw[hpl]; exact hi') ?_
    refine .mk (by simp only[Rw.rng] at *; first|omega|(simp_all; done)|(simp_all; omega)) ?_
    refine Oi.fR 20000 2 rfl rfl (by omega) (by rw[hpl]; exact hi') ?_
    repeat(refine VC.mk (by simp only[okI,Rw.rng] at *; first|omega|(simp_all; done)|(simp_all; omega)) ?_)
    refine Oi.fR 20000 2 rfl rfl (by omega) (by rw[hpl]; exact hi') ?_
    refine .mk (by simp only[Rw.rng] at *; first|omega|(simp_all; done)|(simp_all; omega)) ?_
    refine Nj.fR 20000 2 (aT (RS.getD i []) r.fr 1) rfl rfl (by omega) (by rw[hpl]; exact hi') (by show r.fr.toNat<((xX RS r.fr i).getD i []).length; omega) (by show some _=some _; rw[<- hg]; rfl) ?_
    refine .mk (by simp only[okI] at *; first|omega|(simp_all; done)|(simp_all; omega)) ?_
    refine qg.Gp 20000 (i+1) (fR ((xX RS r.fr i).set i (aT (RS.getD i []) r.fr 1))) [(0,vg r),(9,xW RS.length)] [0,9] (by rw[Gz hi']) hi' (by omega) ?_ rfl rfl (Nat.zero_le _) (by rw[gZ,List.length_set,hpl]; omega) (by decide) jk (sR rfl) (sR rfl) ?_
    (repeat' (first|refine bU.lo rfl ?_|refine bU.hi rfl ?_|exact bU.nil))
    ·exact kL rfl nofun rfl rfl ⟨_,rfl,rfl,rfl,by rw[OV.dS rfl]; exact .refl _⟩ (kL rfl nofun rfl (dF (by omega)) ⟨_,rfl,rfl,rfl,jS⟩ trivial)
   ·have hi':i=RS.length:=by
     have:=of_decide_eq_false h5
     (try simp only[List.length_cons,List.length_nil] at this)
     first|omega|(replace h5:decide ((i:Int)<1)=false:=h5; have:=of_decide_eq_false h5; omega)
    subst hi'
    rw[GH] at hpl ⊢
    rw[<- hres]
    refine iR.Yv (iR.Tc 20000 (by rw[List.length_map]; rfl) (by decide) ?_ (by rw[List.length_map]; omega))
    (repeat' (first|refine bU.lo rfl ?_|refine bU.hi rfl ?_|exact bU.nil))
  |false =>
   obtain⟨RS,CG⟩: ∃ RS,RS=r.ex.map fun x=>aT (cZ c r.to) x 1:=⟨_,rfl⟩
   have LZ:RS.length<=100:=by rw[CG,List.length_map]; exact hx
   have hcR:zu r c=RS:=by rw[CG,Ad,show(r.kind==1)=true by rw[hk1]; rfl,ha]; rfl
   have hRS: ∀ l∈RS,l.length=c.length/\ ∀ j,0<=l.getD j 0/\l.getD j 0<=50000000:=fun l hl'=>hsm l (by rw[hcR]; exact hl')
   have hres:V.dU [.row 0 false (.bG (RS.map fun l=>aT l r.fr 1)),.bool true]=res:=by
    rw[<- hv]; unfold LX; rw[hB,hcR,decide_eq_true (by rw[List.length_map]; exact LZ)]; rfl
   have hW:=S.Ql r (cZ c r.to) false hr (by rw[dN]; omega) (by rw[dN]; exact hp.exs) hx (xI h0) ha
   rw[<- CG] at hW
   refine ah.nest (fun c=>c=4) (Du (i:=0) (o:=vg r) (r:=[]) rfl (by decide) trivial) hW ⟨aG _,AY rfl rfl,trivial⟩ rfl aeB (fun o ho=>(JV o ho).1) ?_
   refine aC.fam 20000 [65,2] (fun i:Nat=>[(66,.int i),(64,.own 9),(7,.own 9)]) (fun i=>xR [(0,vg r),(9,xW RS.length)]++iD 10000 (fR (xX RS r.fr i))) (fun i=>i<=RS.length) (fun i=>RS.length-i) 0 (lM 10000 (fun j=>28+j) (iK [(0,vg r),(9,xW RS.length)] [0,27])) _ rfl (by decide) (fun _=>rfl) (Nat.zero_le _) (sR rfl) (.inl rfl) ?_ ?_
   ·refine jR.fam (g:=fun j=>28+j) [(0,vg r),(9,xW RS.length)] [0,27] ?_ rfl (Nat.zero_le _) (by rw[gZ,uO (Nat.zero_le _)]; omega) (fun j o q=>?_) (fun j j' o o' q q' e=>by replace e:28+j=28+j':=e; omega)
    ·refine kL rfl nofun rfl rfl ⟨_,Tm (by decide),rfl,rfl,by rw[OV.dS rfl]; exact .refl _⟩ (kL rfl nofun rfl (dF (by omega)) ⟨_,rfl,rfl,rfl,by rw[List.length_map]; exact WY⟩ trivial)
    ·rw[wz] at q
     have hj:j<(fR RS).length:=(List.getElem?_eq_some_iff.1 q).1
     obtain⟨g1,g2⟩:=jk (nx:=20000) o (List.mem_of_getElem? q)
     exact⟨g1,g2,⟨o,by rw[Ti]; exact(WZ (n:=27) hj).trans (by rw[q]; rfl),rfl⟩,abz (by omega) (by omega)⟩
   refine⟨(sR rfl),rfl,?_⟩
   rintro i hi
   have hpl:=uO (f:=r.fr) hi
   refine⟨fun h5=>?_,fun h5=>?_⟩
   ·have hi':i<RS.length:=by
     have:=of_decide_eq_true h5
     (try simp only[List.length_map,List.length_range,List.length_cons,List.length_nil] at this)
     first|omega|(replace h5:decide ((i:Int)<1)=true:=h5; have:=of_decide_eq_true h5; omega)
    have hg:=Gy (f:=r.fr) hi'
    obtain⟨hR1,hR2⟩:=hRS (RS.getD i []) (by rw[getD_some hi']; exact List.getElem_mem hi')
    rw[<- hg] at hR1 hR2
    have Zu:=hR2 r.fr.toNat
    refine .mk (by show 0<=(i:Int)/\(i:Int)<((rD 10000 RS.length).length:Int); rw[oQ]; omega) ?_
    refine AtZ.inn hi' ?_
    refine Oi.fR 20000 2 rfl rfl (by omega) (by rw[hpl]; exact hi') ?_
    refine .mk (by simp only[Rw.rng] at *; first|omega|(simp_all; done)|(simp_all; omega)) ?_
    refine Oi.fR 20000 2 rfl rfl (by omega) (by rw[hpl]; exact hi') ?_
    repeat(refine VC.mk (by simp only[okI,Rw.rng] at *; first|omega|(simp_all; done)|(simp_all; omega)) ?_)
    refine Oi.fR 20000 2 rfl rfl (by omega) (by rw[hpl]; exact hi') ?_
    refine .mk (by simp only[Rw.rng] at *; first|omega|(simp_all; done)|(simp_all; omega)) ?_
    refine Nj.fR 20000 2 (aT (RS.getD i []) r.fr 1) rfl rfl (by omega) (by rw[hpl]; exact hi') (by show r.fr.toNat<((xX RS r.fr i).getD i []).length; omega) (by show some _=some _; rw[<- hg]; rfl) ?_
    refine .mk (by simp only[okI] at *; first|omega|(simp_all; done)|(simp_all; omega)) ?_
    refine qg.Gp 20000 (i+1) (fR ((xX RS r.fr i).set i (aT (RS.getD i []) r.fr 1))) [(0,vg r),(9,xW RS.length)] [0,9] (by rw[Gz hi']) hi' (by omega) ?_ rfl rfl (Nat.zero_le _) (by rw[gZ,List.length_set,hpl]; omega) (by decide) jk (sR rfl) (sR rfl) ?_
    (repeat' (first|refine bU.lo rfl ?_|refine bU.hi rfl ?_|exact bU.nil))
    ·exact kL rfl nofun rfl rfl ⟨_,rfl,rfl,rfl,by rw[OV.dS rfl]; exact .refl _⟩ (kL rfl nofun rfl (dF (by omega)) ⟨_,rfl,rfl,rfl,jS⟩ trivial)
   ·have hi':i=RS.length:=by
     have:=of_decide_eq_false h5
     (try simp only[List.length_map,List.length_range,List.length_cons,List.length_nil] at this)
     first|omega|(replace h5:decide ((i:Int)<1)=false:=h5; have:=of_decide_eq_false h5; omega)
    subst hi'
    rw[GH] at hpl ⊢
    rw[<- hres]
    refine iR.Yv (iR.Tc 20000 (by rw[List.length_map]; rfl) (by decide) ?_ (by rw[List.length_map]; omega))
    (repeat' (first|refine bU.lo rfl ?_|refine bU.hi rfl ?_|exact bU.nil))
 ·conv=>whnf
  refine⟨fun h2=>?_,fun h2=>?_⟩
  ·have hk2:r.kind=2:=by simpa using h2
   obtain⟨RS,CG⟩: ∃ RS,RS=[aT (cZ (cZ c r.to) r.zI) r.iV 1]:=⟨_,rfl⟩
   have hlen:RS.length=1:=by rw[CG]; rfl
   have hcR:zu r c=RS:=by rw[CG,Ad,show(r.kind==1)=false by rw[hk2]; rfl,show(r.kind==2)=true by rw[hk2]; rfl]; rfl
   have LZ:RS.length<=100:=by omega
   have hRS: ∀ l∈RS,l.length=c.length/\ ∀ j,0<=l.getD j 0/\l.getD j 0<=50000000:=fun l hl'=>hsm l (by rw[hcR]; exact hl')
   have hres:V.dU [.row 0 false (.bG (RS.map fun l=>aT l r.fr 1)),.bool true]=res:=by
    rw[<- hv]; unfold LX; rw[hB,hcR,decide_eq_true (by rw[List.length_map]; exact LZ)]; rfl
   have hd1:0<=(c.set r.to.toNat (max (c.getD r.to.toNat 0-1) 0)).getD r.zI.toNat 0/\(c.set r.to.toNat (max (c.getD r.to.toNat 0-1) 0)).getD r.zI.toNat 0<=1048576:=jv (xI h0) _
   have hd2:0<=((c.set r.to.toNat (max (c.getD r.to.toNat 0-1) 0)).set r.zI.toNat (max ((c.set r.to.toNat (max (c.getD r.to.toNat 0-1) 0)).getD r.zI.toNat 0-1) 0)).getD r.iV.toNat 0/\((c.set r.to.toNat (max (c.getD r.to.toNat 0-1) 0)).set r.zI.toNat (max ((c.set r.to.toNat (max (c.getD r.to.toNat 0-1) 0)).getD r.zI.toNat 0-1) 0)).getD r.iV.toNat 0<=1048576:=jv (xI (xI h0)) _
   repeat(refine VC.mk (by first|(simp only[Rw.rng,List.length_set]; omega)|(simp only[okI]; omega)) ?_)
   refine aC.fam 20000 [65,2] (fun i:Nat=>[(66,.int i),(64,.own 9),(7,.own 9)]) (fun i=>xR [(0,vg r),(9,xW RS.length)]++iD 10000 (fR (xX RS r.fr i))) (fun i=>i<=RS.length) (fun i=>RS.length-i) 0 (lM 10000 (fun _=>4) (iK [(0,vg r),(9,xW RS.length)] [0,19])) _ rfl (by decide) (fun _=>rfl) (Nat.zero_le _) (sR rfl) (.inl rfl) ?_ ?_
   ·refine jR.fam (g:=fun _=>4) [(0,vg r),(9,xW RS.length)] [0,19] ?_ rfl (Nat.zero_le _) (by rw[gZ,uO (Nat.zero_le _)]; omega) (fun j o q=>?_) (fun j j' o o' q q' _=>?_)
    ·exact kL rfl nofun rfl rfl ⟨_,rfl,rfl,rfl,by rw[OV.dS rfl]; exact .refl _⟩ (kL rfl nofun rfl (dF (by omega)) ⟨_,rfl,rfl,rfl,by rw[hlen]; exact .refl _⟩ trivial)
    ·rw[wz,CG] at q
     match j,q with
     |0,q=>cases q; exact⟨rfl,rfl,⟨_,rfl,rfl⟩,rfl⟩
     |j+1,q=>cases q
    ·rw[wz,CG] at q q'
     match j,j',q,q' with
     |0,0,_,_=>rfl
     |j+1,_,q,_=>cases q
     |0,j+1,_,q=>cases q
   refine⟨(sR rfl),rfl,?_⟩
   rintro i hi
   have hpl:=uO (f:=r.fr) hi
   refine⟨fun h5=>?_,fun h5=>?_⟩
   ·have hi':i<RS.length:=by
     have:=of_decide_eq_true h5
     (try simp only[List.length_cons,List.length_nil] at this)
     first|omega|(replace h5:decide ((i:Int)<1)=true:=h5; have:=of_decide_eq_true h5; omega)
    have hg:=Gy (f:=r.fr) hi'
    obtain⟨hR1,hR2⟩:=hRS (RS.getD i []) (by rw[getD_some hi']; exact List.getElem_mem hi')
    rw[<- hg] at hR1 hR2
    have Zu:=hR2 r.fr.toNat
    refine .mk (by show 0<=(i:Int)/\(i:Int)<((rD 10000 RS.length).length:Int); rw[oQ]; omega) ?_
    refine AtZ.inn hi' ?_
    refine Oi.fR 20000 2 rfl rfl (by omega) (by rw[hpl]; exact hi') ?_
    refine .mk (by simp only[Rw.rng] at *; first|omega|(simp_all; done)|(simp_all; omega)) ?_
    refine Oi.fR 20000 2 rfl rfl (by omega) (by rw[hpl]; exact hi') ?_
    repeat(refine VC.mk (by simp only[okI,Rw.rng] at *; first|omega|(simp_all; done)|(simp_all; omega)) ?_)
    refine Oi.fR 20000 2 rfl rfl (by omega) (by rw[hpl]; exact hi') ?_
    refine .mk (by simp only[Rw.rng] at *; first|omega|(simp_all; done)|(simp_all; omega)) ?_
    refine Nj.fR 20000 2 (aT (RS.getD i []) r.fr 1) rfl rfl (by omega) (by rw[hpl]; exact hi') (by show r.fr.toNat<((xX RS r.fr i).getD i []).length; omega) (by show some _=some _; rw[<- hg]; rfl) ?_
    refine .mk (by simp only[okI] at *; first|omega|(simp_all; done)|(simp_all; omega)) ?_
    refine qg.Gp 20000 (i+1) (fR ((xX RS r.fr i).set i (aT (RS.getD i []) r.fr 1))) [(0,vg r),(9,xW RS.length)] [0,9] (by rw[Gz hi']) hi' (by omega) ?_ rfl rfl (Nat.zero_le _) (by rw[gZ,List.length_set,hpl]; omega) (by decide) jk (sR rfl) (sR rfl) ?_
    (repeat' (first|refine bU.lo rfl ?_|refine bU.hi rfl ?_|exact bU.nil))
    ·exact kL rfl nofun rfl rfl ⟨_,rfl,rfl,rfl,by rw[OV.dS rfl]; exact .refl _⟩ (kL rfl nofun rfl (dF (by omega)) ⟨_,rfl,rfl,rfl,jS⟩ trivial)
   ·have hi':i=RS.length:=by
     have:=of_decide_eq_false h5
     (try simp only[List.length_cons,List.length_nil] at this)
     first|omega|(replace h5:decide ((i:Int)<1)=false:=h5; have:=of_decide_eq_false h5; omega)
    subst hi'
    rw[GH] at hpl ⊢
    rw[<- hres]
    refine iR.Yv (iR.Tc 20000 (by rw[List.length_map]; rfl) (by decide) ?_ (by rw[List.length_map]; omega))
    (repeat' (first|refine bU.lo rfl ?_|refine bU.hi rfl ?_|exact bU.nil))
  ·have hk3:r.kind=3:=by
    rcases hk with h|h|h
    ·rw[h] at h1; cases h1
    ·rw[h] at h2; cases h2
    ·exact h
   obtain⟨abA,ag5⟩:=hp.rsp hk3
   have hS:=S.qh r.response (cZ c r.to) false false (by rw[dN,abA]) (by rw[dN]; exact hl0) (by rw[dN]; exact hl) (xI h0) (by rw[dN]; exact ag5)
   refine Fork.mk (fun _=>?_) (fun q=>absurd (q.symm.trans (by rw[hk3]; rfl)) Bool.false_ne_true)
   conv=>whnf
   cases hso:Aw r.response (cZ c r.to) with
   |true =>
    have hW:=hS.1 hso
    have adS:=hso
    unfold Aw at adS
    rw[Bool.and_eq_true] at adS
    have hst:lS r.response (cZ c r.to)=false:=by simpa using adS.1
    obtain⟨RS,CG⟩: ∃ RS,RS=lg r.response (cZ c r.to) (nD (cZ c r.to)) (cZ c r.to).length:=⟨_,rfl⟩
    have LZ:RS.length<=100:=by rw[CG]; exact of_decide_eq_true adS.2
    have hcR:zu r c=RS:=by rw[CG,Ad,show(r.kind==1)=false by rw[hk3]; rfl,show(r.kind==2)=false by rw[hk3]; rfl,show(r.kind==3)=true by rw[hk3]; rfl,hst]; rfl
    have hRS: ∀ l∈RS,l.length=c.length/\ ∀ j,0<=l.getD j 0/\l.getD j 0<=50000000:=fun l hl'=>hsm l (by rw[hcR]; exact hl')
    have hres:V.dU [.row 0 false (.bG (RS.map fun l=>aT l r.fr 1)),.bool true]=res:=by
     rw[<- hv]; unfold LX; rw[hB,hcR,decide_eq_true (by rw[List.length_map]; exact LZ)]; rfl
    rw[<- CG] at hW
    refine ah.nest (fun c=>c=4) (Du (i:=0) (o:=vg r) (r:=[]) rfl (by decide) trivial) hW ⟨aG _,AY rfl rfl,trivial⟩ rfl (abr true) (fun o ho=>(JV o ho).1) ?_
    refine Fork.mk (fun q=>absurd (q.symm.trans (rfl)).symm Bool.false_ne_true) (fun _=>?_)
    refine aC.fam 20000 [65,2] (fun i:Nat=>[(66,.int i),(64,.own 9),(7,.own 9)]) (fun i=>xR [(0,vg r),(9,xW RS.length)]++iD 10000 (fR (xX RS r.fr i))) (fun i=>i<=RS.length) (fun i=>RS.length-i) 0 (lM 10000 (fun j=>34+j) (iK [(0,vg r),(9,xW RS.length)] [0,33])) _ rfl (by decide) (fun _=>rfl) (Nat.zero_le _) (sR rfl) (.inl rfl) ?_ ?_
    ·refine jR.fam (g:=fun j=>34+j) [(0,vg r),(9,xW RS.length)] [0,33] ?_ rfl (Nat.zero_le _) (by rw[gZ,uO (Nat.zero_le _)]; omega) (fun j o q=>?_) (fun j j' o o' q q' e=>by replace e:34+j=34+j':=e; omega)
     ·refine kL rfl nofun rfl rfl ⟨_,Tm (by decide),rfl,rfl,by rw[OV.dS rfl]; exact .refl _⟩ (kL rfl nofun rfl (dF (by omega)) ⟨_,rfl,rfl,rfl,by rw[List.length_map]; exact WY⟩ trivial)
     ·rw[wz] at q
      have hj:j<(fR RS).length:=(List.getElem?_eq_some_iff.1 q).1
      obtain⟨g1,g2⟩:=jk (nx:=20000) o (List.mem_of_getElem? q)
      exact⟨g1,g2,⟨o,by rw[Ti]; exact(WZ (n:=33) hj).trans (by rw[q]; rfl),rfl⟩,abz (by omega) (by omega)⟩
    refine⟨(sR rfl),rfl,?_⟩
    rintro i hi
    have hpl:=uO (f:=r.fr) hi
    refine⟨fun h5=>?_,fun h5=>?_⟩
    ·have hi':i<RS.length:=by
      have:=of_decide_eq_true h5
      (try simp only[List.length_map,List.length_range,List.length_cons,List.length_nil] at this)
      first|omega|(replace h5:decide ((i:Int)<1)=true:=h5; have:=of_decide_eq_true h5; omega)
     have hg:=Gy (f:=r.fr) hi'
     obtain⟨hR1,hR2⟩:=hRS (RS.getD i []) (by rw[getD_some hi']; exact List.getElem_mem hi')
     rw[<- hg] at hR1 hR2
     have Zu:=hR2 r.fr.toNat
     refine .mk (by show 0<=(i:Int)/\(i:Int)<((rD 10000 RS.length).length:Int); rw[oQ]; omega) ?_
     refine AtZ.inn hi' ?_
     refine Oi.fR 20000 2 rfl rfl (by omega) (by rw[hpl]; exact hi') ?_
     refine .mk (by simp only[Rw.rng] at *; first|omega|(simp_all; done)|(simp_all; omega)) ?_
     refine Oi.fR 20000 2 rfl rfl (by omega) (by rw[hpl]; exact hi') ?_
     repeat(refine VC.mk (by simp only[okI,Rw.rng] at *; first|omega|(simp_all; done)|(simp_all; omega)) ?_)
     refine Oi.fR 20000 2 rfl rfl (by omega) (by rw[hpl]; exact hi') ?_
     refine .mk (by simp only[Rw.rng] at *; first|omega|(simp_all; done)|(simp_all; omega)) ?_
     refine Nj.fR 20000 2 (aT (RS.getD i []) r.fr 1) rfl rfl (by omega) (by rw[hpl]; exact hi') (by show r.fr.toNat<((xX RS r.fr i).getD i []).length; omega) (by show some _=some _; rw[<- hg]; rfl) ?_
     refine .mk (by simp only[okI] at *; first|omega|(simp_all; done)|(simp_all; omega)) ?_
     refine qg.Gp 20000 (i+1) (fR ((xX RS r.fr i).set i (aT (RS.getD i []) r.fr 1))) [(0,vg r),(9,xW RS.length)] [0,9] (by rw[Gz hi']) hi' (by omega) ?_ rfl rfl (Nat.zero_le _) (by rw[gZ,List.length_set,hpl]; omega) (by decide) jk (sR rfl) (sR rfl) ?_
     (repeat' (first|refine bU.lo rfl ?_|refine bU.hi rfl ?_|exact bU.nil))
     ·exact kL rfl nofun rfl rfl ⟨_,rfl,rfl,rfl,by rw[OV.dS rfl]; exact .refl _⟩ (kL rfl nofun rfl (dF (by omega)) ⟨_,rfl,rfl,rfl,jS⟩ trivial)
    ·have hi':i=RS.length:=by
      have:=of_decide_eq_false h5
      (try simp only[List.length_map,List.length_range,List.length_cons,List.length_nil] at this)
      first|omega|(replace h5:decide ((i:Int)<1)=false:=h5; have:=of_decide_eq_false h5; omega)
     subst hi'
     rw[GH] at hpl ⊢
     rw[<- hres]
     refine iR.Yv (iR.Tc 20000 (by rw[List.length_map]; rfl) (by decide) ?_ (by rw[List.length_map]; omega))
     (repeat' (first|refine bU.lo rfl ?_|refine bU.hi rfl ?_|exact bU.nil))
   |false =>
    refine ah.lend (hS.2 hso) ⟨aG _,AY trivial rfl,trivial⟩ rfl rfl ?_
    unfold Aw at hso
    cases hst:lS r.response (cZ c r.to) with
    |true =>
     have hcR:zu r c=[]:=by rw[Ad,show(r.kind==1)=false by rw[hk3]; rfl,show(r.kind==2)=false by rw[hk3]; rfl,show(r.kind==3)=true by rw[hk3]; rfl,hst]; rfl
     have hres:V.dU [.row 0 false (.bG []),.bool true]=res:=by
      rw[<- hv]; unfold LX; rw[hB,hcR]; rfl
     refine Fork.mk (fun q=>absurd (q.symm.trans (rfl)).symm Bool.false_ne_true) (fun _=>?_)
     refine aC.times 1 rfl ?_
     refine Fork.mk (fun q=>absurd (q.symm.trans ((rfl:decide ((0:Int)<0)=false))).symm Bool.false_ne_true) (fun _=>?_)
     conv=>whnf
     rw[<- hres]
     exact iR.same
    |false =>
     have hbig: ¬ (lg r.response (cZ c r.to) (nD (cZ c r.to)) (cZ c r.to).length).length<=100:=by
      rw[hst] at hso
      simpa using hso
     have hcR:zu r c=lg r.response (cZ c r.to) (nD (cZ c r.to)) (cZ c r.to).length:=by rw[Ad,show(r.kind==1)=false by rw[hk3]; rfl,show(r.kind==2)=false by rw[hk3]; rfl,show(r.kind==3)=true by rw[hk3]; rfl,hst]; rfl
     have hres:V.dU [.row 0 false (.bG []),.bool false]=res:=by
      rw[<- hv]; unfold LX; rw[hB,hcR,decide_eq_false (by rw[List.length_map]; exact hbig)]; rfl
     refine Fork.mk (fun _=>?_) (fun q=>absurd (q.symm.trans (rfl)) Bool.false_ne_true)
     conv=>whnf
     rw[<- hres]
     exact iR.Td
end Go.Proofs.YtkmldgihhaooaaaGreatDoor
