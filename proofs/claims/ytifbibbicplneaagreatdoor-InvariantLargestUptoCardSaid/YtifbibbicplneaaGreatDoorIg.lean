/-
 A part of the proof. No condition.
-/
import Derived.Test.YtifbibbicplneaaGreatDoorIf
import Derived.Test.YtifbibbicplneaaGreatDoorIe
namespace Go.Proofs.YtifbibbicplneaaGreatDoor
open Go.Ab Go.Proofs
set_option maxRecDepth 100000
theorem uI{es:List Elem}{p:Elem->Bool}{i:Nat}(hi:i<es.length):(es.take (i+1)).filter p=(es.take i).filter p++bif p (es.getD i default) then [es.getD i default] else []:=by
 have e1:es.take (i+1)=es.take i++[es.getD i default]:=by rw[List.take_add_one]; simp[hi]
 rw[e1,List.filter_append,List.filter_cons,List.filter_nil]
 cases p (es.getD i default)<;>rfl
def GN(rs:List Rule)(es:List Elem)(now:List Clause)(x y:Nat):List Elem:=iW rs (es.take x) now++(rs.take y).filterMap fun r=>bH r (es.getD x default)
theorem YC{rs:List Rule}{es:List Elem}{now:List Clause}{x:Nat}(hx:x<es.length)(h:aV now (es.getD x default)=false):iW rs (es.take (x+1)) now=iW rs (es.take x) now:=by
 unfold iW
 rw[uI hx,h]; simp
theorem YD{rs:List Rule}{es:List Elem}{now:List Clause}{x:Nat}(hx:x<es.length)(h:aV now (es.getD x default)=true):iW rs (es.take (x+1)) now=GN rs es now x rs.length:=by
 unfold GN iW
 rw[uI hx,h,List.take_length,cond_true,List.flatMap_append,List.flatMap_cons,List.flatMap_nil,List.append_nil]
theorem YE{rs:List Rule}{es:List Elem}{now:List Clause}{x:Nat}:GN rs es now x 0=iW rs (es.take x) now:=by simp[GN]
theorem YF{rs:List Rule}{es:List Elem}{now:List Clause}{x y:Nat}(hy:y<rs.length):GN rs es now x (y+1)=GN rs es now x y++(bH (rs.getD y default) (es.getD x default)).toList:=by
 unfold GN
 rw[List.append_assoc]
 congr 1
 have e1:rs.take (y+1)=rs.take y++[rs.getD y default]:=by rw[List.take_add_one]; simp[hy]
 rw[e1,List.filterMap_append]
 congr 1
theorem Um{rs:List Rule}{es:List Elem}{now:List Clause}:(iW rs es now).length<=es.length*rs.length:=by
 unfold iW
 have: ∀ l:List Elem,(l.flatMap fun e=>rs.filterMap fun r=>bH r e).length<=l.length*rs.length:=by
  intro l
  induction l with
  |nil=>simp
  |cons x l ih =>
   rw[List.flatMap_cons,List.length_append,List.length_cons]
   have h1:=List.length_filterMap_le (fun r=>bH r x) rs
   rw[Nat.add_mul]; omega
 exact Nat.le_trans (this _) (Nat.mul_le_mul_right _ (List.length_filter_le _ _))
theorem aax{rs:List Rule}{es:List Elem}{now:List Clause}{x:Elem}(h:x∈iW rs es now): ∃ e∈es,∃ r∈rs,bH r e=some x:=by
 obtain⟨e,he,hx⟩:=List.mem_flatMap.1 h
 obtain⟨r,hr,hf⟩:=List.mem_filterMap.1 hx
 exact⟨e,(List.mem_filter.1 he).1,r,hr,hf⟩
set_option maxHeartbeats 4000000 in
theorem S.nS(p:aX)(q:Prop')(l a:List Clause)(f g:Bool)(hp:dn p)(hq:jF q)(hv:jo p q=0)(hin:GY p=0)(hl:jg p.states.length p.values.length l)(ha:jg p.states.length p.values.length a)(hs:l.length+a.length<=1000) :
  aj Tryz.prog 83 [.dat (.bW p),.dat (.prop q),.row 4 f (.clauses l),.row 4 g (.clauses a)] (.row 4 false (.clauses (Oz p q l a))):=by
 obtain⟨hF,hpl⟩:=A8 hin
 have g1:=hF.pos; have g2:=hF.states; have g3:=hF.values
 have k1:=hl.len; have k2:=ha.len
 have hru:=hF.ab3
 have hsl:=hl.small g2 g3
 have hrk:max (bI l) (bI a)=uN (l++a):=by rw[<- zU,II]
 have hrl3:bI l<=3:=pz fun k hk=>(hl.cl k hk).two
 have afr:bI a<=3:=pz fun k hk=>(ha.cl k hk).two
 have afs:=qL (l:=l)
 have aft:=qL (l:=a)
 have kZ:lV p<=3:=by unfold lV; omega
 have hE:aj Tryz.prog 61 [.dat (.bW p),.int (max (bI l) (bI a)+2)] (.row 3 false (.elems (wB p (l++a)))):=by
  have:=S.xK p p.states.length (lV p) (uN (l++a)+2) hp rfl g1 g2 rfl kZ (by omega)
  rw[hrk]; exact this
 have GH:uN (l++a)+3<=9:=by omega
 have hok: ∀ e∈wB p (l++a),uy (uN (l++a)+3) p.states.length (lV p) e:=sO (by omega)
 have aeS:=qQ (b:=uN (l++a)+3) (n:=p.states.length) GH g2
 have O1:(wB p (l++a)).length<=3*531441:=by
  show(fJ _ _ _).length<=_
  rw[qM]; exact Nat.mul_le_mul kZ (by omega)
 have hSt:=S.vH p q hp hq hv
 have acv:ng p q (l++a)=(wB p (l++a)).filter (fF (qI p q)):=rfl
 have aeT:=KR hp hq
 unfold Oz
 rw[acv]
 generalize wB p (l++a)=es at hE hok O1 ⊢
 generalize qI p q=st at aeT hSt ⊢
 refine aj.of Bd.nS (by simp) rfl rfl ?_
 conv=>whnf
 refine ah.pure (S.xJ l f hsl) rfl ?_
 conv=>whnf
 refine ah.pure (S.xJ a g (ha.small g2 g3)) rfl ?_
 conv=>whnf
 refine .mk (by simp only[okI] at *; omega) ?_
 conv=>whnf
 conv=>whnf
 refine ah.pure (hE) rfl ?_
 conv=>whnf
 conv=>whnf
 refine ah.pure hSt rfl ?_
 conv=>whnf
 refine aF.nil 12 41 3 (by rfl) rfl rfl rfl ?_
 refine aF.nil 13 41 3 (by rfl) rfl rfl rfl ?_
 refine aF.lY 100 [2,3,4,9,10] (fun j:Nat=>[(14,.int j),(13,.own 24),(12,.own 23)]) (fun j=>[(0,.box 27 11 (.dat (.bW p))),(23,lT ((es.take j).filter (fF st))),(24,lT ((es.take j).filter (aV a)))]) (fun j=>j<=es.length) (fun j=>es.length-j) 0 [0,23,24] rfl (by decide) (fun _=>rfl) (Nat.zero_le _) ?_ ?_ ?_
 ·exact⟨⟨_,rfl,.eq rfl⟩,⟨_,rfl,.eq rfl⟩,⟨_,rfl,.eq rfl⟩,trivial⟩
 ·exact⟨okF rfl nofun rfl rfl rfl ⟨rfl,rfl⟩ rfl,okF rfl nofun rfl rfl rfl ⟨rfl,rfl⟩ rfl,okF rfl nofun rfl rfl rfl ⟨rfl,rfl⟩ rfl,trivial⟩
 conv=>whnf
 refine⟨⟨⟨_,rfl,.eq rfl⟩,⟨_,rfl,.eq rfl⟩,⟨_,rfl,.eq rfl⟩,⟨_,rfl,.eq rfl⟩,⟨_,rfl,.eq rfl⟩,trivial⟩,rfl,?_⟩
 rintro j hj
 have hf1:((es.take j).filter (fF st)).length<=3*531441:=Nat.le_trans (List.length_filter_le _ _) (by rw[List.length_take]; omega)
 have hf2:((es.take j).filter (aV a)).length<=3*531441:=Nat.le_trans (List.length_filter_le _ _) (by rw[List.length_take]; omega)
 conv=>whnf
 refine⟨fun h3=>?_,fun h3=>?_⟩
 ·have hj':j<es.length:=by simpa using h3
  have hue:=hok _ (getM (d:=default) hj')
  have tH:(es.getD j default).counts.length=p.states.length:=hue.len
  have YG:=hue.yI GH
  have hn1:=uI (p:=fF st) hj'
  have hn2:=uI (p:=aV a) hj'
  conv=>whnf
  refine .mk (by simp only[Rw.rng] at *; omega) ?_
  conv=>whnf
  refine ah.pure (S.qP st (es.getD j default) false (by omega) (by omega)) rfl ?_
  conv=>whnf
  refine⟨fun h4=>?_,fun h4=>?_⟩
  ·rw[show fF st (es.getD j default)=true from h4] at hn1
   conv=>whnf
   repeat(refine VC.mk (by first|(show(((es.take j).filter (fF st)).length+(0+1))*32<=140737488355328/\((es.take j).filter (fF st)).length+(0+1)<=1152921504606846976; omega)|(simp only[Rw.rng] at *; omega)) ?_; conv=>whnf)
   refine ah.pure (S.rX a (es.getD j default) g (by omega) (fun j hj=>ha.fit tH YG g2 g3 hj)) rfl ?_
   conv=>whnf
   refine⟨fun h5=>?_,fun h5=>?_⟩
   ·rw[show aV a (es.getD j default)=true from h5] at hn2
    conv=>whnf
    repeat(refine VC.mk (by first|(show(((es.take j).filter (aV a)).length+(0+1))*32<=140737488355328/\((es.take j).filter (aV a)).length+(0+1)<=1152921504606846976; omega)|(simp only[okI,Rw.rng] at *; omega)) ?_; conv=>whnf)
    refine⟨j+1,[0,116,130],by omega,by omega,⟨⟨_,rfl,.eq rfl⟩,⟨_,rfl,.eq rfl⟩,⟨_,rfl,.eq rfl⟩,trivial⟩,⟨⟨_,rfl,.eq rfl⟩,⟨_,rfl,.eq rfl⟩,⟨_,rfl,.eq rfl⟩,⟨_,rfl,.eq rfl⟩,⟨_,rfl,.eq rfl⟩,trivial⟩,okF rfl nofun rfl rfl rfl ⟨rfl,rfl⟩ rfl,okF rfl nofun rfl rfl rfl ⟨rfl,rfl⟩ (by rw[hn1]; simp[OV.aH,Rw.aW,V.aW]; rfl),okF rfl nofun rfl rfl rfl ⟨rfl,rfl⟩ (by rw[hn2]; simp[OV.aH,Rw.aW,V.aW]; rfl),trivial⟩
   ·rw[show aV a (es.getD j default)=false from h5] at hn2
    conv=>whnf
    refine .mk (by simp only[okI] at *; omega) ?_
    conv=>whnf
    refine⟨j+1,[0,116,24],by omega,by omega,⟨⟨_,rfl,.eq rfl⟩,⟨_,rfl,.eq rfl⟩,⟨_,rfl,.eq rfl⟩,trivial⟩,⟨⟨_,rfl,.eq rfl⟩,⟨_,rfl,.eq rfl⟩,⟨_,rfl,.eq rfl⟩,⟨_,rfl,.eq rfl⟩,⟨_,rfl,.eq rfl⟩,trivial⟩,okF rfl nofun rfl rfl rfl ⟨rfl,rfl⟩ rfl,okF rfl nofun rfl rfl rfl ⟨rfl,rfl⟩ (by rw[hn1]; simp[OV.aH,Rw.aW,V.aW]; rfl),okF rfl nofun rfl rfl rfl ⟨rfl,rfl⟩ (by rw[hn2]; simp),trivial⟩
  ·rw[show fF st (es.getD j default)=false from h4] at hn1
   conv=>whnf
   refine .mk (by simp only[Rw.rng] at *; omega) ?_
   conv=>whnf
   refine ah.pure (S.rX a (es.getD j default) g (by omega) (fun j hj=>ha.fit tH YG g2 g3 hj)) rfl ?_
   conv=>whnf
   refine⟨fun h5=>?_,fun h5=>?_⟩
   ·rw[show aV a (es.getD j default)=true from h5] at hn2
    conv=>whnf
    repeat(refine VC.mk (by first|(show(((es.take j).filter (aV a)).length+(0+1))*32<=140737488355328/\((es.take j).filter (aV a)).length+(0+1)<=1152921504606846976; omega)|(simp only[okI,Rw.rng] at *; omega)) ?_; conv=>whnf)
    refine⟨j+1,[0,23,122],by omega,by omega,⟨⟨_,rfl,.eq rfl⟩,⟨_,rfl,.eq rfl⟩,⟨_,rfl,.eq rfl⟩,trivial⟩,⟨⟨_,rfl,.eq rfl⟩,⟨_,rfl,.eq rfl⟩,⟨_,rfl,.eq rfl⟩,⟨_,rfl,.eq rfl⟩,⟨_,rfl,.eq rfl⟩,trivial⟩,okF rfl nofun rfl rfl rfl ⟨rfl,rfl⟩ rfl,okF rfl nofun rfl rfl rfl ⟨rfl,rfl⟩ (by rw[hn1]; simp),okF rfl nofun rfl rfl rfl ⟨rfl,rfl⟩ (by rw[hn2]; simp[OV.aH,Rw.aW,V.aW]; rfl),trivial⟩
   ·rw[show aV a (es.getD j default)=false from h5] at hn2
    conv=>whnf
    refine .mk (by simp only[okI] at *; omega) ?_
    conv=>whnf
    refine⟨j+1,[0,23,24],by omega,by omega,⟨⟨_,rfl,.eq rfl⟩,⟨_,rfl,.eq rfl⟩,⟨_,rfl,.eq rfl⟩,trivial⟩,⟨⟨_,rfl,.eq rfl⟩,⟨_,rfl,.eq rfl⟩,⟨_,rfl,.eq rfl⟩,⟨_,rfl,.eq rfl⟩,⟨_,rfl,.eq rfl⟩,trivial⟩,okF rfl nofun rfl rfl rfl ⟨rfl,rfl⟩ rfl,okF rfl nofun rfl rfl rfl ⟨rfl,rfl⟩ (by rw[hn1]; simp),okF rfl nofun rfl rfl rfl ⟨rfl,rfl⟩ (by rw[hn2]; simp),trivial⟩
 ·have hj':j=es.length:=by have: ¬ ((j:Int)<(es.length:Int)):=of_decide_eq_false h3; omega
  subst hj'
  rw[List.take_length]
  rw[List.take_length] at hf1 hf2
  conv=>whnf
  have zL: ∀ e∈es.filter (fF st),e.counts.length=p.states.length/\yI e.counts:=fun e he=>by
   have hue:=hok e (List.mem_filter.1 he).1
   exact⟨hue.len,hue.yI GH⟩
  have hmr: ∀ e∈es.filter (aV a),e.counts.length=p.states.length/\yI e.counts/\uy (uN (l++a)+3) p.states.length (lV p) e:=fun e he=>by
   have hue:=hok e (List.mem_filter.1 he).1
   exact⟨hue.len,hue.yI GH,hue⟩
  have hvl: ∀ i,(l.getD i default).values.length<2^30:=fun i=>(hsl.cl i).values
  have adW:Yr l (es.filter (fF st))=l.filter fun k=> !aO p.rules es l a (aB (es.filter (fF st))) 0 k:=by
   rw[<- VX,DN]; rfl
  refine ah.KF (S.rZ l (es.filter (fF st)) f false hsl.len (by omega) (fun i j hi hj=>(hl.fit (zL _ (getM hj)).1 (zL _ (getM hj)).2 g2 g3 hi).1) hvl) (And.intro (aC _) (And.intro (Uh rfl rfl) trivial)) rfl ?_
  rw[adW]
  generalize es.filter (fF st)=is at *
  conv=>whnf
  refine aF.lY 200 [2,4,13] (fun j:Nat=>[(15,.row 4 false (.clauses (l.filter fun k=> !aO p.rules es l a (aB is) j k))),(16,.int j)]) (fun j=>[(0,.box 27 11 (.dat (.bW p))),(24,lT (es.filter (aV a)))]) (fun j=>j<=l.length+1) (fun j=>l.length+1-j) 0 [0,24] rfl (by decide) (fun _=>rfl) (Nat.zero_le _) ?_ ?_ ?_
  ·exact⟨⟨_,rfl,.eq rfl⟩,⟨_,rfl,.eq rfl⟩,trivial⟩
  ·exact⟨okF rfl nofun rfl rfl rfl ⟨rfl,rfl⟩ rfl,okF rfl nofun rfl rfl rfl ⟨rfl,rfl⟩ rfl,trivial⟩
  conv=>whnf
  refine⟨⟨⟨_,rfl,.eq rfl⟩,⟨_,rfl,.eq rfl⟩,⟨_,rfl,.eq rfl⟩,trivial⟩,rfl,?_⟩
  rintro j hj
  conv=>whnf
  refine⟨fun h4=>?_,fun h4=>?_⟩
  ·have hj':j<=l.length:=by have:=of_decide_eq_true h4; omega
   have hrn:=Si (rs:=p.rules) (es:=es) (l:=l) (a:=a) (f:=aB is) (j:=j)
   have hrs:=Sj (rs:=p.rules) (es:=es) (l:=l) (a:=a) (f:=aB is) (j:=j)
   have hsub: ∀ k∈l.filter (fun k=> !aO p.rules es l a (aB is) j k),CS p.states.length p.values.length k:=fun k hk=>hl.cl k (List.mem_filter.1 hk).1
   have hlf:(l.filter fun k=> !aO p.rules es l a (aB is) j k).length<=l.length:=List.length_filter_le _ _
   have aeU:(l.filter fun k=> !aO p.rules es l a (aB is) (j+1) k).length<=l.length:=List.length_filter_le _ _
   have hfin:Eb p.rules es l a (aB is) j->(l.filter fun k=> !aO p.rules es l a (aB is) j k)=JW p.rules es l a (aB is):=fun h=>Gj h
   rw[<- hrn] at aeU hrs
   generalize (l.filter fun k=> !aO p.rules es l a (aB is) j k)=now at *
   have acw:now.length<=1000:=by omega
   have hnR:jg p.states.length p.values.length now:=⟨hsub,acw⟩
   have hns:=hnR.small g2 g3
   generalize es.filter (aV a)=rt at *
   conv=>whnf
   refine aF.nil 17 41 3 (by rfl) rfl rfl rfl ?_
   refine aF.lY 300 [2,4,13,15,16] (fun x:Nat=>[(18,.int x),(17,.own 206)]) (fun x=>[(0,.box 27 11 (.dat (.bW p))),(24,lT rt),(206,lT (iW p.rules (rt.take x) now))]) (fun x=>x<=rt.length) (fun x=>rt.length-x) 0 [0,24,206] rfl (by decide) (fun _=>rfl) (Nat.zero_le _) ?_ ?_ ?_
   ·exact⟨⟨_,rfl,.eq rfl⟩,⟨_,rfl,.eq rfl⟩,trivial⟩
   ·exact⟨okF rfl nofun rfl rfl rfl ⟨rfl,rfl⟩ rfl,okF rfl nofun rfl rfl rfl ⟨rfl,rfl⟩ rfl,okF rfl nofun rfl rfl rfl ⟨rfl,rfl⟩ rfl,trivial⟩
   conv=>whnf
   refine⟨⟨⟨_,rfl,.eq rfl⟩,⟨_,rfl,.eq rfl⟩,⟨_,rfl,.eq rfl⟩,⟨_,rfl,.eq rfl⟩,⟨_,rfl,.eq rfl⟩,trivial⟩,rfl,?_⟩
   rintro x hx
   conv=>whnf
   refine⟨fun h5=>?_,fun h5=>?_⟩
   ·have hx':x<rt.length:=by simpa using h5
    obtain⟨tH,YG,hue⟩:=hmr _ (getM (d:=default) hx')
    conv=>whnf
    repeat(refine VC.mk (by simp only[Rw.rng,Int.toNat_natCast]; omega) ?_; conv=>whnf)
    refine ah.pure (S.rX now (rt.getD x default) false (by omega) (fun j hj=>hnR.fit tH YG g2 g3 hj)) rfl ?_
    conv=>whnf
    refine⟨fun h6=>?_,fun h6=>?_⟩
    ·have h6':aV now (rt.getD x default)=false:=by simpa using h6
     have hbs:=YC (rs:=p.rules) hx' h6'
     conv=>whnf
     refine .mk (by simp only[okI] at *; omega) ?_
     conv=>whnf
     refine⟨x+1,[0,24,206],by omega,by omega,⟨⟨_,rfl,.eq rfl⟩,⟨_,rfl,.eq rfl⟩,trivial⟩,⟨⟨_,rfl,.eq rfl⟩,⟨_,rfl,.eq rfl⟩,⟨_,rfl,.eq rfl⟩,⟨_,rfl,.eq rfl⟩,⟨_,rfl,.eq rfl⟩,trivial⟩,okF rfl nofun rfl rfl rfl ⟨rfl,rfl⟩ rfl,okF rfl nofun rfl rfl rfl ⟨rfl,rfl⟩ rfl,okF rfl nofun rfl rfl rfl ⟨rfl,rfl⟩ (by rw[hbs]),trivial⟩
    have h6':aV now (rt.getD x default)=true:=by simpa using h6
    have hbn:=YD (rs:=p.rules) hx' h6'
    conv=>whnf
    refine aF.lY 400 [2,4,13,15,16,18] (fun y:Nat=>[(19,.int y),(17,.own 206)]) (fun y=>[(0,.box 27 11 (.dat (.bW p))),(24,lT rt),(206,lT (GN p.rules rt now x y))]) (fun y=>y<=p.rules.length) (fun y=>p.rules.length-y) 0 [0,24,206] rfl (by decide) (fun _=>rfl) (Nat.zero_le _) ?_ ?_ ?_
    ·exact⟨⟨_,rfl,.eq rfl⟩,⟨_,rfl,.eq rfl⟩,trivial⟩
    ·exact⟨okF rfl nofun rfl rfl rfl ⟨rfl,rfl⟩ rfl,okF rfl nofun rfl rfl rfl ⟨rfl,rfl⟩ rfl,okF rfl nofun rfl rfl rfl ⟨rfl,rfl⟩ (by rw[YE]),trivial⟩
    conv=>whnf
    refine⟨⟨⟨_,rfl,.eq rfl⟩,⟨_,rfl,.eq rfl⟩,⟨_,rfl,.eq rfl⟩,⟨_,rfl,.eq rfl⟩,⟨_,rfl,.eq rfl⟩,⟨_,rfl,.eq rfl⟩,trivial⟩,rfl,?_⟩
    rintro y hy
    conv=>whnf
    refine⟨fun h7=>?_,fun h7=>?_⟩
    ·have hy':y<p.rules.length:=by simpa using h7
     have hbr:=YF (rs:=p.rules) (es:=rt) (now:=now) (x:=x) hy'
     have YB:=TY hF (AU hpl) hy'
     have hFi:=aj.Ih (S.zN (p.rules.getD y default) (rt.getD x default) (hp.rule y) (by rw[tH]; exact YB.place) YG (by rw[tH]; exact g2))
     have hbl:(GN p.rules rt now x y).length<=8*1594324:=by
      unfold GN
      rw[List.length_append]
      have b1:=Um (rs:=p.rules) (es:=rt.take x) (now:=now)
      have b2:=List.length_filterMap_le (fun r=>bH r (rt.getD x default)) (p.rules.take y)
      have b3:(rt.take x).length*p.rules.length<=1594323*8:=Nat.mul_le_mul (by rw[List.length_take]; omega) hru
      have b4:(p.rules.take y).length<=8:=by rw[List.length_take]; omega
      omega
     conv=>whnf
     repeat(refine VC.mk (by simp only[Rw.rng,Int.toNat_natCast]; omega) ?_; conv=>whnf)
     cases hO:bH (p.rules.getD y default) (rt.getD x default) with
     |none =>
      rw[Ih,hO] at hFi
      rw[hO] at hbr
      refine ah.pure hFi rfl ?_
      conv=>whnf
      refine Fork.mk (fun q=>absurd (q.symm.trans ((rfl:false=false))).symm Bool.false_ne_true) (fun _=>?_)
      conv=>whnf
      refine .mk (by simp only[okI] at *; omega) ?_
      conv=>whnf
      conv=>whnf
      refine⟨y+1,[0,24,206],by omega,by omega,⟨⟨_,rfl,.eq rfl⟩,⟨_,rfl,.eq rfl⟩,trivial⟩,⟨⟨_,rfl,.eq rfl⟩,⟨_,rfl,.eq rfl⟩,⟨_,rfl,.eq rfl⟩,⟨_,rfl,.eq rfl⟩,⟨_,rfl,.eq rfl⟩,⟨_,rfl,.eq rfl⟩,trivial⟩,okF rfl nofun rfl rfl rfl ⟨rfl,rfl⟩ rfl,okF rfl nofun rfl rfl rfl ⟨rfl,rfl⟩ rfl,okF rfl nofun rfl rfl rfl ⟨rfl,rfl⟩ (by rw[hbr]; simp),trivial⟩
     |some z =>
      rw[Ih,hO] at hFi
      rw[hO] at hbr
      refine ah.pure hFi rfl ?_
      conv=>whnf
      refine Fork.mk (fun _=>?_) (fun q=>absurd (q.symm.trans ((rfl:true=true))) Bool.false_ne_true)
      conv=>whnf
      conv=>whnf
      repeat(refine VC.mk (by first|(show((GN p.rules rt now x y).length+(0+1))*32<=140737488355328/\(GN p.rules rt now x y).length+(0+1)<=1152921504606846976; omega)|(simp only[okI] at *; omega)) ?_; conv=>whnf)
      refine⟨y+1,[0,24,425],by omega,by omega,⟨⟨_,rfl,.eq rfl⟩,⟨_,rfl,.eq rfl⟩,trivial⟩,⟨⟨_,rfl,.eq rfl⟩,⟨_,rfl,.eq rfl⟩,⟨_,rfl,.eq rfl⟩,⟨_,rfl,.eq rfl⟩,⟨_,rfl,.eq rfl⟩,⟨_,rfl,.eq rfl⟩,trivial⟩,okF rfl nofun rfl rfl rfl ⟨rfl,rfl⟩ rfl,okF rfl nofun rfl rfl rfl ⟨rfl,rfl⟩ rfl,okF rfl nofun rfl rfl rfl ⟨rfl,rfl⟩ (by rw[hbr]; simp[OV.aH,Rw.aW,V.aW]; rfl),trivial⟩
    ·have hy':y=p.rules.length:=by have: ¬ ((y:Int)<(p.rules.length:Int)):=of_decide_eq_false h7; omega
     subst hy'
     rw[<- hbn]
     conv=>whnf
     refine .mk (by simp only[okI] at *; omega) ?_
     conv=>whnf
     refine⟨x+1,[0,24,206],by omega,by omega,⟨⟨_,rfl,.eq rfl⟩,⟨_,rfl,.eq rfl⟩,trivial⟩,⟨⟨_,rfl,.eq rfl⟩,⟨_,rfl,.eq rfl⟩,⟨_,rfl,.eq rfl⟩,⟨_,rfl,.eq rfl⟩,⟨_,rfl,.eq rfl⟩,trivial⟩,okF rfl nofun rfl rfl rfl ⟨rfl,rfl⟩ rfl,okF rfl nofun rfl rfl rfl ⟨rfl,rfl⟩ rfl,okF rfl nofun rfl rfl rfl ⟨rfl,rfl⟩ rfl,trivial⟩
   ·have hx':x=rt.length:=by have: ¬ ((x:Int)<(rt.length:Int)):=of_decide_eq_false h5; omega
    subst hx'
    rw[List.take_length]
    have hbl:(iW p.rules rt now).length<=1594323*8:=Nat.le_trans Um (Nat.mul_le_mul (by omega) hru)
    have hbm: ∀ e∈iW p.rules rt now,e.counts.length=p.states.length/\yI e.counts:=fun z hz=>by
     obtain⟨e,he,r,hr,hO⟩:=aax hz
     obtain⟨u1,u2,u3⟩:=hmr e he
     exact⟨by rw[xG hO,u1],G6 (u3.nn GH) (by rw[u1]; exact g2) hO⟩
    have hvn: ∀ i,(now.getD i default).values.length<2^30:=fun i=>(hns.cl i).values
    conv=>whnf
    refine ah.KF (S.rZ now (iW p.rules rt now) false false hns.len (by omega) (fun i j hi hj=>(hnR.fit (hbm _ (getM hj)).1 (hbm _ (getM hj)).2 g2 g3 hi).1) hvn) (And.intro (aC _) (And.intro (Uh rfl rfl) trivial)) rfl ?_
    have hfl:Yr now (iW p.rules rt now)=now.filter fun k=>(iW p.rules rt now).all fun x=>holdsB k x:=rfl
    rw[hfl]
    generalize (now.filter fun k=>(iW p.rules rt now).all fun x=>holdsB k x)=next at *
    conv=>whnf
    refine⟨fun h6=>?_,fun h6=>?_⟩
    ·have h6':next.length=now.length:=by
      have h7:((next.length:Int)==(now.length:Int))=true:=h6
      rw[beq_iff_eq] at h7; omega
     conv=>whnf
     rw[hfin (hrs h6')]
     exact ak.eqv rfl
    ·conv=>whnf
     refine .mk (by simp only[okI] at *; omega) ?_
     conv=>whnf
     refine⟨j+1,[0,24],by omega,by omega,⟨⟨_,rfl,.eq (by rw[<- hrn]; rfl)⟩,⟨_,rfl,.eq rfl⟩,trivial⟩,⟨⟨_,rfl,.eq rfl⟩,⟨_,rfl,.eq rfl⟩,⟨_,rfl,.eq rfl⟩,trivial⟩,okF rfl nofun rfl rfl rfl ⟨rfl,rfl⟩ rfl,okF rfl nofun rfl rfl rfl ⟨rfl,rfl⟩ rfl,trivial⟩
  ·have hj':l.length<=j:=by have:=of_decide_eq_false h4; omega
   rw[Yo hj']
   conv=>whnf
   exact ak.eqv rfl
def wV(p:aX)(q:Prop')(l a:List Clause):Int:=bif tu p q !=0 then tu p q else qO p l a
def Q7(p:aX)(q:Prop')(l a:List Clause):List Clause:=bif wV p q l a==0 then Oz p q l a else []
def OA(p:aX)(q:Prop')(l a:List Clause):V:=.fO [.row 4 false (.clauses (Q7 p q l a)),.int (wV p q l a)]
theorem xu{p:aX}{q:Prop'}{l a:List Clause}{x:Int}(h:wV p q l a=x)(hx:x≠0):OA p q l a= .fO [.row 4 false (.clauses []),.int x]:=by
 rw[OA,Q7,h,show(x==0)=false from beq_eq_false_iff_ne.2 hx]; rfl
theorem MQ{p:aX}{q:Prop'}{l a:List Clause}(h:wV p q l a=0):OA p q l a= .fO [.row 4 false (.clauses (Oz p q l a)),.int 0]:=by
 rw[OA,Q7,h]; rfl
theorem S.fZ(p:aX)(q:Prop')(l a:List Clause)(f g:Bool)(hp:dn p)(hq:jF q)(hl:SmallK l)(ha:SmallK a):aj Tryz.prog 38 [.dat (.bW p),.dat (.prop q),.row 4 f (.clauses l),.row 4 g (.clauses a)] (OA p q l a):=by
 refine aj.of Bd.fZ (by simp) rfl rfl ?_
 conv=>whnf
 refine ah.pure (S.ku p q hp hq) rfl ?_
 conv=>whnf
 refine⟨fun h1=>?_,fun h1=>?_⟩
 ·have e0:wV p q l a=tu p q:=by rw[wV,show(tu p q !=0)=true from h1]; rfl
  rw[xu e0 (by simpa using h1)]
  conv=>whnf
  exact ak.Yu
 have e1:wV p q l a=qO p l a:=by rw[wV,show(tu p q !=0)=false from h1]; rfl
 conv=>whnf
 refine ah.lend (S.BR p l a false f g hp hl ha) ⟨aC _,O4 trivial rfl rfl,trivial⟩ rfl rfl ?_
 conv=>whnf
 refine⟨fun h2=>?_,fun h2=>?_⟩
 ·rw[xu e1 (by simpa using h2)]
  conv=>whnf
  exact ak.Yu
 obtain⟨k1,k2,k3,k4⟩:=Nj (yF h2)
 obtain⟨hv,hin,_⟩:=xP (yF h1)
 rw[MQ (by rw[e1]; exact yF h2)]
 conv=>whnf
 refine ah.pure (S.iP p q l a f g hp hq hv hin k1 k2 (by omega)) rfl ?_
 conv=>whnf
 exact ak.eqv rfl
theorem S.nJ(p:aX)(q:Prop')(l a:List Clause)(f g:Bool)(hp:dn p)(hq:jF q)(hl:SmallK l)(ha:SmallK a):aj Tryz.prog 39 [.dat (.bW p),.dat (.prop q),.row 4 f (.clauses l),.row 4 g (.clauses a)] (OA p q l a):=by
 refine aj.of Bd.nJ (by simp) rfl rfl ?_
 conv=>whnf
 refine ah.pure (S.xI p q hp hq) rfl ?_
 conv=>whnf
 refine⟨fun h1=>?_,fun h1=>?_⟩
 ·have e0:wV p q l a=tu p q:=by rw[wV,show(tu p q !=0)=true from h1]; rfl
  rw[xu e0 (by simpa using h1)]
  conv=>whnf
  exact ak.Yu
 have e1:wV p q l a=qO p l a:=by rw[wV,show(tu p q !=0)=false from h1]; rfl
 conv=>whnf
 refine ah.pure (S.pR p l f hp hl) rfl ?_
 conv=>whnf
 refine⟨fun h2=>?_,fun h2=>?_⟩
 ·have e2:wV p q l a=kP p l:=by rw[e1,qO,show(kP p l !=0)=true from h2]; rfl
  rw[xu e2 (by simpa using h2)]
  conv=>whnf
  exact ak.Yu
 have e2:wV p q l a=kP p a:=by rw[e1,qO,show(kP p l !=0)=false from h2]; rfl
 conv=>whnf
 refine ah.pure (S.pR p a g hp ha) rfl ?_
 conv=>whnf
 refine⟨fun h3=>?_,fun h3=>?_⟩
 ·rw[xu e2 (by simpa using h3)]
  conv=>whnf
  exact ak.Yu
 have e3:qO p l a=0:=by rw[qO,show(kP p l !=0)=false from h2]; exact yF h3
 obtain⟨k1,k2,k3,k4⟩:=Nj e3
 obtain⟨hv,hin,_⟩:=xP (yF h1)
 rw[MQ (by rw[e1,e3])]
 conv=>whnf
 refine ah.pure (S.nS p q l a f g hp hq hv hin k1 k2 (by omega)) rfl ?_
 conv=>whnf
 exact ak.eqv rfl
theorem aay{b:Nat}(hb:0<b): ∀ {n:Nat} {c:List Int},c.length=n->(∀ x∈c,0<=x/\x<b)-> ∃ v,v<b^n/\fD b n v=c:=by
 intro n
 induction n with
 |zero =>
  intro c hc _
  have:c=[]:=List.eq_nil_of_length_eq_zero hc
  subst this
  exact⟨0,by simp,rfl⟩
 |succ n ih =>
  intro c hc h
  cases c with
  |nil=>cases hc
  |cons x c =>
   obtain⟨u,hu,hd⟩:=ih (c:=c) (by simpa using hc) (fun y hy=>h y (List.mem_cons_of_mem _ hy))
   have hx:=h x (by simp)
   have hk:x.toNat<b:=by omega
   refine⟨x.toNat*b^n+u,?_,?_⟩
   ·have h1:(x.toNat+1)*b^n<=b*b^n:=Nat.mul_le_mul_right _ hk
    rw[Nat.add_mul,Nat.one_mul] at h1
    rw[Nat.pow_succ,Nat.mul_comm (b^n) b]; omega
   ·rw[KZ hb hk hu,hd]
    congr 1; omega
theorem V4: ∀ n:Nat,(List.replicate n (0:Int)).sum=0:=by
 intro n
 induction n with
 |zero=>rfl
 |succ n ih=>rw[List.replicate_succ,List.sum_cons,ih]; rfl
theorem Un{b n vals:Nat}{e:Elem}(hb:0<b)(h:uy b n vals e):e∈fJ b n vals:=by
 obtain⟨v,hv,hd⟩:=aay hb h.len h.rng
 have hv0:v≠0:=by
  intro e0
  have h1:=h.pos
  rw[<- hd,e0,AV hb,V4] at h1
  omega
 have hw:=h.val
 refine List.mem_flatMap.2 ⟨e.value.toNat,List.mem_range.2 (by omega),List.mem_map.2 ⟨v-1,List.mem_range.2 (by omega),?_⟩⟩
 rw[show v-1+1=v by omega,hd]
 cases e with
 |mk val cs =>
  have:((val.toNat:Nat):Int)=val:=by have:=hw.1; simp only at this ⊢; omega
  simp only[this]
theorem YH{b B n vals:Nat}{e:Elem}(hB:b<=B)(h:uy b n vals e):uy B n vals e :=
 ⟨h.len,fun x hx=>by have:=h.rng x hx; omega,h.val,h.pos⟩
theorem Uo{b B n vals:Nat}{e:Elem}(hb:0<b)(hB:b<=B)(h:e∈fJ b n vals):e∈fJ B n vals:=Un (by omega) (YH hB (sO hb e h))
theorem aaz{m:Int}(hm:1<=m): ∀ {c:List Int},(∀ x∈c,0<=x)->(0<c.sum->0<(oU m c).sum)/\0<=(oU m c).sum:=by
 intro c
 induction c with
 |nil=>intro _; simp[oU]
 |cons x c ih =>
  intro h
  have h0:=h x (by simp)
  obtain⟨a,b⟩:=ih fun y hy=>h y (List.mem_cons_of_mem _ hy)
  have e1:(x::c).sum=x+c.sum:=by simp
  have e2:(oU m (x::c)).sum=min x m+(oU m c).sum:=by simp[oU]
  rw[e1,e2]
  refine⟨fun hp=>?_,by omega⟩
  by_cases hx:x=0
  ·have:=a (by omega); omega
  ·omega
theorem Ur{B m n vals:Nat}{e:Elem}(hm:1<=m)(h:uy B n vals e):oD m e∈fJ (m+1) n vals:=by
 have hnn: ∀ x∈e.counts,0<=x:=fun x hx=>(h.rng x hx).1
 refine Un (by omega) ⟨by simp[oD,oU,h.len],fun x hx=>?_,h.val,(aaz (by omega) hnn).1 h.pos⟩
 obtain⟨y,hy,rfl⟩:=List.mem_map.1 hx
 have:=hnn y hy; omega
theorem V5{st:List Int}{m:Int}{e:Elem}(hm:1<=m)(h: ∀ x∈e.counts,0<=x):fF st (oD m e)=fF st e:=by
 unfold fF EU
 have hl:(oD m e).counts.length=e.counts.length:=by simp[oD,oU]
 rw[hl]
 have hv:(oD m e).value=e.value:=rfl
 rw[hv]
 congr 2
 refine Ik fun i _=>?_
 have h1:=yL h i
 have h2:(oD m e).counts.getD i 0=min (e.counts.getD i 0) m:=MW (by omega)
 rw[h2,show decide (min (e.counts.getD i 0) m>0)=decide (e.counts.getD i 0>0) from decide_eq_decide.2 ⟨fun h=>by omega,fun h=>by omega⟩]
theorem LH{l:List Clause}{x:Elem}:dN l x=l.length↔aV l x=true:=by
 have h:=F9 (l:=l) (p:=fun k=> !holdsB k x)
 unfold dN aV
 have h2:(l.all fun k=> !(!holdsB k x))=l.all fun k=>holdsB k x:=rW fun k _=>by rw[Bool.not_not]
 rw[h2] at h
 rw[<- h,beq_iff_eq]
theorem Sm{fire:Elem->Option Elem}{l a:List Clause}{s:Nat×Elem}{e:Elem}(hs:s.1<=l.length):(stepG fire l a s e).1=l.length↔s.1=l.length/\ ∀ x,fire e=some x->aV l e=true->aV a e=true->aV l x=true:=by
 have hle:=IE (fire:=fire) (a:=a) (e:=e) hs
 unfold stepG at hle ⊢
 cases hf:fire e with
 |none=>exact⟨fun h=>⟨h,fun x hx=>by cases hx⟩,fun h=>h.1⟩
 |some x =>
  rw[hf] at hle
  simp only at hle ⊢
  cases hc:(aV l e&&aV a e&&(decide (dN l x<l.length)&&(decide (dN l x<s.1)||dN l x==s.1&&decide (nH e<nH s.2)))) with
  |true =>
   rw[Bool.and_eq_true,Bool.and_eq_true,Bool.and_eq_true] at hc
   obtain⟨⟨c1,c2⟩,c3,_⟩:=hc
   have c3:=of_decide_eq_true c3
   refine⟨fun h=>?_,fun h=>?_⟩
   ·have h':dN l x=l.length:=h
    omega
   ·have:=LH.2 (h.2 x rfl c1 c2)
    omega
  |false =>
   refine⟨fun h=>⟨h,fun y hy c1 c2=>?_⟩,fun h=>h.1⟩
   cases hy
   have h':s.1=l.length:=h
   rw[c1,c2,Bool.true_and,Bool.true_and,h'] at hc
   refine LH.1 ?_
   have hlt:dN l x<=l.length:=List.findIdx_le_length
   by_cases hq:dN l x<l.length
   ·rw[decide_eq_true hq] at hc; simp at hc
   ·omega
theorem I8{fire:Elem->Option Elem}{l a:List Clause}{es:List Elem}:(Gf fire l a es).1=l.length↔ ∀ e∈es,∀ x,fire e=some x->aV l e=true->aV a e=true->aV l x=true:=by
 have: ∀ (es:List Elem) (s:Nat×Elem),s.1<=l.length->((es.foldl (stepG fire l a) s).1=l.length↔s.1=l.length/\ ∀ e∈es,∀ x,fire e=some x->aV l e=true->aV a e=true->aV l x=true):=by
  intro es
  induction es with
  |nil=>intro s _; exact⟨fun h=>⟨h,fun e he=>by cases he⟩,fun h=>h.1⟩
  |cons e es ih =>
   intro s hs
   rw[List.foldl_cons,ih _ (IE hs),Sm hs]
   constructor
   ·rintro⟨⟨h1,h2⟩,h3⟩
    refine⟨h1,fun y hy=>?_⟩
    rcases List.mem_cons.1 hy with rfl|hy
    ·exact h2
    ·exact h3 y hy
   ·rintro⟨h1,h2⟩
    exact⟨⟨h1,h2 e (by simp)⟩,fun y hy=>h2 y (List.mem_cons_of_mem _ hy)⟩
 rw[Gf,this es _ (Nat.le_refl _)]
 exact⟨fun h=>h.2,fun h=>⟨rfl,h⟩⟩
theorem YI{l:List Clause}{es:List Elem}:vK l es=l.length↔ ∀ k∈l,∀ e∈es,holdsB k e=true:=by
 have h:=F9 (l:=l) (p:=fun k=>es.any fun e=> !holdsB k e)
 unfold vK
 rw[<- beq_iff_eq,h,List.all_eq_true]
 constructor
 ·intro g k hk e he
  have:=g k hk
  rw[Bool.not_eq_true',List.any_eq_false] at this
  simpa using this e he
 ·intro g k hk
  rw[Bool.not_eq_true',List.any_eq_false]
  intro e he; simp[g k hk e he]
def JX(p:aX)(q:Prop')(l a:List Clause):Bool:=((zC p q l==0)&&(vK l (ng p q l)==l.length))&&(List.range p.rules.length).all fun(r:Nat)=>(uY p r l a==0)&&((pK p (p.rules.getD r default) l a).1==l.length)
theorem Us{p:aX}{q:Prop'}{l a:List Clause}:JX p q l a=true↔(zC p q l=0/\ ∀ k∈l,∀ e∈ng p q l,holdsB k e=true)/\ ∀ r,r<p.rules.length->uY p r l a=0/\ ∀ e∈fJ (uN (l++a)+3) p.states.length (lV p),∀ x,bH (p.rules.getD r default) e=some x->aV l e=true->aV a e=true->aV l x=true:=by
 unfold JX
 rw[Bool.and_eq_true,Bool.and_eq_true,beq_iff_eq,beq_iff_eq,YI,List.all_eq_true]
 constructor
 ·rintro⟨⟨h1,h2⟩,h3⟩
  refine⟨⟨h1,h2⟩,fun r hr=>?_⟩
  have:=h3 r (List.mem_range.2 hr)
  rw[Bool.and_eq_true,beq_iff_eq,beq_iff_eq] at this
  exact⟨this.1,I8.1 this.2⟩
 ·rintro⟨⟨h1,h2⟩,h3⟩
  refine⟨⟨h1,h2⟩,fun r hr=>?_⟩
  obtain⟨g1,g2⟩:=h3 r (List.mem_range.1 hr)
  rw[Bool.and_eq_true,beq_iff_eq,beq_iff_eq]
  exact⟨g1,I8.2 g2⟩
theorem YJ: ∀ {l:List Int},(∀ x∈l,x=0)->aT l=0:=by
 intro l
 induction l with
 |nil=>intro _; rfl
 |cons x r ih =>
  intro h
  have h0:=h x (by simp)
  subst h0
  exact ih fun y hy=>h y (List.mem_cons_of_mem _ hy)
theorem aaA{p:aX}{l m:List Clause}(h:kP p l=0)(hs: ∀ k∈m,k∈l)(hl:m.length<=l.length):kP p m=0:=by
 unfold kP at h ⊢
 obtain⟨h1,h2⟩:=bz (fun _=>by decide) h
 have h1':=of_decide_eq_false h1
 rw[decide_eq_false (by omega)]
 refine YJ fun x hx=>?_
 obtain⟨k,hk,rfl⟩:=List.mem_map.1 hx
 exact je h2 _ (List.mem_map.2 ⟨k,hs k hk,rfl⟩)
theorem YK{l m:List Clause}(hs: ∀ k∈m,k∈l):bI m<=bI l:=by
 have: ∀ (m:List Clause) (r:Int),(∀ k∈m,nC k<=bI l)->r<=bI l->m.foldl (fun r k=>max r (nC k)) r<=bI l:=by
  intro m
  induction m with
  |nil=>intro r _ hr; exact hr
  |cons x m ih =>
   intro r h hr
   rw[List.foldl_cons]
   exact ih _ (fun k hk=>h k (List.mem_cons_of_mem _ hk)) (by have:=h x (by simp); omega)
 exact this m 0 (fun k hk=>yM (hs k hk)) qL
theorem Ut{l m:List Clause}(hs: ∀ k∈m,k∈l):uN m<=uN l:=by
 have:=YK hs
 have h1:=zU (l:=l); have h2:=zU (l:=m)
 omega
theorem V6{rs:List Rule}{es:List Elem}{l a:List Clause}{f:Clause->Bool}{k:Clause}(h:f k=true): ∀ j,aO rs es l a f j k=true:=by
 intro j
 induction j with
 |zero=>exact h
 |succ j ih=>exact Fe ih
theorem Uu{p:aX}{q:Prop'}{l a:List Clause}(h:wV p q l a=0):tu p q=0/\kP p l=0/\kP p a=0:=by
 unfold wV at h
 obtain⟨h1,h2⟩:=bz nz h
 unfold qO at h2
 obtain⟨h3,h4⟩:=bz nz h2
 exact⟨by simpa using h1,by simpa using h3,h4⟩
theorem YL{p:aX}{l a:List Clause}{r:Nat}(hin:GY p=0)(hl:kP p l=0)(ha:kP p a=0)(hr:r<p.rules.length):uY p r l a=0:=by
 unfold uY qO
 rw[hin,hl,ha,decide_eq_false (show ¬ ((r:Int)<0) by omega),decide_eq_false (show ¬ ((r:Int)>=p.rules.length) by omega)]
 rfl
theorem Ee{p:aX}{q:Prop'}{l a:List Clause}{k:Clause}:k∈Oz p q l a↔k∈l/\aO p.rules (wB p (l++a)) l a (aB (ng p q (l++a))) l.length k=false:=by
 unfold Oz JW
 rw[List.mem_filter]
 simp
theorem Q9{p:aX}{q:Prop'}{l a:List Clause}(h:wV p q l a=0):JX p q (Oz p q l a) a=true:=by
 obtain⟨hc,hl,ha⟩:=Uu h
 obtain⟨_,hin,_⟩:=xP hc
 have hsub: ∀ k∈Oz p q l a,k∈l:=fun k hk=>(Ee.1 hk).1
 have hlen:(Oz p q l a).length<=l.length:=List.length_filter_le _ _
 have hs:=aaA hl hsub hlen
 rw[Us]
 refine⟨⟨by rw[zC,hc,hs]; rfl,fun k hk e he=>?_⟩,fun r hr=>⟨YL hin hs ha hr,fun e he x hx h1 h2=>?_⟩⟩
 ·obtain⟨g1,g2⟩:=List.mem_filter.1 he
  have hrk:uN (Oz p q l a)<=uN (l++a):=Ut fun k hk=>List.mem_append.2 (.inl (hsub k hk))
  have hm:e∈ng p q (l++a):=List.mem_filter.2 ⟨Uo (by omega) (by omega) g1,g2⟩
  cases hh:holdsB k e with
  |true=>rfl
  |false =>
   have hd:aB (ng p q (l++a)) k=true:=List.any_eq_true.2 ⟨e,hm,by rw[hh]; rfl⟩
   have:=V6 (rs:=p.rules) (es:=wB p (l++a)) (l:=l) (a:=a) hd l.length
   rw[(Ee.1 hk).2] at this; cases this
 ·have hrk:uN (Oz p q l a++a)<=uN (l++a):=Ut fun k hk=>by
   rcases List.mem_append.1 hk with hk|hk
   ·exact List.mem_append.2 (.inl (hsub k hk))
   ·exact List.mem_append.2 (.inr hk)
  have hm:e∈wB p (l++a):=Uo (by omega) (by omega) he
  unfold aV
  rw[List.all_eq_true]
  intro k hk
  obtain⟨hkl,hkf⟩:=Ee.1 hk
  cases hh:holdsB k x with
  |true=>rfl
  |false =>
   have hst:=IY (rs:=p.rules) (es:=wB p (l++a)) (l:=l) (a:=a) (f:=aB (ng p q (l++a))) k hkl
   have hb:Ea p.rules (wB p (l++a)) l a (aO p.rules (wB p (l++a)) l a (aB (ng p q (l++a))) l.length) k=true:=by
    unfold Ea
    refine List.any_eq_true.2 ⟨p.rules.getD r default,getM hr,List.any_eq_true.2 ⟨e,hm,?_⟩⟩
    rw[zY,xQ,hx]
    have h1':aV (l.filter fun k=> !aO p.rules (wB p (l++a)) l a (aB (ng p q (l++a))) l.length k) e=true:=h1
    rw[h1',h2]
    simp only[hh]; rfl
   have h3:aO p.rules (wB p (l++a)) l a (aB (ng p q (l++a))) (l.length+1) k=true:=by
    show(_||_)=true
    rw[hb,Bool.or_true]
   rw[hst,hkf] at h3; cases h3
theorem OB{p:aX}{q:Prop'}{l a m:List Clause}(h:wV p q l a=0)(hm: ∀ k∈m,k∈l)(hs:JX p q m a=true): ∀ k∈m,k∈Oz p q l a:=by
 obtain⟨hc,hl,ha⟩:=Uu h
 obtain⟨_,hin,_⟩:=xP hc
 obtain⟨hR,_⟩:=CX hl
 obtain⟨hA,_⟩:=CX ha
 obtain⟨hF,_⟩:=A8 hin
 obtain⟨⟨_,acv⟩,hstep⟩:=Us.1 hs
 have hnn: ∀ {b:Nat} {e:Elem},uy b p.states.length (lV p) e-> ∀ x∈e.counts,0<=x:=fun h x hx=>(h.rng x hx).1
 have hcm: ∀ k∈m,CS p.states.length p.values.length k:=fun k hk=>hR.cl k (hm k hk)
 have key: ∀ j,∀ k∈m,aO p.rules (wB p (l++a)) l a (aB (ng p q (l++a))) j k=false:=by
  intro j
  induction j with
  |zero =>
   intro k hk
   show aB _ k=false
   unfold aB
   rw[List.any_eq_false]
   intro e he
   obtain⟨g1,g2⟩:=List.mem_filter.1 he
   have hu:=sO (by omega) e g1
   have hlo:oD ((uN m+2:Nat):Int) e∈fJ (uN m+2+1) p.states.length (lV p):=Ur (by omega) hu
   have aeV:oD ((uN m+2:Nat):Int) e∈ng p q m:=by
    refine List.mem_filter.2 ⟨hlo,?_⟩
    rw[V5 (by omega) (hnn hu)]; exact g2
   have h1:=acv k hk _ aeV
   have h2:=Lr (m:=((uN m+2:Nat):Int)) (e:=e) (by omega) (hnn hu)
   have hrk:=zU (l:=m)
   have h3:=yM hk
   have h4:=zX (hcm k hk) hu.len (m:=((uN m+2:Nat):Int)) (by omega) (show e.value=(oD ((uN m+2:Nat):Int) e).value from rfl) h2
   rw[h4,h1]; decide
  |succ j ih =>
   intro k hk
   show(aO p.rules (wB p (l++a)) l a (aB (ng p q (l++a))) j k||Ea p.rules (wB p (l++a)) l a (aO p.rules (wB p (l++a)) l a (aB (ng p q (l++a))) j) k)=false
   rw[ih k hk,Bool.false_or]
   unfold Ea
   rw[List.any_eq_false]
   intro r hr hb
   obtain⟨i,hi,rfl⟩:=List.mem_iff_getElem.1 hr
   obtain⟨e,he,hb⟩:=List.any_eq_true.1 hb
   rw[Bool.and_eq_true] at hb
   obtain⟨hk1,hfl⟩:=hb
   have hu:=sO (by omega) e he
   unfold tJ at hk1
   rw[Bool.and_eq_true,List.all_eq_true] at hk1
   obtain⟨hk1,hk2⟩:=hk1
   have hme:aV m e=true:=by
    unfold aV
    rw[List.all_eq_true]
    intro k' hk'
    have h1:=hk1 k' (hm k' hk')
    rw[ih k' hk',Bool.or_false] at h1; exact h1
   unfold xQ at hfl
   cases hf:bH p.rules[i] e with
   |none=>rw[hf] at hfl; cases hfl
   |some x =>
    rw[hf] at hfl
    have hrm:=zU (l:=m++a)
    have hra:bI m<=bI (m++a):=by rw[II]; omega
    have hrb:bI a<=bI (m++a):=by rw[II]; omega
    have hlo:oD ((uN (m++a):Int)+2) e∈fJ (uN (m++a)+3) p.states.length (lV p):=by
     have:=Ur (m:=uN (m++a)+2) (by omega) hu
     exact this
    have hag:=Lr (m:=(uN (m++a):Int)+2) (e:=e) (by omega) (hnn hu)
    have e1:aV m (oD ((uN (m++a):Int)+2) e)=true:=by
     rw[<- Gi hcm hu.len (m:=(uN (m++a):Int)+2) (by omega) (show e.value=(oD ((uN (m++a):Int)+2) e).value from rfl) hag]; exact hme
    have e2:aV a (oD ((uN (m++a):Int)+2) e)=true:=by
     rw[<- Gi hA.cl hu.len (m:=(uN (m++a):Int)+2) (by omega) (show e.value=(oD ((uN (m++a):Int)+2) e).value from rfl) hag]; exact hk2
    rcases RY (r:=p.rules[i]) (a:=e) (b:=oD ((uN (m++a):Int)+2) e) (m:=(uN (m++a):Int)) (by omega) rfl hag with ⟨u1,_⟩|⟨x1,y1,u1,u2,u3,u4⟩
    ·rw[hf] at u1; cases u1
    ·rw[hf] at u1
     cases u1
     have hgi:p.rules.getD i default=p.rules[i]:=by simp[hi]
     have h5:=(hstep i hi).2 _ hlo y1 (by rw[hgi]; exact u2) e1 e2
     unfold aV at h5
     have h6:=List.all_eq_true.1 h5 k hk
     have hxl:x.counts.length=p.states.length:=by rw[xG hf,hu.len]
     have h7:=yM hk
     have h8:=zX (hcm k hk) hxl (m:=(uN (m++a):Int)) (by omega) u3 u4
     have adX:(!holdsB k x)=true:=hfl
     rw[h8,h6] at adX; cases adX
 intro k hk
 exact Ee.2 ⟨hm k hk,key _ k hk⟩
def I9(mask:Int)(i:Nat):Bool:=aaB .u64 (adY mask (i:Int)) 1==1
def sV(l:List Clause)(mask:Int)(n:Nat):List Clause:=(List.range n).filterMap fun i=>bif I9 mask i then some (l.getD i default) else none
theorem V7{l:List Clause}{mask:Int}{n:Nat}:sV l mask (n+1)=sV l mask n++bif I9 mask n then [l.getD n default] else []:=by
 unfold sV
 rw[List.range_succ,List.filterMap_append]
 congr 1
 cases h:I9 mask n<;>simp[h]
theorem Po{l:List Clause}{mask:Int}{n:Nat}:(sV l mask n).length<=n:=by
 unfold sV
 have:=List.length_filterMap_le (fun i=>bif I9 mask i then some (l.getD i default) else none) (List.range n)
 rw[List.length_range] at this; exact this
theorem OC{l:List Clause}{mask:Int}{k:Clause}(h:k∈sV l mask l.length):k∈l:=by
 unfold sV at h
 obtain⟨i,hi,hk⟩:=List.mem_filterMap.1 h
 cases hb:I9 mask i with
 |false=>rw[hb] at hk; cases hk
 |true=>rw[hb] at hk; cases hk; exact getM (List.mem_range.1 hi)
theorem Rf{l:List Clause}{mask:Int}(hl:SmallK l):SmallK (sV l mask l.length):=by
 have h1:=hl.len
 refine⟨Nat.lt_of_le_of_lt Po h1,fun i=>?_⟩
 by_cases hi:i<(sV l mask l.length).length
 ·obtain⟨j,hj⟩:=List.mem_iff_getElem?.1 (OC (getM (d:=default) hi))
  have:=hl.cl j
  rw[List.getD_eq_getElem?_getD,hj] at this; exact this
 ·rw[show(sV l mask l.length).getD i default=default by simp[List.getD_eq_getElem?_getD,List.getElem?_eq_none (by omega:(sV l mask l.length).length<=i)]]
  have:=hl.cl l.length
  rw[show l.getD l.length default=default by simp[List.getD_eq_getElem?_getD]] at this; exact this
theorem S.qE(l:List Clause)(mask:Int)(f:Bool)(hl:SmallK l):aj Tryz.prog 41 [.row 4 f (.clauses l),.raw (.lit (.int .u64 mask))] (.row 4 false (.clauses (sV l mask l.length))):=by
 have h1:=hl.len
 refine aj.of Bd.qE (by simp) rfl rfl ?_
 conv=>whnf
 refine aF.nil 5 59 4 (by rfl) rfl rfl rfl ?_
 refine aF.lY 50 [0,1] (fun i:Nat=>[(6,.int i),(5,.own 0)]) (fun i=>[(0,Oy (sV l mask i))]) (fun i=>i<=l.length) (fun i=>l.length-i) 0 [3] rfl (by decide) (fun _=>rfl) (Nat.zero_le _) ?_ ?_ ?_
 ·exact⟨⟨_,rfl,.eq rfl⟩,⟨_,rfl,.eq rfl⟩,trivial⟩
 ·exact⟨okF rfl nofun rfl rfl rfl ⟨rfl,rfl⟩ rfl,trivial⟩
 conv=>whnf
 refine⟨⟨⟨_,rfl,.eq rfl⟩,⟨_,rfl,.eq rfl⟩,trivial⟩,rfl,?_⟩
 rintro i hi
 have hpl:=Po (l:=l) (mask:=mask) (n:=i)
 have hpn:=V7 (l:=l) (mask:=mask) (n:=i)
 conv=>whnf
 refine⟨fun h3=>?_,fun h3=>?_⟩
 ·have hi':i<l.length:=by simpa using h3
  conv=>whnf
  repeat(refine VC.mk (by omega) ?_; conv=>whnf)
  refine⟨fun h4=>?_,fun h4=>?_⟩
  ·have h4':I9 mask i=true:=h4
   rw[h4'] at hpn
   conv=>whnf
   repeat(refine VC.mk (by first|(show((sV l mask i).length+(0+1))*72<=140737488355328/\(sV l mask i).length+(0+1)<=1152921504606846976; omega)|(simp only[okI,Rw.rng] at *; omega)) ?_; conv=>whnf)
   refine⟨i+1,[66],by omega,by omega,⟨⟨_,rfl,.eq rfl⟩,⟨_,rfl,.eq rfl⟩,trivial⟩,⟨⟨_,rfl,.eq rfl⟩,⟨_,rfl,.eq rfl⟩,trivial⟩,okF rfl nofun rfl rfl rfl ⟨rfl,rfl⟩ ?_,trivial⟩
   rw[hpn]; simp[OV.aH,Rw.aW,V.aW]; rfl
  ·have h4':I9 mask i=false:=h4
   rw[h4'] at hpn
   conv=>whnf
   refine .mk (by simp only[okI] at *; omega) ?_
   conv=>whnf
   refine⟨i+1,[0],by omega,by omega,⟨⟨_,rfl,.eq rfl⟩,⟨_,rfl,.eq rfl⟩,trivial⟩,⟨⟨_,rfl,.eq rfl⟩,⟨_,rfl,.eq rfl⟩,trivial⟩,okF rfl nofun rfl rfl rfl ⟨rfl,rfl⟩ ?_,trivial⟩
   rw[hpn]; simp
 ·have hi':i=l.length:=by have: ¬ ((i:Int)<(l.length:Int)):=of_decide_eq_false h3; omega
  subst hi'
  conv=>whnf
  exact ak.X8 rfl
theorem S.oh(p:aX)(q:Prop')(l a:List Clause)(f g:Bool)(hp:dn p)(hq:jF q)(hl:SmallK l)(ha:SmallK a):aj Tryz.prog 40 [.dat (.bW p),.dat (.prop q),.row 4 f (.clauses l),.row 4 g (.clauses a)] (.bool (JX p q l a)):=by
 refine aj.of Bd.oh (by simp) rfl rfl ?_
 conv=>whnf
 refine ah.pure (S.dZ p q l f hp hq hl) rfl ?_
 rw[RS]
 conv=>whnf
 repeat(refine VC.mk (by first|exact id|(intro h; rw[h]; rfl)) ?_; conv=>whnf)
 cases he:zC p q l !=0 with
 |true =>
  conv=>whnf
  refine Fork.mk (fun _=>?_) (fun q=>absurd (q.symm.trans ((Bool.true_or _))) Bool.false_ne_true)
  conv=>whnf
  exact ak.bool (by rw[JX,show(zC p q l==0)=false from beq_eq_false_iff_ne.2 (J7 he)]; rfl)
 |false =>
  have he0:zC p q l=0:=yF he
  have hor:(orM l.length (vK l (ng p q l)) != -1)= !(vK l (ng p q l)==l.length):=by
   unfold orM
   cases hb:vK l (ng p q l)==l.length with
   |true=>rfl
   |false=>simp only[cond_false]; rw[bne_iff_ne.2 (by omega)]; rfl
  rw[he0]
  conv=>whnf
  refine⟨fun h1=>?_,fun h1=>?_⟩
  ·have h1':(orM l.length (vK l (ng p q l)) != -1)=true:=h1
   conv=>whnf
   refine ak.bool ?_
   rw[hor,Bool.not_eq_true'] at h1'
   rw[JX,h1',Bool.and_false]; rfl
  have h1':(orM l.length (vK l (ng p q l)) != -1)=false:=h1
  rw[hor,Bool.not_eq_false'] at h1'
  have hru:=hp.rules
  have hst:JX p q l a=(List.range p.rules.length).all fun(r:Nat)=>(uY p r l a==0)&&((pK p (p.rules.getD r default) l a).1==l.length):=by rw[JX,he0,h1']; rfl
  conv=>whnf
  refine aF.same [2,3,4] (fun i:Nat=>[(11,.int i)]) (fun i=>i<=p.rules.length/\((List.range i).all fun(r:Nat)=>(uY p r l a==0)&&((pK p (p.rules.getD r default) l a).1==l.length))=true) (fun i=>p.rules.length-i) 0 rfl (by decide) rfl (fun _=>rfl) ⟨by omega,by simp⟩ ⟨⟨_,rfl,rfl⟩,trivial⟩ ?_
  conv=>whnf
  refine⟨rfl,?_⟩
  rintro i ⟨hi,hall⟩
  conv=>whnf
  refine⟨fun h3=>?_,fun h3=>?_⟩
  ·have hi':i<p.rules.length:=by simpa using h3
   have hS:=S.fH p i l a f g hp hl ha
   have hnx:((List.range (i+1)).all fun(r:Nat)=>(uY p r l a==0)&&((pK p (p.rules.getD r default) l a).1==l.length))=((uY p i l a==0)&&((pK p (p.rules.getD i default) l a).1==l.length)):=by
    rw[List.range_succ,List.all_append,hall]; simp
   have hle:(pK p (p.rules.getD i default) l a).1<=l.length:=IG
   conv=>whnf
   cases hz:uY p i l a !=0 with
   |true =>
    rw[D8 rfl hz] at hS
    refine ah.pure hS rfl ?_
    conv=>whnf
    repeat(refine VC.mk (by first|exact id|(intro h; rw[h]; rfl)) ?_; conv=>whnf)
    refine Fork.mk (fun _=>?_) (fun q=>absurd (q.symm.trans ((by rw[hz]; rfl:(uY p i l a !=0||(0:Int) != -1)=true))) Bool.false_ne_true)
    conv=>whnf
    refine ak.bool ?_
    rw[hst,List.all_eq_false]
    exact⟨i,List.mem_range.2 hi',by rw[show(uY p i l a==0)=false from beq_eq_false_iff_ne.2 (J7 hz)]; simp⟩
   |false =>
    have hz0:uY p i l a=0:=yF hz
    have hV:MP p i l a= .fO (Yk l.length (pK p (p.rules.getD i default) l a)++[.int 0]):=by
     rw[MP,hz,hz0]; rfl
    rw[hV] at hS
    refine ah.pure hS rfl ?_
    conv=>whnf
    repeat(refine VC.mk (by first|exact id|(intro h; rw[h]; rfl)) ?_; conv=>whnf)
    have hor2:(orM l.length (pK p (p.rules.getD i default) l a).1 != -1)= !((pK p (p.rules.getD i default) l a).1==l.length):=by
     unfold orM
     cases hb:(pK p (p.rules.getD i default) l a).1==l.length with
     |true=>rfl
     |false=>simp only[cond_false]; rw[bne_iff_ne.2 (by omega)]; rfl
    refine⟨fun h4=>?_,fun h4=>?_⟩
    ·have h4':(orM l.length (pK p (p.rules.getD i default) l a).1 != -1)=true:=by simpa using h4
     rw[hor2,Bool.not_eq_true'] at h4'
     conv=>whnf
     refine ak.bool ?_
     rw[hst,List.all_eq_false]
     exact⟨i,List.mem_range.2 hi',by rw[h4',Bool.and_false]; decide⟩
    ·have h4':(orM l.length (pK p (p.rules.getD i default) l a).1 != -1)=false:=by simpa using h4
     rw[hor2,Bool.not_eq_false'] at h4'
     conv=>whnf
     refine .mk (by simp only[okI] at *; omega) ?_
     conv=>whnf
     refine⟨i+1,⟨by omega,?_⟩,by omega,⟨⟨_,rfl,rfl⟩,trivial⟩,?_,rfl⟩
     ·rw[hnx,hz0,h4']; rfl
     ·repeat' (first|exact trivial|exact⟨_,rfl,rfl⟩|constructor)
  ·have hi':i=p.rules.length:=by have: ¬ ((i:Int)<(p.rules.length:Int)):=of_decide_eq_false h3; omega
   subst hi'
   conv=>whnf
   exact ak.bool (by rw[hst,hall])
end Go.Proofs.YtifbibbicplneaaGreatDoor
