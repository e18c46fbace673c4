/-
 A part of the proof. No condition.
-/
import Derived.Test.YtkmldgihhaooaaaGreatDoorFa
import Derived.Test.YtkmldgihhaooaaaGreatDoorHb
import Derived.Test.YtkmldgihhaooaaaGreatDoorLg
namespace Go.Proofs.YtkmldgihhaooaaaGreatDoor
open Go.Ab Go.Proofs
set_option maxRecDepth 100000
def Bj(st c:List Int):Int:=(st.map fun x=>c.getD x.toNat 0).sum
def vW(q:Prop')(c:List Int):Bool:=q.bad.all fun k=>decide (k.least<=Bj k.states c)
structure Ya(n:Nat)(q:Prop'):Prop where
 place: ∀ k∈q.bad,qU n k.states
 least: ∀ k∈q.bad,1<=k.least/\k.least<=3
 some: ∀ k∈q.bad,k.states≠[]
def few(c:List Int):Prop:= ∀ x∈c,0<=x/\x<=4
theorem few.get{c:List Int}(h:few c)(i:Nat):0<=c.getD i 0/\c.getD i 0<=4:=by
 by_cases hi:i<c.length
 ·rw[show c.getD i 0=c[i] by simp[hi]]; exact h _ (List.getElem_mem hi)
 ·rw[show c.getD i 0=0 by simp[List.getD_eq_getElem?_getD,List.getElem?_eq_none (by omega:c.length<=i)]]; omega
theorem NT{st c:List Int}{i:Nat}(hi:i<st.length):Bj (st.take (i+1)) c=Bj (st.take i) c+c.getD (st.getD i 0).toNat 0:=by
 unfold Bj;rw[List.take_add_one,List.map_append,List.sum_append]; simp[hi]
theorem Q5{st c:List Int}(h:few c):0<=Bj st c/\Bj st c<=4*st.length:=by
 unfold Bj;induction st with
 |nil=>simp
 |cons x r ih =>
  have:=h.get x.toNat;simp only[List.map_cons,List.sum_cons,List.length_cons]; omega
theorem getD_mem{α:Type}{l:List α}{i:Nat}{d:α}(hi:i<l.length):l.getD i d∈l:=by
 rw[show l.getD i d=l[i] by simp[hi]]; exact List.getElem_mem hi
theorem S.nN(q:Prop')(c:List Int)(f:Bool)(hq:kM q)(hb:Ya c.length q)(hc:few c)(_hl:c.length<2^30):ak Tryz.prog 74 [.dat (.prop q),.row 0 f (.ints c)] (.bool (vW q c)):=by
 have q2:=hq.bad;refine ak.of Bd.nN (by simp) rfl rfl ?_;refine aA.same [1,11,12] (fun i:Nat=>[(13,.int i)]) (fun i=>i<=q.bad.length/\(q.bad.take i).all (fun k=>decide (k.least<=Bj k.states c))=true) (fun i=>q.bad.length-i) 0 rfl (by decide) rfl (fun _=>rfl) ⟨by omega,by simp⟩ ⟨⟨_,rfl,rfl⟩,trivial⟩ ?_;refine⟨rfl,?_⟩;rintro i ⟨hi,hall⟩;refine⟨fun h3=>?_,fun h3=>?_⟩
 ·have hi':i<q.bad.length:=by simpa using h3
  have hk:=getD_mem (d:=default) hi';have hpl:=hb.place _ hk;have hsz:=hq.cnt i;refine .mk (by simp only[Rw.rng] at *; omega) ?_;refine aA.same [1,6,11,12,13,18,19] (fun j:Nat=>[(20,.int j),(7,.int (Bj ((q.bad.getD i default).states.take j) c))]) (fun j=>j<=(q.bad.getD i default).states.length) (fun j=>(q.bad.getD i default).states.length-j) 0 rfl (by decide) rfl (fun _=>rfl) (Nat.zero_le _) ⟨⟨_,rfl,rfl⟩,⟨_,rfl,rfl⟩,trivial⟩ ?_;refine⟨rfl,?_⟩;rintro j hj;have hs1:=Q5 (st:=(q.bad.getD i default).states.take j) hc;have hl1:((q.bad.getD i default).states.take j).length<=(q.bad.getD i default).states.length:=by rw[List.length_take]; omega
  refine⟨fun h4=>?_,fun h4=>?_⟩
  ·have hj':j<(q.bad.getD i default).states.length:=by simpa using h4
   have hst:=NT (c:=c) hj';have hg:=hc.get ((q.bad.getD i default).states.getD j 0).toNat;obtain⟨p1,p2⟩:=hpl _ (getD_mem (d:=0) hj');repeat(refine VC.mk (by first|(simp only[Rw.rng,Int.toNat_natCast]; omega)|(simp only[okI,Int.toNat_natCast] at *; omega)) ?_)
   refine⟨j+1,by omega,by omega,⟨⟨_,rfl,rfl⟩,⟨_,rfl,?_⟩,trivial⟩,?_,rfl⟩
   ·rw[hst]; rfl
   ·repeat' (first|exact trivial|exact⟨_,rfl,rfl⟩|constructor)
  ·have hj':(q.bad.getD i default).states.length<=j:=by simpa using h4
   rw[List.take_of_length_le hj'];refine⟨fun h5=>?_,fun h5=>?_⟩
   ·conv=>whnf
    refine aj.bool ?_
    have: ¬ (q.bad.getD i default).least<=Bj (q.bad.getD i default).states c:=by
     simp only[Int.toNat_natCast] at h5;have:=of_decide_eq_true h5; omega
    exact zW (p:=fun k=>decide (k.least<=Bj k.states c)) (d:=default) hi' (decide_eq_false this)
   ·conv=>whnf
    refine .mk (by simp only[okI] at *; omega) ?_;conv=>whnf
    have:(q.bad.getD i default).least<=Bj (q.bad.getD i default).states c:=by
     simp only[Int.toNat_natCast] at h5;have:=of_decide_eq_false h5; omega
    refine⟨i+1,⟨by omega,?_⟩,by omega,⟨⟨_,rfl,rfl⟩,trivial⟩,?_,rfl⟩
    ·rw[DC (d:=default) hi' hall]; exact decide_eq_true this
    ·repeat' (first|exact trivial|exact⟨_,rfl,rfl⟩|constructor)
 ·have hi':q.bad.length<=i:=by simpa using h3
  rw[List.take_of_length_le hi'] at hall;exact aj.bool hall
theorem S.pX(q:Prop')(c:List Int)(f:Bool)(hq:kM q)(hb:Ya c.length q)(hc:few c)(_hl:c.length<2^30):ak Tryz.prog 118 [.dat (.prop q),.row 0 f (.ints c)] (.bool (vW q c)):=by
 have q2:=hq.bad;refine ak.of Bd.pX (by simp) rfl rfl ?_;refine aA.same [1,2] (fun i:Nat=>[(5,.int i)]) (fun i=>i<=q.bad.length/\(q.bad.take i).all (fun k=>decide (k.least<=Bj k.states c))=true) (fun i=>q.bad.length-i) 0 rfl (by decide) rfl (fun _=>rfl) ⟨by omega,by simp⟩ ⟨⟨_,rfl,rfl⟩,trivial⟩ ?_;refine⟨rfl,?_⟩;rintro i ⟨hi,hall⟩;refine⟨fun h3=>?_,fun h3=>?_⟩
 ·have hi':i<q.bad.length:=by simpa using h3
  have hk:=getD_mem (d:=default) hi';have hpl:=hb.place _ hk;have hsz:=hq.cnt i;refine aA.same [1,2,5] (fun j:Nat=>[(7,.int j),(6,.int (Bj ((q.bad.getD i default).states.take j) c))]) (fun j=>j<=(q.bad.getD i default).states.length) (fun j=>(q.bad.getD i default).states.length-j) 0 rfl (by decide) rfl (fun _=>rfl) (Nat.zero_le _) ⟨⟨_,rfl,rfl⟩,⟨_,rfl,rfl⟩,trivial⟩ ?_;refine⟨rfl,?_⟩;rintro j hj;have hs1:=Q5 (st:=(q.bad.getD i default).states.take j) hc;have hl1:((q.bad.getD i default).states.take j).length<=(q.bad.getD i default).states.length:=by rw[List.length_take]; omega
  refine .mk (by simp only[Rw.rng] at *; omega) ?_;refine⟨fun h4=>?_,fun h4=>?_⟩
  ·have hj':j<(q.bad.getD i default).states.length:=by simpa using h4
   have hst:=NT (c:=c) hj';have hg:=hc.get ((q.bad.getD i default).states.getD j 0).toNat;obtain⟨p1,p2⟩:=hpl _ (getD_mem (d:=0) hj');repeat(refine VC.mk (by first|(simp only[Rw.rng,Int.toNat_natCast]; omega)|(simp only[okI,Int.toNat_natCast] at *; omega)) ?_)
   refine⟨j+1,by omega,by omega,⟨⟨_,rfl,rfl⟩,⟨_,rfl,?_⟩,trivial⟩,?_,rfl⟩
   ·rw[hst]; rfl
   ·repeat' (first|exact trivial|exact⟨_,rfl,rfl⟩|constructor)
  ·have hj':(q.bad.getD i default).states.length<=j:=by simpa using h4
   rw[List.take_of_length_le hj'];refine .mk (by simp only[Rw.rng] at *; omega) ?_;refine⟨fun h5=>?_,fun h5=>?_⟩
   ·conv=>whnf
    refine aj.bool ?_
    have: ¬ (q.bad.getD i default).least<=Bj (q.bad.getD i default).states c:=by
     simp only[Int.toNat_natCast] at h5;have:=of_decide_eq_true h5; omega
    exact zW (p:=fun k=>decide (k.least<=Bj k.states c)) (d:=default) hi' (decide_eq_false this)
   ·conv=>whnf
    refine .mk (by simp only[okI] at *; omega) ?_;conv=>whnf
    have:(q.bad.getD i default).least<=Bj (q.bad.getD i default).states c:=by
     simp only[Int.toNat_natCast] at h5;have:=of_decide_eq_false h5; omega
    refine⟨i+1,⟨by omega,?_⟩,by omega,⟨⟨_,rfl,rfl⟩,trivial⟩,?_,rfl⟩
    ·rw[DC (d:=default) hi' hall]; exact decide_eq_true this
    ·repeat' (first|exact trivial|exact⟨_,rfl,rfl⟩|constructor)
 ·have hi':q.bad.length<=i:=by simpa using h3
  rw[List.take_of_length_le hi'] at hall;exact aj.bool hall
theorem H9{p:aI}{q:Prop'}(h:dn p q=0):q.kind=1/\Ya p.states.length q/\bI p=0/\(kT p).cover=true:=by
 have hp:=EH h;have hv:=KD hp;have hc:=h;unfold dn at hc;obtain⟨_,hc⟩:=bz nz hc;have hc':=Ib hc (by decide);rw[Bool.or_eq_false_iff,Bool.not_eq_false'] at hc';have hk:q.kind=1:=by simpa using hc'.2
 unfold jU at hp;obtain⟨_,hp⟩:=bz nz hp;obtain⟨_,hp⟩:=bz (fun _=>by decide) hp;obtain⟨_,hp⟩:=bz (fun _=>by decide) hp;obtain⟨_,hp⟩:=bz (fun _=>by decide) hp;obtain⟨_,hp⟩:=bz nz hp;obtain⟨_,hp⟩:=bz (fun _=>by decide) hp;rw[show(!(q.kind==1))=false by simp[hk]] at hp;have hcn:=lg hp (vU q.bad p.states.length) (by simp);have hall: ∀ k∈q.bad,Nq p.states.length k=0:=fun k hk=>lg hcn _ (List.mem_map.2 ⟨k,hk,rfl⟩)
 have hlb: ∀ k∈q.bad,qJ k=false:=fun k hk=>Ib (lg (hall k hk) (dQ (qJ k) 1) (by simp)) (by decide)
 refine⟨hk,⟨fun k hk=>Ia (lg (hall k hk) (iZ k.states p.states.length) (by simp)),fun k hk=>?_,fun k hk e=>?_⟩,hv,hc'.1⟩
 ·have:=hlb k hk;simp only[qJ,Bool.or_eq_false_iff,decide_eq_false_iff_not] at this; omega
 ·have:=hlb k hk;rw[qJ,e] at this; simp at this
def mP:Nat->Nat->List Int
 |0,_=>[]
 |n+1,v=>mP n (v / 4)++[((v % 4:Nat):Int)]
theorem iD: ∀ {n v:Nat},(mP n v).length=n:=by
 intro n;induction n with
 |zero=>intro v; rfl
 |succ n ih=>intro v; simp[mP,ih]
theorem FU: ∀ {n v:Nat},∀ x∈mP n v,0<=x/\x<=3:=by
 intro n;induction n with
 |zero=>intro v x h; cases h
 |succ n ih =>
  intro v x h;rcases List.mem_append.1 h with h|h
  ·exact ih x h
  ·rw[List.mem_singleton] at h; subst h; omega
theorem WG{n v:Nat}:few (mP n v):=fun x h=>by have:=FU x h; omega
theorem NU{n u:Nat}: ∀ {k:Nat},mP (n+k) (u*4^k)=mP n u++List.replicate k 0:=by
 intro k;induction k with
 |zero=>simp
 |succ k ih =>
  rw[<- Nat.add_assoc];simp only[mP];rw[Nat.pow_succ,<- Nat.mul_assoc,Nat.mul_div_cancel _ (by decide:0<4),ih,Nat.mul_mod_left,List.append_assoc,List.replicate_succ'];rfl
theorem aaj{n:Nat}:mP n 0=List.replicate n 0:=by
 have:=@NU 0 0 n;simpa [mP] using this
def BJ(q:Prop')(n vals v:Nat):List Elem:=bif vW q (mP n v) then(List.range vals).map (fun(w:Nat)=>⟨(w:Int),mP n v⟩) else []
def wX(q:Prop')(n vals u:Nat):List Elem:=(List.range u).flatMap (BJ q n vals)
theorem Ie{q:Prop'}{n vals u:Nat}:wX q n vals (u+1)=wX q n vals u++BJ q n vals u:=by
 unfold wX;rw[List.range_succ,List.flatMap_append]; simp
theorem KE{q:Prop'}{n vals u:Nat}:(wX q n vals u).length<=u*vals:=by
 induction u with
 |zero=>simp[wX]
 |succ u ih =>
  rw[Ie,List.length_append,Nat.succ_mul]
  have:(BJ q n vals u).length<=vals:=by
   unfold BJ;cases vW q (mP n u)<;>simp
  omega
theorem Yb{q:Prop'}{n vals v:Nat}{e:Elem}(h:e∈BJ q n vals v):e.counts=mP n v:=by
 unfold BJ at h;cases hd:vW q (mP n v) with
 |false=>rw[hd] at h; cases h
 |true =>
  rw[hd] at h;obtain⟨w,_,rfl⟩:=List.mem_map.1 h;rfl
theorem NV{q:Prop'}{n vals u:Nat}(hn:n<=6): ∀ e∈wX q n vals u,BK e:=by
 intro e h;obtain⟨v,_,h2⟩:=List.mem_flatMap.1 h;rw[show e=⟨e.value,e.counts⟩ from rfl,Yb h2];exact⟨by rw[iD]; exact hn,fun x hx=>by have:=FU x hx; omega⟩
theorem ah.zf{h:Hz}{i n:Nat}{l:List Elem}{K:V->Hz->Prop}{KW:Nat->V->Hz->Prop}(hi:h.get i=some (aZ l))(hn:h.get n=none)(hl:l.length<2^29)(hg: ∀ e∈l,BK e)
  (h1:K (.own n) ((n,some (aZ (aK l)))::(i,none)::h)) (h2: ∀ m,K (.qE n 0 (aK l).length) ((n,some (.row 35 3 (.elems (aK l)) (List.replicate m zeroV)))::(i,none)::h)):ah Tryz.prog false none 75 [.own i] h n K KW:=by
 refine ah.KC (ts:=[.own 0]) (S.zf l 1 (by decide) hl hg) rfl rfl rfl rfl hi hn ?_;rintro t hp (⟨rfl,rfl⟩|⟨m,rfl,rfl⟩)
 ·exact .inr ⟨.own n,aZ (aK l),rfl,rfl,rfl,h1⟩
 ·exact .inr ⟨.qE n 0 _,.row 35 3 (.elems (aK l)) (List.replicate m zeroV),rfl,FQ _ _,rfl,h2 m⟩
theorem ahE{Z:Nat->Prop}{h:Hz}{j:Nat}{v:Int}{l:List Int}(hz:Z j)(q:h.get j=some (iY l)):T.sub Z h.ay (gq ⟨v,l⟩) (.agg [.int v,.own j]):=by
 have:=AX hz q;show T.sub Z h.ay (.agg [.int v,.sl 0 false (l.map T.int)]) (.agg [.int v,.own j]);replace this:T.sub Z h.ay (.sl 0 false (l.map T.int)) (.own j):=this;simp only[T.sub] at this;simp only[T.sub,T.dA];exact⟨trivial,this,trivial⟩
theorem KF{Z:Nat->Prop}{h:Hz}{i j:Nat}{l:List Elem}{e:Elem}(q:h.get i=some (.row 35 3 (.elems l) [.agg [.int e.value,.own j]]))(hi: ¬ Z i)(hz:Z j)(qj:h.get j=some (iY e.counts)) :
  ∃ o',h.get i=some o'/\ ¬ Z i/\o'.au.ty=(aZ (l++[e])).au.ty/\o'.au.k=(aZ (l++[e])).au.k/\T.dA Z h.ay (aZ (l++[e])).au.l o'.au.l/\(aZ (l++[e])).au.l.map T.kd=o'.au.l.map T.kd/\(aZ (l++[e])).au.l.map gB=o'.au.l.map gB:=by
 have e1:(aZ (l++[e])).au.l=l.map gq++[gq e]:=by simp[OV.au,Rw.aU,V.aU]
 refine⟨_,q,hi,rfl,rfl,?_,?_,?_⟩
 ·rw[e1];exact yx (dJ _) ⟨ahE hz qj,trivial⟩
 ·rw[e1]; show _=List.map T.kd (l.map gq++[.agg [.int e.value,.own j]]);rw[List.map_append,List.map_append]; rfl
 ·rw[e1]; show _=List.map gB (l.map gq++[.agg [.int e.value,.own j]]);rw[List.map_append,List.map_append]; rfl
def back(n v k:Nat):List Int:=mP (n-k) (v / 4^k)++List.replicate k 0
theorem Q7{n v k:Nat}(h:k<=n):(back n v k).length=n:=by simp[back,iD]; omega
theorem NW{n v:Nat}:back n v 0=mP n v:=by simp[back]
theorem uq{n v k:Nat}(h:k<n):back n v k=mP (n-k-1) (v / 4^k / 4)++(((v / 4^k % 4:Nat):Int)::List.replicate k 0):=by
 unfold back;obtain⟨j,hj⟩: ∃ j,n-k=j+1:=⟨n-k-1,by omega⟩
 rw[hj,mP,List.append_assoc]; rfl
theorem NY{n v k:Nat}(_h:k<n):back n v (k+1)=mP (n-k-1) (v / 4^k / 4)++((0:Int)::List.replicate k 0):=by
 unfold back;rw[Nat.pow_succ,<- Nat.div_div_eq_div_mul,Nat.sub_add_eq,List.replicate_succ]
theorem Q8{n v k:Nat}(h:k<n)(h3:v / 4^k % 4≠3)(hv:v+1=(v / 4^k+1)*4^k):mP (n-k-1) (v / 4^k / 4)++((((v / 4^k % 4:Nat):Int)+1)::List.replicate k 0)=mP n (v+1):=by
 have e:mP n (v+1)=mP ((n-k-1+1)+k) ((v / 4^k+1)*4^k):=by rw[<- hv]; congr 1; omega
 rw[e,NU,mP,List.append_assoc]
 congr 1
 ·congr 1; omega
 ·show _=(((v / 4^k+1) % 4:Nat):Int)::List.replicate k 0
  congr 1; omega
theorem NZ{v k:Nat}(h3:v / 4^k % 4=3)(hv:v+1=(v / 4^k+1)*4^k):v+1=(v / 4^(k+1)+1)*4^(k+1):=by
 have e:v / 4^(k+1)=v / 4^k / 4:=by rw[Nat.pow_succ,<- Nat.div_div_eq_div_mul]
 rw[e,Nat.pow_succ,Nat.mul_comm (4^k) 4,<- Nat.mul_assoc]
 have:(v / 4^k / 4+1)*4=v / 4^k+1:=by omega
 rw[this]; exact hv
theorem aak{n v k:Nat}(h:k<n)(hlt:v<4^n)(h3:v / 4^k % 4≠3)(hv:v+1=(v / 4^k+1)*4^k):v+1<4^n:=by
 have e:4^n=4^(n-k-1)*4*4^k:=by
  rw[<- Nat.pow_succ,<- Nat.pow_add]; congr 1; omega
 have h1:v / 4^k<4^(n-k-1)*4:=by
  rw[Nat.div_lt_iff_lt_mul (Nat.pow_pos (by decide))]; omega
 have h2:v / 4^k+1<4^(n-k-1)*4:=by omega
 rw[hv,e];exact Nat.mul_lt_mul_of_pos_right h2 (Nat.pow_pos (by decide))
theorem WH{n v:Nat}(hlt:v<4^n)(hv:v+1=(v / 4^n+1)*4^n):v+1=4^n:=by
 rw[Nat.div_eq_of_lt hlt] at hv; omega
set_option maxHeartbeats 1000000 in
theorem S.jv(p:aI)(q:Prop')(n vals:Nat)(_hp:eU p)(hq:kM q)(hn:p.states.length=n)(hn0:0<n)(Z7:n<=6)(hvs:max 1 p.values.length=vals)(WI:vals<=3)(hb:Ya n q) :
  ak Tryz.prog 46 [.dat (.fV p),.dat (.prop q)] (.row 3 false (.elems (aK (wX q n vals (4^n))))):=by
 refine ak.of Bd.jv (by simp) rfl rfl ?_;conv=>whnf
 have hm:=BH (n:=p.states.length) (by omega);rw[hm];refine .mk (by omega) ?_;refine aA.nil 5 35 3 (by rfl) rfl rfl rfl ?_;refine aA.objs 4 [2,3] (fun v:Nat=>[(5,.own 2),(6,.own 3)]) (fun v=>[(0,.box 27 11 (.dat (.fV p))),(1,.box 30 7 (.dat (.prop q))),(2,aZ (wX q n vals v)),(3,iY (mP n v))]) (fun v=>v<4^n) (fun v=>4^n-v) 0 [0,1,9,7] rfl (by decide) (fun _=>rfl) (Nat.pow_pos (by decide)) ?_ ?_ ?_
 ·exact(sR rfl)
 ·refine⟨dL rfl rfl,dL rfl rfl,dL rfl rfl,⟨rfl,nofun,rfl,rfl,rfl,_,rfl,rfl,rfl,dP.of_eq ?_⟩,trivial⟩;rw[aaj,hn]
 refine⟨(sR rfl),rfl,?_⟩;rintro v hv;have hbn:=@Ie q n vals v;have hbl:=KE (q:=q) (n:=n) (vals:=vals) (u:=v);have hbm:v*vals<=4096*3:=Nat.mul_le_mul (Nat.le_trans (Nat.le_of_lt hv) (Nat.pow_le_pow_right (by decide) (show n<=6 from Z7))) WI;refine ah.lend (S.nN q (mP n v) false hq (by rw[iD]; exact hb) WG (by rw[iD]; omega)) (And.intro (aC _) (And.intro (AX trivial rfl) trivial)) rfl rfl ?_;refine⟨fun h3=>?_,fun h3=>?_⟩
 ·have hat:BJ q n vals v=(List.range vals).map (fun(w:Nat)=>⟨(w:Int),mP n v⟩):=by rw[BJ,h3]; rfl
  refine aA.KG 4 [2,3,6,19] (fun w:Nat=>[(20,.int w),(5,.own 2)]) (fun w=>[(0,.box 27 11 (.dat (.fV p))),(1,.box 30 7 (.dat (.prop q))),(2,aZ (wX q n vals v++(List.range w).map (fun(w:Nat)=>⟨(w:Int),mP n v⟩))),(3,iY (mP n v))]) (fun w=>w<=vals) (fun w=>vals-w) 0 [0,1,2,3] [(0,some (.box 27 11 (.dat (.fV p)))),(1,some (.box 30 7 (.dat (.prop q)))),(2,some (aZ (wX q n vals v))),(3,some (iY (mP n v)))] rfl (by decide) (fun _=>rfl) (Nat.zero_le _) ?_ ?_ ?_ ?_
  ·exact(sR rfl)
  ·exact⟨fun _=>False,dM (Z:=fun _=>False) rfl (fun q=>q),dM (Z:=fun _=>False) rfl (fun q=>q),dM (Z:=fun _=>False) rfl (fun q=>q),dM (Z:=fun _=>False) rfl (fun q=>q),trivial⟩
  ·exact⟨FH rfl rfl,FH rfl rfl,okF rfl nofun rfl rfl rfl ⟨rfl,rfl⟩ (by simp),FH rfl rfl,trivial⟩
  refine⟨(sR rfl),rfl,?_⟩;rintro w hw;have hcl:(wX q n vals v++(List.range w).map (fun(w:Nat)=>(⟨(w:Int),mP n v⟩:Elem))).length<=12288+3:=by simp; omega
  refine⟨fun h4=>?_,fun h4=>?_⟩
  ·have hw':w<vals:=by
    have:(w:Int)<max 1 (p.values.length:Int):=of_decide_eq_true h4
    omega
   repeat(refine VC.mk (by first|(first|(simp only[jH,jP,Rw.len,List.length_cons,List.length_nil,iD]; omega)|(show((wX q n vals v++(List.range w).map (fun(w:Nat)=>(⟨(w:Int),mP n v⟩:Elem))).length+(0+1))*32<=140737488355328/\(wX q n vals v++(List.range w).map (fun(w:Nat)=>(⟨(w:Int),mP n v⟩:Elem))).length+(0+1)<=1152921504606846976; omega))|(simp only[okI] at *; first|omega|(simp_all; omega))) ?_)
   refine⟨[(0,some (.box 27 11 (.dat (.fV p)))),(1,some (.box 30 7 (.dat (.prop q)))),(13,some (aZ ((wX q n vals v++(List.range w).map (fun(w:Nat)=>⟨(w:Int),mP n v⟩))++[⟨(w:Int),mP n v⟩]))),(3,some (iY (mP n v)))],w+1,[0,1,13,3],⟨fun i=>i=10,dM (Z:=fun i=>i=10) (i:=0) rfl (by decide),dM (Z:=fun i=>i=10) (i:=1) rfl (by decide),KF (Z:=fun i=>i=10) (i:=13) (j:=10) rfl (by decide) rfl rfl,dM (Z:=fun i=>i=10) (i:=3) rfl (by decide),trivial⟩,by omega,by omega,(sR rfl),(sR rfl),FH rfl rfl,FH rfl rfl,okF rfl nofun rfl rfl rfl ⟨rfl,rfl⟩ ?_,FH rfl rfl,trivial⟩;rw[List.range_succ,List.map_append,<- List.append_assoc]; rfl
  ·have hw':w=vals:=by
    have: ¬ (w:Int)<max 1 (p.values.length:Int):=of_decide_eq_false h4
    omega
   rw[hw',<- hat,<- hbn];refine .mk (by first|(simp only[okI,iD]; omega)|omega) ?_;refine aA.objs 4 [2,3] (fun k:Nat=>[(8,.int ((n:Int)-1-k)),(5,.own 2),(6,.own 3)]) (fun k=>[(0,.box 27 11 (.dat (.fV p))),(1,.box 30 7 (.dat (.prop q))),(2,aZ (wX q n vals (v+1))),(3,iY (back n v k))]) (fun k=>k<=n/\v+1=(v / 4^k+1)*4^k) (fun k=>n-k) 0 [0,1,2,3] rfl (by decide) (fun _=>rfl) ⟨Nat.zero_le _,by simp⟩ ?_ ?_ ?_
   ·refine⟨⟨_,rfl,.eq ?_⟩,⟨_,rfl,.eq rfl⟩,⟨_,rfl,.eq rfl⟩,trivial⟩;show T.int ((n:Int)-1-((0:Nat):Int))=T.int (((mP n v).length:Int)-1);rw[iD]; exact congrArg T.int (by omega)
   ·refine⟨dL rfl rfl,dL rfl rfl,dL rfl rfl,⟨rfl,nofun,rfl,rfl,rfl,_,rfl,rfl,rfl,dP.of_eq ?_⟩,trivial⟩;rw[NW]
   refine⟨(sR rfl),rfl,?_⟩;rintro k ⟨hk,hvk⟩;have hbl:=Q7 (v:=v) hk;have hcell:k<n->(back n v k).getD (n-1-k) 0=((v / 4^k % 4:Nat):Int):=fun hkn=>by
    rw[uq hkn]; exact get_at (by rw[iD]; omega)
   have hti:((n:Int)-1-k).toNat=n-1-k:=by omega
   repeat(refine VC.mk (by first|exact id|(intro h; (repeat' apply And.intro)<;>first|exact h|omega|(simp only[Rw.qY]; omega)|(simp only[Rw.rng]; omega))|(simp only[Rw.rng] at *; first|omega|(simp_all; omega))) ?_)
   refine⟨fun h6=>?_,fun h6=>?_⟩
   ·rw[Bool.and_eq_true] at h6;have hkn:k<n:=by have:=of_decide_eq_true h6.1; omega
    have h3:v / 4^k % 4=3:=by
     have:=beq_iff_eq.1 h6.2;rw[hti,hcell hkn] at this; omega
    repeat(refine VC.mk (by first|(simp only[okI]; omega)|(simp only[Rw.rng,hbl]; omega)) ?_)
    refine⟨k+1,[0,1,2,3],⟨by omega,NZ h3 hvk⟩,by omega,⟨⟨_,rfl,.eq ?_⟩,⟨_,rfl,.eq rfl⟩,⟨_,rfl,.eq rfl⟩,trivial⟩,(sR rfl),dL rfl rfl,dL rfl rfl,dL rfl rfl,⟨rfl,nofun,rfl,rfl,rfl,_,rfl,rfl,rfl,dP.of_eq ?_⟩,trivial⟩
    ·show T.int ((n:Int)-1-((k+1:Nat):Int))=T.int ((n:Int)-1-(k:Int)-1);exact congrArg T.int (by omega)
    ·rw[hti,NY hkn,uq hkn,uw (by rw[iD]; omega)]
   refine⟨fun h7=>?_,fun h7=>?_⟩
   ·have hkn:k=n:=by have:=of_decide_eq_true h7; omega
    subst hkn;rw[WH hv hvk];refine ah.zf rfl rfl (by have:=KE (q:=q) (n:=k) (vals:=vals) (u:=4^k); have h4:4^k*vals<=4096*3:=Nat.mul_le_mul (Nat.pow_le_pow_right (by decide) (show k<=6 from Z7)) WI; omega) (NV Z7) ?_ (fun m=>?_)
    ·conv=>whnf
     exact aj.aal rfl
    ·conv=>whnf
     exact aj.acZ rfl
   ·have hkn:k<n:=by have:=of_decide_eq_false h7; omega
    have h3:v / 4^k % 4≠3:=by
     rw[Bool.and_eq_false_iff] at h6;rcases h6 with h6|h6
     ·have:=of_decide_eq_false h6; omega
     ·intro e
      have:((back n v k).getD ((n:Int)-1-k).toNat 0==3)=false:=h6
      rw[hti,hcell hkn,e] at this; exact absurd this (by decide)
    have hlt4:v / 4^k % 4<4:=Nat.mod_lt _ (by decide);have hc0:=hcell hkn;repeat(refine VC.mk (by first|(simp only[okI,hti,hc0]; omega)|(simp only[Rw.rng,hbl]; omega)) ?_)
    refine⟨v+1,[0,1,2,3],aak hkn hv h3 hvk,by omega,(sR rfl),(sR rfl),dL rfl rfl,dL rfl rfl,dL rfl rfl,⟨rfl,nofun,rfl,rfl,rfl,_,rfl,rfl,rfl,dP.of_eq ?_⟩,trivial⟩;rw[hti,hc0,<- Q8 hkn h3 hvk,uq hkn,uw (by rw[iD]; omega)]
 ·have hat:wX q n vals v=wX q n vals (v+1):=by rw[Ie,BJ,h3]; simp
  rw[hat];refine .mk (by first|(simp only[okI,iD]; omega)|omega) ?_;refine aA.objs 4 [2,3] (fun k:Nat=>[(8,.int ((n:Int)-1-k)),(5,.own 2),(6,.own 3)]) (fun k=>[(0,.box 27 11 (.dat (.fV p))),(1,.box 30 7 (.dat (.prop q))),(2,aZ (wX q n vals (v+1))),(3,iY (back n v k))]) (fun k=>k<=n/\v+1=(v / 4^k+1)*4^k) (fun k=>n-k) 0 [0,1,2,3] rfl (by decide) (fun _=>rfl) ⟨Nat.zero_le _,by simp⟩ ?_ ?_ ?_
  ·refine⟨⟨_,rfl,.eq ?_⟩,⟨_,rfl,.eq rfl⟩,⟨_,rfl,.eq rfl⟩,trivial⟩;show T.int ((n:Int)-1-((0:Nat):Int))=T.int (((mP n v).length:Int)-1);rw[iD]; exact congrArg T.int (by omega)
  ·refine⟨dL rfl rfl,dL rfl rfl,dL rfl rfl,⟨rfl,nofun,rfl,rfl,rfl,_,rfl,rfl,rfl,dP.of_eq ?_⟩,trivial⟩;rw[NW]
  refine⟨(sR rfl),rfl,?_⟩;rintro k ⟨hk,hvk⟩;have hbl:=Q7 (v:=v) hk;have hcell:k<n->(back n v k).getD (n-1-k) 0=((v / 4^k % 4:Nat):Int):=fun hkn=>by
   rw[uq hkn]; exact get_at (by rw[iD]; omega)
  have hti:((n:Int)-1-k).toNat=n-1-k:=by omega
  repeat(refine VC.mk (by first|exact id|(intro h; (repeat' apply And.intro)<;>first|exact h|omega|(simp only[Rw.qY]; omega)|(simp only[Rw.rng]; omega))|(simp only[Rw.rng] at *; first|omega|(simp_all; omega))) ?_)
  refine⟨fun h6=>?_,fun h6=>?_⟩
  ·rw[Bool.and_eq_true] at h6;have hkn:k<n:=by have:=of_decide_eq_true h6.1; omega
   have h3:v / 4^k % 4=3:=by
    have:=beq_iff_eq.1 h6.2;rw[hti,hcell hkn] at this; omega
   repeat(refine VC.mk (by first|(simp only[okI]; omega)|(simp only[Rw.rng,hbl]; omega)) ?_)
   refine⟨k+1,[0,1,2,3],⟨by omega,NZ h3 hvk⟩,by omega,⟨⟨_,rfl,.eq ?_⟩,⟨_,rfl,.eq rfl⟩,⟨_,rfl,.eq rfl⟩,trivial⟩,(sR rfl),dL rfl rfl,dL rfl rfl,dL rfl rfl,⟨rfl,nofun,rfl,rfl,rfl,_,rfl,rfl,rfl,dP.of_eq ?_⟩,trivial⟩
   ·show T.int ((n:Int)-1-((k+1:Nat):Int))=T.int ((n:Int)-1-(k:Int)-1);exact congrArg T.int (by omega)
   ·rw[hti,NY hkn,uq hkn,uw (by rw[iD]; omega)]
  refine⟨fun h7=>?_,fun h7=>?_⟩
  ·have hkn:k=n:=by have:=of_decide_eq_true h7; omega
   subst hkn;rw[WH hv hvk];refine ah.zf rfl rfl (by have:=KE (q:=q) (n:=k) (vals:=vals) (u:=4^k); have h4:4^k*vals<=4096*3:=Nat.mul_le_mul (Nat.pow_le_pow_right (by decide) (show k<=6 from Z7)) WI; omega) (NV Z7) ?_ (fun m=>?_)
   ·conv=>whnf
    exact aj.aal rfl
   ·conv=>whnf
    exact aj.acZ rfl
  ·have hkn:k<n:=by have:=of_decide_eq_false h7; omega
   have h3:v / 4^k % 4≠3:=by
    rw[Bool.and_eq_false_iff] at h6;rcases h6 with h6|h6
    ·have:=of_decide_eq_false h6; omega
    ·intro e
     have:((back n v k).getD ((n:Int)-1-k).toNat 0==3)=false:=h6
     rw[hti,hcell hkn,e] at this; exact absurd this (by decide)
   have hlt4:v / 4^k % 4<4:=Nat.mod_lt _ (by decide);have hc0:=hcell hkn;repeat(refine VC.mk (by first|(simp only[okI,hti,hc0]; omega)|(simp only[Rw.rng,hbl]; omega)) ?_)
   refine⟨v+1,[0,1,2,3],aak hkn hv h3 hvk,by omega,(sR rfl),(sR rfl),dL rfl rfl,dL rfl rfl,dL rfl rfl,⟨rfl,nofun,rfl,rfl,rfl,_,rfl,rfl,rfl,dP.of_eq ?_⟩,trivial⟩;rw[hti,hc0,<- Q8 hkn h3 hvk,uq hkn,uw (by rw[iD]; omega)]
def smB(q:Prop')(c:List Int):Bool:=vW q c&&(List.range c.length).all fun x=>c.getD x 0==0|| !(vW q (aT c x (-1)))
theorem aam{c:List Int}{i:Nat}(hi:i<c.length):(c.set i (c.getD i 0-1)).set i ((c.set i (c.getD i 0-1)).getD i 0+1)=c:=by
 have e:(c.set i (c.getD i 0-1)).getD i 0=c.getD i 0-1:=by simp[List.getD_eq_getElem?_getD,hi]
 rw[e,List.set_set,show c.getD i 0-1+1=c[i] by simp[hi],List.set_getElem_self]
theorem ac0{c:List Int}{i:Nat}(h:few c)(h0:c.getD i 0≠0):few (c.set i (c.getD i 0-1)):=by
 intro x hx;rcases List.mem_or_eq_of_mem_set hx with hx|rfl
 ·exact h x hx
 ·have:=h.get i; omega
theorem S.sH(q:Prop')(c:List Int)(f:Bool)(hq:kM q)(hb:Ya c.length q)(hc:few c)(hl:c.length<2^30):ak Tryz.prog 78 [.dat (.prop q),.row 0 f (.ints c)] (.bool (smB q c)):=by
 refine ak.of Bd.sH (by simp) rfl rfl ?_;refine ah.pure (S.pX q c f hq hb hc hl) rfl ?_;refine⟨fun h1=>?_,fun h1=>?_⟩
 ·conv=>whnf
  exact aj.bool (by rw[smB,show vW q c=false by simpa using h1]; rfl)
 have hd:vW q c=true:=by simpa using h1
 refine .mk (by simp only[jH,jP,Rw.len]; omega) ?_;refine aA.objs 2 [2] (fun x:Nat=>[(6,.int x),(5,.own 1)]) (fun x=>[(0,.box 30 7 (.dat (.prop q))),(1,iY c)]) (fun x=>x<=c.length/\(List.range x).all (fun x=>c.getD x 0==0|| !(vW q (aT c x (-1))))=true) (fun x=>c.length-x) 0 [0,8] rfl (by decide) (fun _=>rfl) ⟨Nat.zero_le _,rfl⟩ ?_ ?_ ?_
 ·exact(sR rfl)
 ·exact⟨dL rfl rfl,dL rfl rfl,trivial⟩
 refine⟨(sR rfl),rfl,?_⟩;rintro x ⟨hx,hall⟩;have hnext: ∀ b:Bool,(c.getD x 0==0|| !(vW q (aT c x (-1))))=b->(List.range (x+1)).all (fun x=>c.getD x 0==0|| !(vW q (aT c x (-1))))=b:=by
  intro b hb;rw[List.range_succ,List.all_append,hall];simp only[List.all_cons,List.all_nil,Bool.and_true,Bool.true_and]; exact hb
 refine⟨fun h3=>?_,fun h3=>?_⟩
 ·have hx':x<c.length:=by simpa using h3
  repeat(refine VC.mk (by simp only[Rw.rng] at *; omega) ?_)
  refine⟨fun h4=>?_,fun h4=>?_⟩
  ·conv=>whnf
   refine .mk (by simp only[okI] at *; omega) ?_;refine⟨x+1,[0,1],⟨by omega,hnext true (by rw[show(c.getD x 0==0)=true from h4]; rfl)⟩,by omega,(sR rfl),(sR rfl),dL rfl rfl,dL rfl rfl,trivial⟩
  ·have h0:c.getD x 0≠0:=by
    have:(c.getD x 0==0)=false:=h4
    simpa using this
   have hg:=hc.get x;have hf:=ac0 hc h0;have hlen:(c.set x (c.getD x 0-1)).length=c.length:=by simp
   repeat(refine VC.mk (by first|(simp only[okI,Int.toNat_natCast]; omega)|(simp only[Rw.rng]; omega)) ?_)
   refine ah.lend (S.pX q (c.set x (c.getD x 0-1)) false hq (by rw[hlen]; exact hb) hf (by rw[hlen]; exact hl)) (And.intro (aC _) (And.intro (AX trivial rfl) trivial)) rfl rfl ?_;refine⟨fun h5=>?_,fun h5=>?_⟩
   ·conv=>whnf
    refine aj.bool ?_;have e1:(c.getD x 0==0|| !(vW q (aT c x (-1))))=false:=by
     rw[show(c.getD x 0==0)=false from h4,show vW q (aT c x (-1))=true from h5]; rfl
    rw[smB,hd,Bool.true_and,Bool.eq_false_iff];intro hc2;rw[List.all_eq_true] at hc2;have:=hc2 x (List.mem_range.2 hx');rw[e1] at this; cases this
   ·have hg2:(c.set x (c.getD x 0-1)).getD x 0=c.getD x 0-1:=by simp[List.getD_eq_getElem?_getD,hx']
    repeat(refine VC.mk (by first|(simp only[okI,Int.toNat_natCast,hg2]; omega)|(simp only[Rw.rng,List.length_set]; omega)) ?_)
    refine⟨x+1,[0,1],⟨by omega,hnext true (by rw[show vW q (aT c x (-1))=false from h5]; simp)⟩,by omega,(sR rfl),(sR rfl),dL rfl rfl,⟨rfl,nofun,rfl,rfl,rfl,_,rfl,rfl,rfl,dP.of_eq ?_⟩,trivial⟩;have:=aam hx';show(iY c).au.l=(iY ((c.set x (c.getD x 0-1)).set x ((c.set x (c.getD x 0-1)).getD x 0+1))).au.l;rw[this]
 ·have hx':x=c.length:=by
   have: ¬ ((x:Int)<(c.length:Int)):=of_decide_eq_false h3
   omega
  subst hx';exact aj.bool (by rw[smB,hd,hall]; rfl)
abbrev fE(l:List (List Int)):OV:=.row 24 0 (.bH l) []
theorem N7(l:List (List Int)):T.bW (l.map Go.Ab.ints)=true:=by
 rw[fZ]; intro t ht; obtain⟨x,_,rfl⟩:=List.mem_map.1 ht; rfl
theorem aan{h:Hz}{j:Nat}{Z:Nat->Prop}{l:List (List Int)}(hz:Z j)(q:h.get j=some (fE l)):T.sub Z h.ay (V.row 0 false (.bH l)).aH (V.own j).aH:=by
 show T.sub Z h.ay (.sl 0 false (l.map Go.Ab.ints)) (.own j);simp only[T.sub];refine⟨trivial,hz,N7 l,by decide,24,?_⟩;have:=aN q; simpa [OV.au,Rw.aU,V.aU] using this
theorem aj.aao{h:Hz}{j:Nat}{l:List (List Int)}(q:h.get j=some (fE l)):aj (.row 0 false (.bH l)) (.own j) h:=⟨aan trivial q⟩
theorem DF{Z:Nat->Prop}{h:Hz}{i j:Nat}{r:Rw}{l:List (List Int)}{c:List Int}(q:h.get i=some (.row 24 0 r [.own j]))(hr:r.aU=l.map Go.Ab.ints)(hi: ¬ Z i)(hz:Z j)(qj:h.get j=some (iY c)) :
  ∃ o',h.get i=some o'/\ ¬ Z i/\o'.au.ty=(fE (l++[c])).au.ty/\o'.au.k=(fE (l++[c])).au.k/\T.dA Z h.ay (fE (l++[c])).au.l o'.au.l/\(fE (l++[c])).au.l.map T.kd=o'.au.l.map T.kd/\(fE (l++[c])).au.l.map gB=o'.au.l.map gB:=by
 have e1:(fE (l++[c])).au.l=r.aU++[Go.Ab.ints c]:=by rw[hr]; simp[OV.au,Rw.aU,V.aU]
 refine⟨_,q,hi,rfl,rfl,?_,?_,?_⟩
 ·rw[e1];exact yx (dJ _) ⟨AX hz qj,trivial⟩
 ·rw[e1]; show _=List.map T.kd (r.aU++[.own j]);rw[List.map_append,List.map_append]; rfl
 ·rw[e1]; show _=List.map gB (r.aU++[.own j]);rw[List.map_append,List.map_append]; rfl
theorem FV{k:Nat}(hk:k<4): ∀ {m u:Nat},u<4^m->mP (m+1) (k*4^m+u)=(k:Int)::mP m u:=by
 intro m;induction m with
 |zero =>
  intro u hu;have h:u=0:=(by simpa using hu)
  subst h;simp only[mP,Nat.pow_zero,Nat.mul_one,Nat.add_zero,List.nil_append];rw[Nat.mod_eq_of_lt hk]
 |succ m ih =>
  intro u hu;rw[Nat.pow_succ] at hu;have e:k*4^(m+1)=k*4^m*4:=by rw[Nat.pow_succ,Nat.mul_assoc]
  rw[e,mP];rw[show(k*4^m*4+u) / 4=k*4^m+u / 4 by omega,show(k*4^m*4+u) % 4=u % 4 by omega,ih (show u / 4<4^m by omega),mP];rfl
theorem Yc{α:Type}{M:Nat}{f:Nat->α}: ∀ {a:Nat},(List.range (a*M)).map f=(List.range a).flatMap fun k=>(List.range M).map fun u=>f (k*M+u):=by
 intro a;induction a with
 |zero=>simp
 |succ a ih =>
  rw[Nat.succ_mul,List.range_add,List.map_append,ih,List.range_succ,List.flatMap_append];simp
def JB(n:Nat):List (List Int):=(List.range (4^n)).map (mP n)
def outs(n j:Nat):List (List Int):=(List.range (4^(n-j))).map fun u=>List.replicate j 0++mP (n-j) u
def nextK(n j k:Nat):List (List Int):=(List.range k).flatMap fun k=>(outs n (j+1)).map fun c=>c.set j (k:Int)
theorem KH{n j k:Nat}:nextK n j (k+1)=nextK n j k++(outs n (j+1)).map fun c=>c.set j (k:Int):=by
 unfold nextK;rw[List.range_succ,List.flatMap_append]; simp
theorem Q9{n j:Nat}(hn:n<=6):(outs n j).length<=4096:=by
 simp only[outs,List.length_map,List.length_range]
 have:4^(n-j)<=4^6:=Nat.pow_le_pow_right (by decide) (by omega)
 exact this
theorem Yd{n j k:Nat}(hn:n<=6):(nextK n j k).length<=k*4096:=by
 induction k with
 |zero=>simp[nextK]
 |succ k ih =>
  rw[KH,List.length_append,List.length_map,Nat.succ_mul];have:=@Q9 n (j+1) hn;omega
theorem UW{n j:Nat}(hj:j<n):nextK n j 4=outs n j:=by
 have e:n-j=(n-(j+1))+1:=by omega
 unfold nextK outs;rw[e,Nat.pow_succ,Nat.mul_comm,Yc];refine congrArg List.flatten (List.map_congr_left fun k hk=>?_);rw[List.map_map];refine List.map_congr_left fun u hu=>?_
 rw[FV (List.mem_range.1 hk) (List.mem_range.1 hu)];show(List.replicate (j+1) 0++mP (n-(j+1)) u).set j (k:Int)=_;rw[List.replicate_succ',List.append_assoc];exact uw (by simp)
theorem aap{n:Nat}:outs n 0=JB n:=by simp[outs,JB]
theorem aaq{n j:Nat}(hj:j<=n){c:List Int}(h:c∈outs n j):c.length=n:=by
 obtain⟨u,_,rfl⟩:=List.mem_map.1 h;simp[iD]; omega
set_option maxHeartbeats 1000000 in
theorem S.FW(n:Nat)(hn0:0<n)(Z7:n<=6):ak Tryz.prog 77 [.int n,.int 3] (.row 0 false (.bH (JB n))):=by
 refine ak.of Bd.FW (by simp) rfl rfl ?_;conv=>whnf
 have hm:=BH (n:=n) hn0;rw[hm];repeat(refine VC.mk (by first|(omega)|(simp only[okI] at *; omega)) ?_)
 refine aA.KG 1 [0,1] (fun j:Nat=>[(6,.int ((j:Int)-1)),(5,.own 0)]) (fun j=>[(0,fE (outs n j))]) (fun j=>j<=n) (fun j=>j) n [3] [(3,some (fE ([]++[List.replicate n 0])))] rfl (by decide) (fun _=>rfl) (Nat.le_refl _) ?_ ?_ ?_ ?_
 ·exact(sR rfl)
 ·exact⟨fun i=>i=2,DF (Z:=fun i=>i=2) (i:=3) (j:=2) rfl rfl (by decide) rfl rfl,trivial⟩
 ·exact⟨okF rfl nofun rfl rfl rfl ⟨rfl,rfl⟩ (by simp[outs,mP]),trivial⟩
 refine⟨(sR rfl),rfl,?_⟩;rintro j hj;refine⟨fun h3=>?_,fun h3=>?_⟩
 ·obtain⟨j,rfl⟩: ∃ i,j=i+1:=⟨j-1,by have:=of_decide_eq_true h3; omega⟩
  have ej:(((j+1:Nat):Int)-1)=(j:Int):=by omega
  rw[ej];refine aA.nil 7 24 0 (by rfl) rfl rfl rfl ?_;refine aA.objs 2 [0,1,5,6] (fun k:Nat=>[(8,.int k),(7,.own 1)]) (fun k=>[(0,fE (outs n (j+1))),(1,fE (nextK n j k))]) (fun k=>k<=4) (fun k=>4-k) 0 [0,5] rfl (by decide) (fun _=>rfl) (Nat.zero_le _) ?_ ?_ ?_
  ·exact(sR rfl)
  ·exact⟨dL rfl rfl,dL rfl rfl,trivial⟩
  refine⟨(sR rfl),rfl,?_⟩;rintro k hk;have hkl:=@Yd n j k Z7;have hol:=@Q9 n (j+1) Z7;refine⟨fun h4=>?_,fun h4=>?_⟩
  ·have hk3:k<=3:=by have:=of_decide_eq_true h4; omega
   refine aA.KG 2 [0,1,5,6,8] (fun i:Nat=>[(9,.int i),(7,.own 1)]) (fun i=>[(0,fE (outs n (j+1))),(1,fE (nextK n j k++((outs n (j+1)).take i).map fun c=>c.set j (k:Int)))]) (fun i=>i<=(outs n (j+1)).length) (fun i=>(outs n (j+1)).length-i) 0 [0,1] [(0,some (fE (outs n (j+1)))),(1,some (fE (nextK n j k)))] rfl (by decide) (fun _=>rfl) (Nat.zero_le _) ?_ ?_ ?_ ?_
   ·exact(sR rfl)
   ·exact⟨fun _=>False,dM (Z:=fun _=>False) rfl (fun q=>q),dM (Z:=fun _=>False) rfl (fun q=>q),trivial⟩
   ·exact⟨FH rfl rfl,okF rfl nofun rfl rfl rfl ⟨rfl,rfl⟩ (by simp),trivial⟩
   refine⟨(sR rfl),rfl,?_⟩;rintro i hi;have hal:(nextK n j k++((outs n (j+1)).take i).map fun c=>c.set j (k:Int)).length<=5*4096:=by
    rw[List.length_append,List.length_map,List.length_take]; omega
   refine⟨fun h5=>?_,fun h5=>?_⟩
   ·have hi':i<(outs n (j+1)).length:=by simpa using h5
    have hcl:((outs n (j+1)).getD i []).length=n:=aaq hj (getD_mem hi');repeat(refine VC.mk (by first|(first|(simp only[jH,jP,Rw.len,Int.toNat_natCast,hcl]; omega)|(simp only[Rw.rng,Int.toNat_natCast,hcl]; omega)|(show((nextK n j k++((outs n (j+1)).take i).map fun c=>c.set j (k:Int)).length+(0+1))*24<=140737488355328/\(nextK n j k++((outs n (j+1)).take i).map fun c=>c.set j (k:Int)).length+(0+1)<=1152921504606846976; omega))|(simp only[okI] at *; omega)) ?_)
    refine⟨[(0,some (fE (outs n (j+1)))),(21,some (fE ((nextK n j k++((outs n (j+1)).take i).map fun c=>c.set j (k:Int))++[((outs n (j+1)).getD i []).set j (k:Int)])))],i+1,[0,21],⟨fun i=>i=11,dM (Z:=fun i=>i=11) (i:=0) rfl (by decide),DF (Z:=fun i=>i=11) (i:=21) (j:=11) rfl rfl (by decide) rfl rfl,trivial⟩,by omega,by omega,(sR rfl),(sR rfl),FH rfl rfl,okF rfl nofun rfl rfl rfl ⟨rfl,rfl⟩ ?_,trivial⟩;have ht:(outs n (j+1)).take (i+1)=(outs n (j+1)).take i++[(outs n (j+1)).getD i []]:=by rw[List.take_add_one]; simp[hi']
    rw[ht,List.map_append,<- List.append_assoc]; rfl
   ·have hi':i=(outs n (j+1)).length:=by
     have: ¬ ((i:Int)<((outs n (j+1)).length:Int)):=of_decide_eq_false h5
     omega
    subst hi';rw[List.take_length,<- KH];refine .mk (by first|(simp only[okI]; omega)|omega) ?_;refine⟨k+1,[0,1],by omega,by omega,(sR rfl),(sR rfl),dL rfl rfl,dL rfl rfl,trivial⟩
  ·have hk4:k=4:=by have:=of_decide_eq_false h4; omega
   subst hk4;rw[UW (by omega)];refine .mk (by first|(simp only[okI]; omega)|omega) ?_;refine⟨[(1,some (fE (outs n j)))],j,[1],⟨fun _=>False,dM (Z:=fun _=>False) rfl (fun q=>q),trivial⟩,by omega,by omega,(sR rfl),(sR rfl),FH rfl rfl,trivial⟩
 ·have hj0:j=0:=by have:=of_decide_eq_false h3; omega
  subst hj0;rw[aap];exact aj.aao rfl
def smA(q:Prop')(n:Nat)(w i:Nat):List Elem:=((List.range i).filter fun u=>smB q (mP n u)).map fun u=>⟨(w:Int),mP n u⟩
def lI(q:Prop')(n vals:Nat):List Elem:=(List.range vals).flatMap fun w=>smA q n w (4^n)
theorem aar{q:Prop'}{n w i:Nat}:smA q n w (i+1)=smA q n w i++bif smB q (mP n i) then [⟨(w:Int),mP n i⟩] else []:=by
 unfold smA;rw[List.range_succ,List.filter_append,List.map_append]
 congr 1
 cases h:smB q (mP n i)<;>simp[h]
theorem WJ{q:Prop'}{n w i:Nat}:(smA q n w i).length<=i:=by
 unfold smA;rw[List.length_map];have:=List.length_filter_le (fun u=>smB q (mP n u)) (List.range i);simpa using this
theorem BL{q:Prop'}{n v:Nat}:lI q n (v+1)=lI q n v++smA q n v (4^n):=by
 unfold lI;rw[List.range_succ,List.flatMap_append]; simp
theorem KI{q:Prop'}{n v:Nat}:(lI q n v).length<=v*4^n:=by
 induction v with
 |zero=>simp[lI]
 |succ v ih =>
  rw[BL,List.length_append,Nat.succ_mul];have:=@WJ q n v (4^n); omega
theorem aas{n i:Nat}(hi:i<4^n):(JB n).getD i []=mP n i:=by
 unfold JB; simp[List.getD_eq_getElem?_getD,hi]
set_option maxHeartbeats 1000000 in
theorem S.FX(p:aI)(q:Prop')(n vals:Nat)(_hp:eU p)(hq:kM q)(hn:p.states.length=n)(hn0:0<n)(Z7:n<=6)(hvs:max 1 p.values.length=vals)(WI:vals<=3)(hb:Ya n q) :
  ak Tryz.prog 48 [.dat (.fV p),.dat (.prop q)] (.row 3 false (.elems (lI q n vals))):=by
 have h46:4^n<=4096:=Nat.pow_le_pow_right (by decide) (show n<=6 from Z7);have hAl:(JB n).length=4^n:=by simp[JB]
 have hA:=S.FW n hn0 Z7;rw[<- hn] at hA;refine ak.of Bd.FX (by simp) rfl rfl ?_;refine ah.pure (hA) rfl ?_;conv=>whnf
 rw[hn];refine aA.nil 6 35 3 (by rfl) rfl rfl rfl ?_;refine aA.objs 3 [2,3,5] (fun v:Nat=>[(7,.int v),(6,.own 2)]) (fun v=>[(0,.box 27 11 (.dat (.fV p))),(1,.box 30 7 (.dat (.prop q))),(2,aZ (lI q n v))]) (fun v=>v<=vals) (fun v=>vals-v) 0 [0,1,10] rfl (by decide) (fun _=>rfl) (Nat.zero_le _) ?_ ?_ ?_
 ·exact(sR rfl)
 ·exact⟨dL rfl rfl,dL rfl rfl,dL rfl rfl,trivial⟩
 refine⟨(sR rfl),rfl,?_⟩;rintro v hv;have hrl:=KI (q:=q) (n:=n) (v:=v);have hr2:v*4^n<=3*4096:=Nat.mul_le_mul (by omega) h46;refine⟨fun h3=>?_,fun h3=>?_⟩
 ·have hv':v<vals:=by
   have:(v:Int)<max 1 (p.values.length:Int):=of_decide_eq_true h3
   omega
  refine aA.KG 3 [2,3,5,7] (fun i:Nat=>[(8,.int i),(6,.own 2)]) (fun i=>[(0,.box 27 11 (.dat (.fV p))),(1,.box 30 7 (.dat (.prop q))),(2,aZ (lI q n v++smA q n v i))]) (fun i=>i<=4^n) (fun i=>4^n-i) 0 [0,1,2] [(0,some (.box 27 11 (.dat (.fV p)))),(1,some (.box 30 7 (.dat (.prop q)))),(2,some (aZ (lI q n v)))] rfl (by decide) (fun _=>rfl) (Nat.zero_le _) ?_ ?_ ?_ ?_
  ·exact(sR rfl)
  ·exact⟨fun _=>False,dM (Z:=fun _=>False) rfl (fun q=>q),dM (Z:=fun _=>False) rfl (fun q=>q),dM (Z:=fun _=>False) rfl (fun q=>q),trivial⟩
  ·exact⟨FH rfl rfl,FH rfl rfl,okF rfl nofun rfl rfl rfl ⟨rfl,rfl⟩ (by simp[smA]),trivial⟩
  refine⟨(sR rfl),rfl,?_⟩;rintro i hi;have hsl:=@WJ q n v i;have hal:(lI q n v++smA q n v i).length<=4*4096:=by rw[List.length_append]; omega
  refine⟨fun h4=>?_,fun h4=>?_⟩
  ·have hi':i<4^n:=by
    have:(i:Int)<((JB n).length:Int):=of_decide_eq_true h4
    omega
   have hget:=aas hi';have hss:=@aar q n v i;refine .mk (by simp only[Rw.rng,hAl]; omega) ?_;conv=>whnf
   rw[show(JB n).getD (i:Int).toNat []=mP n i from hget];refine ah.pure (S.sH q (mP n i) false hq (by rw[iD]; exact hb) WG (by rw[iD]; omega)) rfl ?_;refine⟨fun h5=>?_,fun h5=>?_⟩
   ·rw[h5] at hss;repeat(refine VC.mk (by first|(first|(simp only[Rw.rng,Int.toNat_natCast,hAl]; omega)|(simp only[jH,jP,Rw.len,Int.toNat_natCast]; rw[hget,iD]; omega)|(show((lI q n v++smA q n v i).length+(0+1))*32<=140737488355328/\(lI q n v++smA q n v i).length+(0+1)<=1152921504606846976; omega))|(simp only[okI] at *; omega)) ?_)
    refine⟨[(0,some (.box 27 11 (.dat (.fV p)))),(1,some (.box 30 7 (.dat (.prop q)))),(23,some (aZ ((lI q n v++smA q n v i)++[⟨(v:Int),(JB n).getD (i:Int).toNat []⟩])))],i+1,[0,1,23],⟨fun i=>i=20,dM (Z:=fun i=>i=20) (i:=0) rfl (by decide),dM (Z:=fun i=>i=20) (i:=1) rfl (by decide),KF (Z:=fun i=>i=20) (i:=23) (j:=20) rfl (by decide) rfl rfl,trivial⟩,by omega,by omega,(sR rfl),(sR rfl),FH rfl rfl,FH rfl rfl,okF rfl nofun rfl rfl rfl ⟨rfl,rfl⟩ ?_,trivial⟩;rw[hss,<- List.append_assoc,show(JB n).getD (i:Int).toNat []=mP n i from hget]; rfl
   ·rw[h5] at hss;refine .mk (by simp only[okI] at *; omega) ?_;refine⟨[(0,some (.box 27 11 (.dat (.fV p)))),(1,some (.box 30 7 (.dat (.prop q)))),(2,some (aZ (lI q n v++smA q n v i)))],i+1,[0,1,2],⟨fun _=>False,dM (Z:=fun _=>False) rfl (fun q=>q),dM (Z:=fun _=>False) rfl (fun q=>q),dM (Z:=fun _=>False) rfl (fun q=>q),trivial⟩,by omega,by omega,(sR rfl),(sR rfl),FH rfl rfl,FH rfl rfl,okF rfl nofun rfl rfl rfl ⟨rfl,rfl⟩ (by rw[hss]; simp),trivial⟩
  ·have hi':i=4^n:=by
    have: ¬ ((i:Int)<((JB n).length:Int)):=of_decide_eq_false h4
    omega
   rw[hi',<- BL];refine .mk (by simp only[okI] at *; omega) ?_;refine⟨v+1,[0,1,2],by omega,by omega,(sR rfl),(sR rfl),dL rfl rfl,dL rfl rfl,dL rfl rfl,trivial⟩
 ·have hv':v=vals:=by
   have: ¬ (v:Int)<max 1 (p.values.length:Int):=of_decide_eq_false h3
   omega
  rw[hv'];exact aj.aal rfl
theorem Ye{a b:List Int}(h:nI a b=true)(hne:a≠b): ∃ x,x<b.length/\a.getD x 0<b.getD x 0:=by
 refine Classical.byContradiction fun hc=>hne ?_
 obtain⟨h1,h2⟩:=nJ.1 h;refine List.ext_getElem h1 fun i hi hj=>?_
 have e1:=h2 i hi;have e2: ¬ a.getD i 0<b.getD i 0:=fun q=>hc ⟨i,hj,q⟩
 rw[show a.getD i 0=a[i] by simp[hi],show b.getD i 0=b[i] by simp[hj]] at e1 e2;omega
theorem aat{q:Prop'}{a b:List Int}(h:nI a b=true)(hd:vW q a=true):vW q b=true:=by
 unfold vW at hd ⊢;rw[List.all_eq_true] at hd ⊢;intro k hk;have:=of_decide_eq_true (hd k hk);refine decide_eq_true (Int.le_trans this ?_);unfold Bj;generalize k.states=st;induction st with
 |nil=>exact Int.le_refl _
 |cons x r ih =>
  simp only[List.map_cons,List.sum_cons];have:=QX h x.toNat;omega
theorem Yf{a b:List Int}{x:Nat}(h:nI a b=true)(hx:a.getD x 0<b.getD x 0):nI a (aT b x (-1))=true:=by
 obtain⟨h1,h2⟩:=nJ.1 h;refine nJ.2 ⟨by rw[y7,h1],fun i hi=>?_⟩;rw[Ic];split
 ·rename_i hc
  have:i=x:=by have:=hc.1; simpa using this
  subst this; omega
 ·exact h2 i hi
theorem Yg{b:List Int}{x:Nat}:nI (aT b x (-1)) b=true:=by
 refine nJ.2 ⟨y7,fun i hi=>?_⟩;rw[Ic];split<;>omega
theorem ac1{n:Nat}: ∀ {c:List Int},c.length=n->(∀ x∈c,0<=x/\x<=3)-> ∃ u,u<4^n/\mP n u=c:=by
 induction n with
 |zero=>intro c h _; exact⟨0,by decide,by rw[List.eq_nil_of_length_eq_zero h]; rfl⟩
 |succ n ih =>
  intro c h hc;cases c with
  |nil=>simp at h
  |cons k c =>
   simp only[List.length_cons] at h;obtain⟨u,h1,h2⟩:=ih (c:=c) (by omega) fun x hx=>hc x (by simp[hx])
   have hk:=hc k (by simp);obtain⟨j,rfl⟩: ∃ j:Nat,k=j:=⟨k.toNat,by omega⟩
   refine⟨j*4^n+u,?_,?_⟩
   ·rw[Nat.pow_succ]
    have:j*4^n<=3*4^n:=Nat.mul_le_mul_right _ (by omega)
    omega
   ·rw[FV (by omega) h1,h2]
theorem afh: ∀ {n u v:Nat},u<v->v<4^n->cmpL (mP n u) (mP n v)<0:=by
 intro n;induction n with
 |zero=>intro u v h1 h2; simp at h2; omega
 |succ n ih =>
  intro u v h1 h2;have hp:0<4^n:=Nat.pow_pos (by decide);rw[Nat.pow_succ] at h2;have eu:u=u / 4^n*4^n+u % 4^n:=(Nat.div_add_mod' u (4^n)).symm;have ev:v=v / 4^n*4^n+v % 4^n:=(Nat.div_add_mod' v (4^n)).symm;have lv:v / 4^n<4:=(Nat.div_lt_iff_lt_mul hp).2 (by omega);have le:u / 4^n<=v / 4^n:=Nat.div_le_div_right (by omega);have d1:mP (n+1) u=((u / 4^n:Nat):Int)::mP n (u % 4^n):=by
   conv=>lhs; rw[eu]
   exact FV (by omega) (Nat.mod_lt _ hp)
  have d2:mP (n+1) v=((v / 4^n:Nat):Int)::mP n (v % 4^n):=by
   conv=>lhs; rw[ev]
   exact FV lv (Nat.mod_lt _ hp)
  rw[d1,d2];simp only[cmpL];by_cases e:u / 4^n=v / 4^n
  ·rw[if_neg (by omega),if_neg (by omega)];refine ih ?_ (Nat.mod_lt _ hp);rw[e] at eu; omega
  ·rw[if_pos (by omega)]; decide
theorem Yh{q:Prop'}{n vals:Nat}:SS (lI q n vals):=by
 induction vals with
 |zero=>simp[lI,SS]
 |succ v ih =>
  rw[BL];simp only[SS,List.pairwise_append];refine⟨ih,?_,fun x hx y hy=>?_⟩
  ·unfold smA;rw[List.pairwise_map];refine List.Pairwise.filter _ ?_;refine List.Pairwise.imp_of_mem (R:=fun a b=>a<b) (fun {a b} ha hb h=>?_) List.pairwise_lt_range;show gV ⟨(v:Int),mP n a⟩ ⟨(v:Int),mP n b⟩<0;simp only[gV];rw[if_neg (by omega),if_neg (by omega)];exact afh h (List.mem_range.1 hb)
  ·obtain⟨w,h1,h2⟩:=List.mem_flatMap.1 hx;obtain⟨u,_,rfl⟩:=List.mem_map.1 h2;obtain⟨u',_,rfl⟩:=List.mem_map.1 hy;have:=List.mem_range.1 h1;simp only[gV];rw[if_pos (by omega)]; decide
theorem KJ{q:Prop'}{n vals:Nat}{e:Elem}:e∈wX q n vals (4^n)↔ ∃ u w,u<4^n/\w<vals/\vW q (mP n u)=true/\e=⟨((w:Nat):Int),mP n u⟩:=by
 unfold wX;rw[List.mem_flatMap];constructor
 ·rintro⟨u,h1,h2⟩;unfold BJ at h2;cases hd:vW q (mP n u) with
  |false=>rw[hd] at h2; cases h2
  |true =>
   rw[hd] at h2;obtain⟨w,h3,rfl⟩:=List.mem_map.1 h2;exact⟨u,w,List.mem_range.1 h1,List.mem_range.1 h3,hd,rfl⟩
 ·rintro⟨u,w,h1,h2,h3,rfl⟩;refine⟨u,List.mem_range.2 h1,?_⟩;unfold BJ;rw[h3];exact List.mem_map.2 ⟨w,List.mem_range.2 h2,rfl⟩
theorem WL{q:Prop'}{c:List Int}(hc: ∀ x∈c,0<=x):smB q c=true↔vW q c=true/\ ∀ a,(∀ x∈a,0<=x)->nI a c=true->a≠c->vW q a=false:=by
 have gz: ∀ {l:List Int},(∀ x∈l,0<=x)-> ∀ i,0<=l.getD i 0:=fun {l} h i=>by
  by_cases hi:i<l.length
  ·rw[show l.getD i 0=l[i] by simp[hi]]; exact h _ (List.getElem_mem hi)
  ·rw[show l.getD i 0=0 by simp[List.getD_eq_getElem?_getD,List.getElem?_eq_none (by omega:l.length<=i)]]; omega
 unfold smB;rw[Bool.and_eq_true,List.all_eq_true];constructor
 ·rintro⟨h1,h2⟩;refine⟨h1,fun a ha hl hne=>?_⟩;obtain⟨x,hx,hlt⟩:=Ye hl hne;have h3:=h2 x (List.mem_range.2 hx);have h4:c.getD x 0≠0:=by have:=gz ha x; omega
  rw[show(c.getD x 0==0)=false by simpa using h4,Bool.false_or,Bool.not_eq_true'] at h3;cases hd:vW q a with
  |false=>rfl
  |true=>rw[aat (Yf hl hlt) hd] at h3; cases h3
 ·rintro⟨h1,h2⟩;refine⟨h1,fun x hx=>?_⟩;have hx':=List.mem_range.1 hx;by_cases h0:c.getD x 0=0
  ·rw[show(c.getD x 0==0)=true by simpa using h0]; rfl
  ·have h3:=h2 (aT c x (-1)) (fun y hy=>by
    rcases List.mem_or_eq_of_mem_set hy with hy|rfl
    ·exact hc y hy
    ·have:=gz hc x; simp only[Int.toNat_natCast]; omega) Yg (fun e=>by
    have:(aT c x (-1)).getD x 0=c.getD x 0:=by rw[e]
    rw[Ic,if_pos ⟨by simp,hx'⟩] at this; omega)
   rw[h3]; simp
theorem bad_law{q:Prop'}{n vals:Nat}:aK (wX q n vals (4^n))=lI q n vals:=by
 have nn: ∀ {u:Nat},∀ x∈mP n u,0<=x:=fun {u} x hx=>(FU x hx).1
 refine zh (bZ _).1 Yh fun e=>?_
 rw[(bZ _).2,KJ];constructor
 ·rintro⟨⟨u,w,h1,h2,h3,rfl⟩,h4⟩;refine List.mem_flatMap.2 ⟨w,List.mem_range.2 h2,List.mem_map.2 ⟨u,List.mem_filter.2 ⟨List.mem_range.2 h1,?_⟩,rfl⟩⟩;refine(WL nn).2 ⟨h3,fun a ha hl hne=>?_⟩;cases hd:vW q a with
  |false=>rfl
  |true =>
   exfalso;have hal:a.length=n:=by rw[(nJ.1 hl).1,iD]
   obtain⟨u',g1,rfl⟩:=ac1 hal fun x hx=>by
    refine⟨ha x hx,?_⟩;obtain⟨i,hi,rfl⟩:=List.mem_iff_getElem.1 hx;have e1:=QX hl i;rw[show a.getD i 0=a[i] by simp[hi]] at e1;have hi2:i<(mP n u).length:=by rw[iD]; omega
    rw[show(mP n u).getD i 0=(mP n u)[i] by simp[hi2]] at e1;have:=FU _ (List.getElem_mem hi2);omega
   rw[List.any_eq_false] at h4;refine h4 ⟨(w:Int),mP n u'⟩ (KJ.2 ⟨u',w,g1,h2,hd,rfl⟩) (nO.2 ⟨?_,fun e=>hne (congrArg Elem.counts e)⟩);simp only[kK,BEq.rfl,Bool.true_and]; exact hl
 ·intro h;obtain⟨w,h1,h2⟩:=List.mem_flatMap.1 h;obtain⟨u,h3,rfl⟩:=List.mem_map.1 h2;obtain⟨h4,h5⟩:=List.mem_filter.1 h3;obtain⟨s1,s2⟩:=(WL nn).1 h5;refine⟨⟨u,w,List.mem_range.1 h4,List.mem_range.1 h1,s1,rfl⟩,?_⟩;rw[List.any_eq_false];intro y hy hab;obtain⟨u',w',g1,g2,g3,rfl⟩:=KJ.1 hy;obtain⟨hl,hne⟩:=nO.1 hab;simp only[kK,Bool.and_eq_true,beq_iff_eq] at hl;have:=s2 (mP n u') nn hl.2 (fun e=>hne (by rw[hl.1,e]));rw[g3] at this; cases this
def iO(p:aI)(q:Prop'):List Elem:=bif dn p q !=0 then [] else lI q p.states.length (max 1 p.values.length)
theorem BM(p:aI)(q:Prop')(_hp:eU p):(iO p q).length<2^30/\dK (iO p q):=by
 unfold iO;cases h1:(dn p q !=0) with
 |true=>exact⟨by show([]:List Elem).length<_; decide,fun x hx=>by cases hx⟩
 |false =>
  obtain⟨b1,b2,b3,b4⟩:=H9 (BD h1);have hv:=KA b3;have v2:=hv.states; have v3:=hv.values;have h46:4^p.states.length<=4^6:=Nat.pow_le_pow_right (by decide) v2;have h47:(4:Nat)^6=4096:=by decide
  have h1:=KI (q:=q) (n:=p.states.length) (v:=max 1 p.values.length);have h2:max 1 p.values.length*4^p.states.length<=3*4096:=Nat.mul_le_mul (by omega) (by omega);refine⟨by show(lI _ _ _).length<_; omega,fun x hx=>?_⟩;obtain⟨w,_,h3⟩:=List.mem_flatMap.1 hx;obtain⟨u,_,rfl⟩:=List.mem_map.1 h3;show(mP _ _).length<_;rw[iD]; omega
end Go.Proofs.YtkmldgihhaooaaaGreatDoor
