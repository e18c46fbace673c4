/-
 A part of the proof. No condition.
-/
import Derived.Test.YtdhobgbagphngaaGreatDoorFa
import Derived.Test.YtdhobgbagphngaaGreatDoorHb
import Derived.Test.YtdhobgbagphngaaGreatDoorLg
namespace Go.Proofs.YtdhobgbagphngaaGreatDoor
open Go.Ab Go.Proofs
set_option maxRecDepth 100000
def Gu(st c:List Int):Int:=(st.map fun x=>c.getD x.toNat 0).sum
def DX(q:Prop')(c:List Int):Bool:=q.bad.all fun k=>decide (k.least<=Gu k.states c)
structure adF(n:Nat)(q:Prop'):Prop where
 place: ∀ k∈q.bad,zG n k.states
 least: ∀ k∈q.bad,1<=k.least/\k.least<=3
 some: ∀ k∈q.bad,k.states≠[]
def few(c:List Int):Prop:= ∀ x∈c,0<=x/\x<=4
theorem few.get{c:List Int}(h:few c)(i:Nat):0<=c.getD i 0/\c.getD i 0<=4:=by
 by_cases hi:i<c.length
 ·rw[show c.getD i 0=c[i] by simp[hi]]; exact h _ (List.getElem_mem hi)
 ·rw[show c.getD i 0=0 by simp[List.getD_eq_getElem?_getD,List.getElem?_eq_none (by omega:c.length<=i)]]; omega
theorem WA{st c:List Int}{i:Nat}(hi:i<st.length):Gu (st.take (i+1)) c=Gu (st.take i) c+c.getD (st.getD i 0).toNat 0:=by
 unfold Gu;rw[List.take_add_one,List.map_append,List.sum_append]; simp[hi]
theorem YK{st c:List Int}(h:few c):0<=Gu st c/\Gu st c<=4*st.length:=by
 unfold Gu;induction st with
 |nil=>simp
 |cons x r ih =>
  have:=h.get x.toNat;simp only[List.map_cons,List.sum_cons,List.length_cons]; omega
theorem getD_mem{α:Type}{l:List α}{i:Nat}{d:α}(hi:i<l.length):l.getD i d∈l:=by
 rw[show l.getD i d=l[i] by simp[hi]]; exact List.getElem_mem hi
theorem S.mO(q:Prop')(c:List Int)(f:Bool)(hq:tJ q)(hb:adF c.length q)(hc:few c)(_hl:c.length<2^30):aj Tryz.prog 91 [.dat (.prop q),.row 0 f (.ints c)] (.bool (DX q c)):=by
 have q2:=hq.bad;refine aj.of Bd.mO (by simp) rfl rfl ?_;refine aC.same [1,11,12] (fun i:Nat=>[(13,.int i)]) (fun i=>i<=q.bad.length/\(q.bad.take i).all (fun k=>decide (k.least<=Gu k.states c))=true) (fun i=>q.bad.length-i) 0 rfl (by decide) rfl (fun _=>rfl) ⟨by omega,by simp⟩ ⟨⟨_,rfl,rfl⟩,trivial⟩ ?_;refine⟨rfl,?_⟩;rintro i ⟨hi,hall⟩;refine⟨fun h3=>?_,fun h3=>?_⟩
 ·have hi':i<q.bad.length:=by simpa using h3
  have hk:=getD_mem (d:=default) hi';have hpl:=hb.place _ hk;have hsz:=hq.cnt i;refine .mk (by simp only[Rw.rng] at *; omega) ?_;refine aC.same [1,6,11,12,13,18,19] (fun j:Nat=>[(20,.int j),(7,.int (Gu ((q.bad.getD i default).states.take j) c))]) (fun j=>j<=(q.bad.getD i default).states.length) (fun j=>(q.bad.getD i default).states.length-j) 0 rfl (by decide) rfl (fun _=>rfl) (Nat.zero_le _) ⟨⟨_,rfl,rfl⟩,⟨_,rfl,rfl⟩,trivial⟩ ?_;refine⟨rfl,?_⟩;rintro j hj;have hs1:=YK (st:=(q.bad.getD i default).states.take j) hc;have hl1:((q.bad.getD i default).states.take j).length<=(q.bad.getD i default).states.length:=by rw[List.length_take]; omega
  refine⟨fun h4=>?_,fun h4=>?_⟩
  ·have hj':j<(q.bad.getD i default).states.length:=by simpa using h4
   have hst:=WA (c:=c) hj';have hg:=hc.get ((q.bad.getD i default).states.getD j 0).toNat;obtain⟨p1,p2⟩:=hpl _ (getD_mem (d:=0) hj');repeat(refine VC.mk (by first|(simp only[Rw.rng,Int.toNat_natCast]; omega)|(simp only[okI,Int.toNat_natCast] at *; omega)) ?_)
   refine⟨j+1,by omega,by omega,⟨⟨_,rfl,rfl⟩,⟨_,rfl,?_⟩,trivial⟩,?_,rfl⟩
   ·rw[hst]; rfl
   ·repeat' (first|exact trivial|exact⟨_,rfl,rfl⟩|constructor)
  ·have hj':(q.bad.getD i default).states.length<=j:=by simpa using h4
   rw[List.take_of_length_le hj'];refine⟨fun h5=>?_,fun h5=>?_⟩
   ·conv=>whnf
    refine ak.bool ?_
    have: ¬ (q.bad.getD i default).least<=Gu (q.bad.getD i default).states c:=by
     simp only[Int.toNat_natCast] at h5;have:=of_decide_eq_true h5; omega
    exact qh (p:=fun k=>decide (k.least<=Gu k.states c)) (d:=default) hi' (decide_eq_false this)
   ·conv=>whnf
    refine .mk (by simp only[okI] at *; omega) ?_;conv=>whnf
    have:(q.bad.getD i default).least<=Gu (q.bad.getD i default).states c:=by
     simp only[Int.toNat_natCast] at h5;have:=of_decide_eq_false h5; omega
    refine⟨i+1,⟨by omega,?_⟩,by omega,⟨⟨_,rfl,rfl⟩,trivial⟩,?_,rfl⟩
    ·rw[tK (d:=default) hi' hall]; exact decide_eq_true this
    ·repeat' (first|exact trivial|exact⟨_,rfl,rfl⟩|constructor)
 ·have hi':q.bad.length<=i:=by simpa using h3
  rw[List.take_of_length_le hi'] at hall;exact ak.bool hall
theorem Og{p:aH}{q:Prop'}(h:fP p q=0):q.kind=1/\adF p.states.length q/\aX p=0/\(gW p).cover=true:=by
 have hp:=DW h;have hv:=Jq hp;have hc:=h;unfold fP at hc;obtain⟨_,hc⟩:=bz nz hc;have hc':=Gs hc (by decide);rw[Bool.or_eq_false_iff,Bool.not_eq_false'] at hc';have hk:q.kind=1:=by simpa using hc'.2
 unfold qG at hp;obtain⟨_,hp⟩:=bz nz hp;obtain⟨_,hp⟩:=bz (fun _=>by decide) hp;obtain⟨_,hp⟩:=bz (fun _=>by decide) hp;obtain⟨_,hp⟩:=bz (fun _=>by decide) hp;obtain⟨_,hp⟩:=bz nz hp;obtain⟨_,hp⟩:=bz (fun _=>by decide) hp;rw[show(!(q.kind==1))=false by simp[hk]] at hp;have hcn:=kP hp (Cj q.bad p.states.length) (by simp);have hall: ∀ k∈q.bad,YI p.states.length k=0:=fun k hk=>kP hcn _ (List.mem_map.2 ⟨k,hk,rfl⟩)
 have hlb: ∀ k∈q.bad,wF k=false:=fun k hk=>Gs (kP (hall k hk) (dV (wF k) 1) (by simp)) (by decide)
 refine⟨hk,⟨fun k hk=>Gq (kP (hall k hk) (jf k.states p.states.length) (by simp)),fun k hk=>?_,fun k hk e=>?_⟩,hv,hc'.1⟩
 ·have:=hlb k hk;simp only[wF,Bool.or_eq_false_iff,decide_eq_false_iff_not] at this; omega
 ·have:=hlb k hk;rw[wF,e] at this; simp at this
def oP:Nat->Nat->List Int
 |0,_=>[]
 |n+1,v=>oP n (v / 4)++[((v % 4:Nat):Int)]
theorem jm: ∀ {n v:Nat},(oP n v).length=n:=by
 intro n;induction n with
 |zero=>intro v; rfl
 |succ n ih=>intro v; simp[oP,ih]
theorem EO: ∀ {n v:Nat},∀ x∈oP n v,0<=x/\x<=3:=by
 intro n;induction n with
 |zero=>intro v x h; cases h
 |succ n ih =>
  intro v x h;rcases List.mem_append.1 h with h|h
  ·exact ih x h
  ·rw[List.mem_singleton] at h; subst h; omega
theorem abf{n v:Nat}:few (oP n v):=fun x h=>by have:=EO x h; omega
theorem MJ{n u:Nat}: ∀ {k:Nat},oP (n+k) (u*4^k)=oP n u++List.replicate k 0:=by
 intro k;induction k with
 |zero=>simp
 |succ k ih =>
  rw[<- Nat.add_assoc];simp only[oP];rw[Nat.pow_succ,<- Nat.mul_assoc,Nat.mul_div_cancel _ (by decide:0<4),ih,Nat.mul_mod_left,List.append_assoc,List.replicate_succ'];rfl
theorem YL{n:Nat}:oP n 0=List.replicate n 0:=by
 have:=@MJ 0 0 n;simpa [oP] using this
def AL(q:Prop')(n vals v:Nat):List Elem:=bif DX q (oP n v) then(List.range vals).map (fun(w:Nat)=>⟨(w:Int),oP n v⟩) else []
def wG(q:Prop')(n vals u:Nat):List Elem:=(List.range u).flatMap (AL q n vals)
theorem Gv{q:Prop'}{n vals u:Nat}:wG q n vals (u+1)=wG q n vals u++AL q n vals u:=by
 unfold wG;rw[List.range_succ,List.flatMap_append]; simp
theorem Jr{q:Prop'}{n vals u:Nat}:(wG q n vals u).length<=u*vals:=by
 induction u with
 |zero=>simp[wG]
 |succ u ih =>
  rw[Gv,List.length_append,Nat.succ_mul]
  have:(AL q n vals u).length<=vals:=by
   unfold AL;cases DX q (oP n u)<;>simp
  omega
theorem WB{q:Prop'}{n vals v:Nat}{e:Elem}(h:e∈AL q n vals v):e.counts=oP n v:=by
 unfold AL at h;cases hd:DX q (oP n v) with
 |false=>rw[hd] at h; cases h
 |true =>
  rw[hd] at h;obtain⟨w,_,rfl⟩:=List.mem_map.1 h;rfl
theorem MK{q:Prop'}{n vals u:Nat}(hn:n<=6): ∀ e∈wG q n vals u,AO e:=by
 intro e h;obtain⟨v,_,h2⟩:=List.mem_flatMap.1 h;rw[show e=⟨e.value,e.counts⟩ from rfl,WB h2];exact⟨by rw[jm]; exact hn,fun x hx=>by have:=EO x hx; omega⟩
theorem ah.yO{h:Hz}{i n:Nat}{l:List Elem}{K:V->Hz->Prop}{KW:Nat->V->Hz->Prop}(hi:h.get i=some (dF l))(hn:h.get n=none)(hl:l.length<2^29)(hg: ∀ e∈l,AO e)
  (h1:K (.own n) ((n,some (dF (bW l)))::(i,none)::h)) (h2: ∀ m,K (.pq n 0 (bW l).length) ((n,some (.row 31 3 (.elems (bW l)) (List.replicate m zeroV)))::(i,none)::h)):ah Tryz.prog false none 86 [.own i] h n K KW:=by
 refine ah.YH (ts:=[.own 0]) (S.yO l 1 (by decide) hl hg) rfl rfl rfl rfl hi hn ?_;rintro t hp (⟨rfl,rfl⟩|⟨m,rfl,rfl⟩)
 ·exact .inr ⟨.own n,dF (bW l),rfl,rfl,rfl,h1⟩
 ·exact .inr ⟨.pq n 0 _,.row 31 3 (.elems (bW l)) (List.replicate m zeroV),rfl,EK _ _,rfl,h2 m⟩
theorem agu{Z:Nat->Prop}{h:Hz}{j:Nat}{v:Int}{l:List Int}(hz:Z j)(q:h.get j=some (lX l)):T.sub Z h.au (iE ⟨v,l⟩) (.agg [.int v,.own j]):=by
 have:=EH hz q;show T.sub Z h.au (.agg [.int v,.sl 0 false (l.map T.int)]) (.agg [.int v,.own j]);replace this:T.sub Z h.au (.sl 0 false (l.map T.int)) (.own j):=this;simp only[T.sub] at this;simp only[T.sub,T.dK];exact⟨trivial,this,trivial⟩
theorem P8{Z:Nat->Prop}{h:Hz}{i j:Nat}{l:List Elem}{e:Elem}(q:h.get i=some (.row 31 3 (.elems l) [.agg [.int e.value,.own j]]))(hi: ¬ Z i)(hz:Z j)(qj:h.get j=some (lX e.counts)) :
  ∃ o',h.get i=some o'/\ ¬ Z i/\o'.aA.ty=(dF (l++[e])).aA.ty/\o'.aA.k=(dF (l++[e])).aA.k/\T.dK Z h.au (dF (l++[e])).aA.l o'.aA.l/\(dF (l++[e])).aA.l.map T.kd=o'.aA.l.map T.kd/\(dF (l++[e])).aA.l.map iF=o'.aA.l.map iF:=by
 have e1:(dF (l++[e])).aA.l=l.map iE++[iE e]:=by simp[OV.aA,Rw.aT,V.aT]
 refine⟨_,q,hi,rfl,rfl,?_,?_,?_⟩
 ·rw[e1];exact P9 (eY _) ⟨agu hz qj,trivial⟩
 ·rw[e1]; show _=List.map T.kd (l.map iE++[.agg [.int e.value,.own j]]);rw[List.map_append,List.map_append]; rfl
 ·rw[e1]; show _=List.map iF (l.map iE++[.agg [.int e.value,.own j]]);rw[List.map_append,List.map_append]; rfl
def back(n v k:Nat):List Int:=oP (n-k) (v / 4^k)++List.replicate k 0
theorem Qa{n v k:Nat}(h:k<=n):(back n v k).length=n:=by simp[back,jm]; omega
theorem ML{n v:Nat}:back n v 0=oP n v:=by simp[back]
theorem tN{n v k:Nat}(h:k<n):back n v k=oP (n-k-1) (v / 4^k / 4)++(((v / 4^k % 4:Nat):Int)::List.replicate k 0):=by
 unfold back;obtain⟨j,hj⟩: ∃ j,n-k=j+1:=⟨n-k-1,by omega⟩
 rw[hj,oP,List.append_assoc]; rfl
theorem MN{n v k:Nat}(_h:k<n):back n v (k+1)=oP (n-k-1) (v / 4^k / 4)++((0:Int)::List.replicate k 0):=by
 unfold back;rw[Nat.pow_succ,<- Nat.div_div_eq_div_mul,Nat.sub_add_eq,List.replicate_succ]
theorem Qb{n v k:Nat}(h:k<n)(h3:v / 4^k % 4≠3)(hv:v+1=(v / 4^k+1)*4^k):oP (n-k-1) (v / 4^k / 4)++((((v / 4^k % 4:Nat):Int)+1)::List.replicate k 0)=oP n (v+1):=by
 have e:oP n (v+1)=oP ((n-k-1+1)+k) ((v / 4^k+1)*4^k):=by rw[<- hv]; congr 1; omega
 rw[e,MJ,oP,List.append_assoc]
 congr 1
 ·congr 1; omega
 ·show _=(((v / 4^k+1) % 4:Nat):Int)::List.replicate k 0
  congr 1; omega
theorem MO{v k:Nat}(h3:v / 4^k % 4=3)(hv:v+1=(v / 4^k+1)*4^k):v+1=(v / 4^(k+1)+1)*4^(k+1):=by
 have e:v / 4^(k+1)=v / 4^k / 4:=by rw[Nat.pow_succ,<- Nat.div_div_eq_div_mul]
 rw[e,Nat.pow_succ,Nat.mul_comm (4^k) 4,<- Nat.mul_assoc]
 have:(v / 4^k / 4+1)*4=v / 4^k+1:=by omega
 rw[this]; exact hv
theorem YM{n v k:Nat}(h:k<n)(hlt:v<4^n)(h3:v / 4^k % 4≠3)(hv:v+1=(v / 4^k+1)*4^k):v+1<4^n:=by
 have e:4^n=4^(n-k-1)*4*4^k:=by
  rw[<- Nat.pow_succ,<- Nat.pow_add]; congr 1; omega
 have h1:v / 4^k<4^(n-k-1)*4:=by
  rw[Nat.div_lt_iff_lt_mul (Nat.pow_pos (by decide))]; omega
 have h2:v / 4^k+1<4^(n-k-1)*4:=by omega
 rw[hv,e];exact Nat.mul_lt_mul_of_pos_right h2 (Nat.pow_pos (by decide))
theorem Vh{n v:Nat}(hlt:v<4^n)(hv:v+1=(v / 4^n+1)*4^n):v+1=4^n:=by
 rw[Nat.div_eq_of_lt hlt] at hv; omega
set_option maxHeartbeats 1000000 in
theorem S.iR(p:aH)(q:Prop')(n vals:Nat)(_hp:dG p)(hq:tJ q)(hn:p.states.length=n)(hn0:0<n)(hn6:n<=6)(hvs:max 1 p.values.length=vals)(YN:vals<=3)(hb:adF n q) :
  aj Tryz.prog 47 [.dat (.fK p),.dat (.prop q)] (.row 3 false (.elems (bW (wG q n vals (4^n))))):=by
 refine aj.of Bd.iR (by simp) rfl rfl ?_;conv=>whnf
 have hm:=EI (n:=p.states.length) (by omega);rw[hm];refine .mk (by omega) ?_;refine aC.nil 5 31 3 (by rfl) rfl rfl rfl ?_;refine aC.objs 4 [2,3] (fun v:Nat=>[(5,.own 2),(6,.own 3)]) (fun v=>[(0,.box 27 11 (.dat (.fK p))),(1,.box 68 7 (.dat (.prop q))),(2,dF (wG q n vals v)),(3,lX (oP n v))]) (fun v=>v<4^n) (fun v=>4^n-v) 0 [0,1,9,7] rfl (by decide) (fun _=>rfl) (Nat.pow_pos (by decide)) ?_ ?_ ?_
 ·exact(sR rfl)
 ·refine⟨iQ rfl rfl,iQ rfl rfl,iQ rfl rfl,⟨rfl,nofun,rfl,rfl,rfl,_,rfl,rfl,rfl,dQ.of_eq ?_⟩,trivial⟩;rw[YL,hn]
 refine⟨(sR rfl),rfl,?_⟩;rintro v hv;have hbn:=@Gv q n vals v;have hbl:=Jr (q:=q) (n:=n) (vals:=vals) (u:=v);have hbm:v*vals<=4096*3:=Nat.mul_le_mul (Nat.le_trans (Nat.le_of_lt hv) (Nat.pow_le_pow_right (by decide) (show n<=6 from hn6))) YN;refine ah.lend (S.mO q (oP n v) false hq (by rw[jm]; exact hb) abf (by rw[jm]; omega)) (And.intro (aI _) (And.intro (EH trivial rfl) trivial)) rfl rfl ?_;refine⟨fun h3=>?_,fun h3=>?_⟩
 ·have hat:AL q n vals v=(List.range vals).map (fun(w:Nat)=>⟨(w:Int),oP n v⟩):=by rw[AL,h3]; rfl
  refine aC.adg 4 [2,3,6,19] (fun w:Nat=>[(20,.int w),(5,.own 2)]) (fun w=>[(0,.box 27 11 (.dat (.fK p))),(1,.box 68 7 (.dat (.prop q))),(2,dF (wG q n vals v++(List.range w).map (fun(w:Nat)=>⟨(w:Int),oP n v⟩))),(3,lX (oP n v))]) (fun w=>w<=vals) (fun w=>vals-w) 0 [0,1,2,3] [(0,some (.box 27 11 (.dat (.fK p)))),(1,some (.box 68 7 (.dat (.prop q)))),(2,some (dF (wG q n vals v))),(3,some (lX (oP n v)))] rfl (by decide) (fun _=>rfl) (Nat.zero_le _) ?_ ?_ ?_ ?_
  ·exact(sR rfl)
  ·exact⟨fun _=>False,rH (Z:=fun _=>False) rfl (fun q=>q),rH (Z:=fun _=>False) rfl (fun q=>q),rH (Z:=fun _=>False) rfl (fun q=>q),rH (Z:=fun _=>False) rfl (fun q=>q),trivial⟩
  ·exact⟨vJ rfl rfl,vJ rfl rfl,okF rfl nofun rfl rfl rfl ⟨rfl,rfl⟩ (by simp),vJ rfl rfl,trivial⟩
  refine⟨(sR rfl),rfl,?_⟩;rintro w hw;have hcl:(wG q n vals v++(List.range w).map (fun(w:Nat)=>(⟨(w:Int),oP n v⟩:Elem))).length<=12288+3:=by simp; omega
  refine⟨fun h4=>?_,fun h4=>?_⟩
  ·have hw':w<vals:=by
    have:(w:Int)<max 1 (p.values.length:Int):=of_decide_eq_true h4
    omega
   repeat(refine VC.mk (by first|(first|(simp only[mJ,nP,Rw.len,List.length_cons,List.length_nil,jm]; omega)|(show((wG q n vals v++(List.range w).map (fun(w:Nat)=>(⟨(w:Int),oP n v⟩:Elem))).length+(0+1))*32<=140737488355328/\(wG q n vals v++(List.range w).map (fun(w:Nat)=>(⟨(w:Int),oP n v⟩:Elem))).length+(0+1)<=1152921504606846976; omega))|(simp only[okI] at *; first|omega|(simp_all; omega))) ?_)
   refine⟨[(0,some (.box 27 11 (.dat (.fK p)))),(1,some (.box 68 7 (.dat (.prop q)))),(13,some (dF ((wG q n vals v++(List.range w).map (fun(w:Nat)=>⟨(w:Int),oP n v⟩))++[⟨(w:Int),oP n v⟩]))),(3,some (lX (oP n v)))],w+1,[0,1,13,3],⟨fun i=>i=10,rH (Z:=fun i=>i=10) (i:=0) rfl (by decide),rH (Z:=fun i=>i=10) (i:=1) rfl (by decide),P8 (Z:=fun i=>i=10) (i:=13) (j:=10) rfl (by decide) rfl rfl,rH (Z:=fun i=>i=10) (i:=3) rfl (by decide),trivial⟩,by omega,by omega,(sR rfl),(sR rfl),vJ rfl rfl,vJ rfl rfl,okF rfl nofun rfl rfl rfl ⟨rfl,rfl⟩ ?_,vJ rfl rfl,trivial⟩;rw[List.range_succ,List.map_append,<- List.append_assoc]; rfl
  ·have hw':w=vals:=by
    have: ¬ (w:Int)<max 1 (p.values.length:Int):=of_decide_eq_false h4
    omega
   rw[hw',<- hat,<- hbn];refine .mk (by first|(simp only[okI,jm]; omega)|omega) ?_;refine aC.objs 4 [2,3] (fun k:Nat=>[(8,.int ((n:Int)-1-k)),(5,.own 2),(6,.own 3)]) (fun k=>[(0,.box 27 11 (.dat (.fK p))),(1,.box 68 7 (.dat (.prop q))),(2,dF (wG q n vals (v+1))),(3,lX (back n v k))]) (fun k=>k<=n/\v+1=(v / 4^k+1)*4^k) (fun k=>n-k) 0 [0,1,2,3] rfl (by decide) (fun _=>rfl) ⟨Nat.zero_le _,by simp⟩ ?_ ?_ ?_
   ·refine⟨⟨_,rfl,.eq ?_⟩,⟨_,rfl,.eq rfl⟩,⟨_,rfl,.eq rfl⟩,trivial⟩;show T.int ((n:Int)-1-((0:Nat):Int))=T.int (((oP n v).length:Int)-1);rw[jm]; exact congrArg T.int (by omega)
   ·refine⟨iQ rfl rfl,iQ rfl rfl,iQ rfl rfl,⟨rfl,nofun,rfl,rfl,rfl,_,rfl,rfl,rfl,dQ.of_eq ?_⟩,trivial⟩;rw[ML]
   refine⟨(sR rfl),rfl,?_⟩;rintro k ⟨hk,hvk⟩;have hbl:=Qa (v:=v) hk;have hcell:k<n->(back n v k).getD (n-1-k) 0=((v / 4^k % 4:Nat):Int):=fun hkn=>by
    rw[tN hkn]; exact get_at (by rw[jm]; omega)
   have hti:((n:Int)-1-k).toNat=n-1-k:=by omega
   repeat(refine VC.mk (by first|exact id|(intro h; (repeat' apply And.intro)<;>first|exact h|omega|(simp only[Rw.rJ]; omega)|(simp only[Rw.rng]; omega))|(simp only[Rw.rng] at *; first|omega|(simp_all; omega))) ?_)
   refine⟨fun h6=>?_,fun h6=>?_⟩
   ·rw[Bool.and_eq_true] at h6;have hkn:k<n:=by have:=of_decide_eq_true h6.1; omega
    have h3:v / 4^k % 4=3:=by
     have:=beq_iff_eq.1 h6.2;rw[hti,hcell hkn] at this; omega
    repeat(refine VC.mk (by first|(simp only[okI]; omega)|(simp only[Rw.rng,hbl]; omega)) ?_)
    refine⟨k+1,[0,1,2,3],⟨by omega,MO h3 hvk⟩,by omega,⟨⟨_,rfl,.eq ?_⟩,⟨_,rfl,.eq rfl⟩,⟨_,rfl,.eq rfl⟩,trivial⟩,(sR rfl),iQ rfl rfl,iQ rfl rfl,iQ rfl rfl,⟨rfl,nofun,rfl,rfl,rfl,_,rfl,rfl,rfl,dQ.of_eq ?_⟩,trivial⟩
    ·show T.int ((n:Int)-1-((k+1:Nat):Int))=T.int ((n:Int)-1-(k:Int)-1);exact congrArg T.int (by omega)
    ·rw[hti,MN hkn,tN hkn,uY (by rw[jm]; omega)]
   refine⟨fun h7=>?_,fun h7=>?_⟩
   ·have hkn:k=n:=by have:=of_decide_eq_true h7; omega
    subst hkn;rw[Vh hv hvk];refine ah.yO rfl rfl (by have:=Jr (q:=q) (n:=k) (vals:=vals) (u:=4^k); have h4:4^k*vals<=4096*3:=Nat.mul_le_mul (Nat.pow_le_pow_right (by decide) (show k<=6 from hn6)) YN; omega) (MK hn6) ?_ (fun m=>?_)
    ·conv=>whnf
     exact ak.adG rfl
    ·conv=>whnf
     exact ak.abg rfl
   ·have hkn:k<n:=by have:=of_decide_eq_false h7; omega
    have h3:v / 4^k % 4≠3:=by
     rw[Bool.and_eq_false_iff] at h6;rcases h6 with h6|h6
     ·have:=of_decide_eq_false h6; omega
     ·intro e
      have:((back n v k).getD ((n:Int)-1-k).toNat 0==3)=false:=h6
      rw[hti,hcell hkn,e] at this; exact absurd this (by decide)
    have hlt4:v / 4^k % 4<4:=Nat.mod_lt _ (by decide);have hc0:=hcell hkn;repeat(refine VC.mk (by first|(simp only[okI,hti,hc0]; omega)|(simp only[Rw.rng,hbl]; omega)) ?_)
    refine⟨v+1,[0,1,2,3],YM hkn hv h3 hvk,by omega,(sR rfl),(sR rfl),iQ rfl rfl,iQ rfl rfl,iQ rfl rfl,⟨rfl,nofun,rfl,rfl,rfl,_,rfl,rfl,rfl,dQ.of_eq ?_⟩,trivial⟩;rw[hti,hc0,<- Qb hkn h3 hvk,tN hkn,uY (by rw[jm]; omega)]
 ·have hat:wG q n vals v=wG q n vals (v+1):=by rw[Gv,AL,h3]; simp
  rw[hat];refine .mk (by first|(simp only[okI,jm]; omega)|omega) ?_;refine aC.objs 4 [2,3] (fun k:Nat=>[(8,.int ((n:Int)-1-k)),(5,.own 2),(6,.own 3)]) (fun k=>[(0,.box 27 11 (.dat (.fK p))),(1,.box 68 7 (.dat (.prop q))),(2,dF (wG q n vals (v+1))),(3,lX (back n v k))]) (fun k=>k<=n/\v+1=(v / 4^k+1)*4^k) (fun k=>n-k) 0 [0,1,2,3] rfl (by decide) (fun _=>rfl) ⟨Nat.zero_le _,by simp⟩ ?_ ?_ ?_
  ·refine⟨⟨_,rfl,.eq ?_⟩,⟨_,rfl,.eq rfl⟩,⟨_,rfl,.eq rfl⟩,trivial⟩;show T.int ((n:Int)-1-((0:Nat):Int))=T.int (((oP n v).length:Int)-1);rw[jm]; exact congrArg T.int (by omega)
  ·refine⟨iQ rfl rfl,iQ rfl rfl,iQ rfl rfl,⟨rfl,nofun,rfl,rfl,rfl,_,rfl,rfl,rfl,dQ.of_eq ?_⟩,trivial⟩;rw[ML]
  refine⟨(sR rfl),rfl,?_⟩;rintro k ⟨hk,hvk⟩;have hbl:=Qa (v:=v) hk;have hcell:k<n->(back n v k).getD (n-1-k) 0=((v / 4^k % 4:Nat):Int):=fun hkn=>by
   rw[tN hkn]; exact get_at (by rw[jm]; omega)
  have hti:((n:Int)-1-k).toNat=n-1-k:=by omega
  repeat(refine VC.mk (by first|exact id|(intro h; (repeat' apply And.intro)<;>first|exact h|omega|(simp only[Rw.rJ]; omega)|(simp only[Rw.rng]; omega))|(simp only[Rw.rng] at *; first|omega|(simp_all; omega))) ?_)
  refine⟨fun h6=>?_,fun h6=>?_⟩
  ·rw[Bool.and_eq_true] at h6;have hkn:k<n:=by have:=of_decide_eq_true h6.1; omega
   have h3:v / 4^k % 4=3:=by
    have:=beq_iff_eq.1 h6.2;rw[hti,hcell hkn] at this; omega
   repeat(refine VC.mk (by first|(simp only[okI]; omega)|(simp only[Rw.rng,hbl]; omega)) ?_)
   refine⟨k+1,[0,1,2,3],⟨by omega,MO h3 hvk⟩,by omega,⟨⟨_,rfl,.eq ?_⟩,⟨_,rfl,.eq rfl⟩,⟨_,rfl,.eq rfl⟩,trivial⟩,(sR rfl),iQ rfl rfl,iQ rfl rfl,iQ rfl rfl,⟨rfl,nofun,rfl,rfl,rfl,_,rfl,rfl,rfl,dQ.of_eq ?_⟩,trivial⟩
   ·show T.int ((n:Int)-1-((k+1:Nat):Int))=T.int ((n:Int)-1-(k:Int)-1);exact congrArg T.int (by omega)
   ·rw[hti,MN hkn,tN hkn,uY (by rw[jm]; omega)]
  refine⟨fun h7=>?_,fun h7=>?_⟩
  ·have hkn:k=n:=by have:=of_decide_eq_true h7; omega
   subst hkn;rw[Vh hv hvk];refine ah.yO rfl rfl (by have:=Jr (q:=q) (n:=k) (vals:=vals) (u:=4^k); have h4:4^k*vals<=4096*3:=Nat.mul_le_mul (Nat.pow_le_pow_right (by decide) (show k<=6 from hn6)) YN; omega) (MK hn6) ?_ (fun m=>?_)
   ·conv=>whnf
    exact ak.adG rfl
   ·conv=>whnf
    exact ak.abg rfl
  ·have hkn:k<n:=by have:=of_decide_eq_false h7; omega
   have h3:v / 4^k % 4≠3:=by
    rw[Bool.and_eq_false_iff] at h6;rcases h6 with h6|h6
    ·have:=of_decide_eq_false h6; omega
    ·intro e
     have:((back n v k).getD ((n:Int)-1-k).toNat 0==3)=false:=h6
     rw[hti,hcell hkn,e] at this; exact absurd this (by decide)
   have hlt4:v / 4^k % 4<4:=Nat.mod_lt _ (by decide);have hc0:=hcell hkn;repeat(refine VC.mk (by first|(simp only[okI,hti,hc0]; omega)|(simp only[Rw.rng,hbl]; omega)) ?_)
   refine⟨v+1,[0,1,2,3],YM hkn hv h3 hvk,by omega,(sR rfl),(sR rfl),iQ rfl rfl,iQ rfl rfl,iQ rfl rfl,⟨rfl,nofun,rfl,rfl,rfl,_,rfl,rfl,rfl,dQ.of_eq ?_⟩,trivial⟩;rw[hti,hc0,<- Qb hkn h3 hvk,tN hkn,uY (by rw[jm]; omega)]
def smB(q:Prop')(c:List Int):Bool:=DX q c&&(List.range c.length).all fun x=>c.getD x 0==0|| !(DX q (dH c x (-1)))
theorem Js{k:Nat}(hk:k<4): ∀ {m u:Nat},u<4^m->oP (m+1) (k*4^m+u)=(k:Int)::oP m u:=by
 intro m;induction m with
 |zero =>
  intro u hu;have h:u=0:=(by simpa using hu)
  subst h;simp only[oP,Nat.pow_zero,Nat.mul_one,Nat.add_zero,List.nil_append];rw[Nat.mod_eq_of_lt hk]
 |succ m ih =>
  intro u hu;rw[Nat.pow_succ] at hu;have e:k*4^(m+1)=k*4^m*4:=by rw[Nat.pow_succ,Nat.mul_assoc]
  rw[e,oP];rw[show(k*4^m*4+u) / 4=k*4^m+u / 4 by omega,show(k*4^m*4+u) % 4=u % 4 by omega,ih (show u / 4<4^m by omega),oP];rfl
def smA(q:Prop')(n:Nat)(w i:Nat):List Elem:=((List.range i).filter fun u=>smB q (oP n u)).map fun u=>⟨(w:Int),oP n u⟩
def yB(q:Prop')(n vals:Nat):List Elem:=(List.range vals).flatMap fun w=>smA q n w (4^n)
theorem abh{q:Prop'}{n w i:Nat}:(smA q n w i).length<=i:=by
 unfold smA;rw[List.length_map];have:=List.length_filter_le (fun u=>smB q (oP n u)) (List.range i);simpa using this
theorem Ib{q:Prop'}{n v:Nat}:yB q n (v+1)=yB q n v++smA q n v (4^n):=by
 unfold yB;rw[List.range_succ,List.flatMap_append]; simp
theorem TI{q:Prop'}{n v:Nat}:(yB q n v).length<=v*4^n:=by
 induction v with
 |zero=>simp[yB]
 |succ v ih =>
  rw[Ib,List.length_append,Nat.succ_mul];have:=@abh q n v (4^n); omega
theorem WC{a b:List Int}(h:pJ a b=true)(hne:a≠b): ∃ x,x<b.length/\a.getD x 0<b.getD x 0:=by
 refine Classical.byContradiction fun hc=>hne ?_
 obtain⟨h1,h2⟩:=rG.1 h;refine List.ext_getElem h1 fun i hi hj=>?_
 have e1:=h2 i hi;have e2: ¬ a.getD i 0<b.getD i 0:=fun q=>hc ⟨i,hj,q⟩
 rw[show a.getD i 0=a[i] by simp[hi],show b.getD i 0=b[i] by simp[hj]] at e1 e2;omega
theorem YO{q:Prop'}{a b:List Int}(h:pJ a b=true)(hd:DX q a=true):DX q b=true:=by
 unfold DX at hd ⊢;rw[List.all_eq_true] at hd ⊢;intro k hk;have:=of_decide_eq_true (hd k hk);refine decide_eq_true (Int.le_trans this ?_);unfold Gu;generalize k.states=st;induction st with
 |nil=>exact Int.le_refl _
 |cons x r ih =>
  simp only[List.map_cons,List.sum_cons];have:=P7 h x.toNat;omega
theorem WE{a b:List Int}{x:Nat}(h:pJ a b=true)(hx:a.getD x 0<b.getD x 0):pJ a (dH b x (-1))=true:=by
 obtain⟨h1,h2⟩:=rG.1 h;refine rG.2 ⟨by rw[MH,h1],fun i hi=>?_⟩;rw[Gt];split
 ·rename_i hc
  have:i=x:=by have:=hc.1; simpa using this
  subst this; omega
 ·exact h2 i hi
theorem WG{b:List Int}{x:Nat}:pJ (dH b x (-1)) b=true:=by
 refine rG.2 ⟨MH,fun i hi=>?_⟩;rw[Gt];split<;>omega
theorem abj{n:Nat}: ∀ {c:List Int},c.length=n->(∀ x∈c,0<=x/\x<=3)-> ∃ u,u<4^n/\oP n u=c:=by
 induction n with
 |zero=>intro c h _; exact⟨0,by decide,by rw[List.eq_nil_of_length_eq_zero h]; rfl⟩
 |succ n ih =>
  intro c h hc;cases c with
  |nil=>simp at h
  |cons k c =>
   simp only[List.length_cons] at h;obtain⟨u,h1,h2⟩:=ih (c:=c) (by omega) fun x hx=>hc x (by simp[hx])
   have hk:=hc k (by simp);obtain⟨j,rfl⟩: ∃ j:Nat,k=j:=⟨k.toNat,by omega⟩
   refine⟨j*4^n+u,?_,?_⟩
   ·rw[Nat.pow_succ]
    have:j*4^n<=3*4^n:=Nat.mul_le_mul_right _ (by omega)
    omega
   ·rw[Js (by omega) h1,h2]
theorem adH: ∀ {n u v:Nat},u<v->v<4^n->cmpL (oP n u) (oP n v)<0:=by
 intro n;induction n with
 |zero=>intro u v h1 h2; simp at h2; omega
 |succ n ih =>
  intro u v h1 h2;have hp:0<4^n:=Nat.pow_pos (by decide);rw[Nat.pow_succ] at h2;have eu:u=u / 4^n*4^n+u % 4^n:=(Nat.div_add_mod' u (4^n)).symm;have ev:v=v / 4^n*4^n+v % 4^n:=(Nat.div_add_mod' v (4^n)).symm;have lv:v / 4^n<4:=(Nat.div_lt_iff_lt_mul hp).2 (by omega);have le:u / 4^n<=v / 4^n:=Nat.div_le_div_right (by omega);have d1:oP (n+1) u=((u / 4^n:Nat):Int)::oP n (u % 4^n):=by
   conv=>lhs; rw[eu]
   exact Js (by omega) (Nat.mod_lt _ hp)
  have d2:oP (n+1) v=((v / 4^n:Nat):Int)::oP n (v % 4^n):=by
   conv=>lhs; rw[ev]
   exact Js lv (Nat.mod_lt _ hp)
  rw[d1,d2];simp only[cmpL];by_cases e:u / 4^n=v / 4^n
  ·rw[if_neg (by omega),if_neg (by omega)];refine ih ?_ (Nat.mod_lt _ hp);rw[e] at eu; omega
  ·rw[if_pos (by omega)]; decide
theorem WH{q:Prop'}{n vals:Nat}:SS (yB q n vals):=by
 induction vals with
 |zero=>simp[yB,SS]
 |succ v ih =>
  rw[Ib];simp only[SS,List.pairwise_append];refine⟨ih,?_,fun x hx y hy=>?_⟩
  ·unfold smA;rw[List.pairwise_map];refine List.Pairwise.filter _ ?_;refine List.Pairwise.imp_of_mem (R:=fun a b=>a<b) (fun {a b} ha hb h=>?_) List.pairwise_lt_range;show jY ⟨(v:Int),oP n a⟩ ⟨(v:Int),oP n b⟩<0;simp only[jY];rw[if_neg (by omega),if_neg (by omega)];exact adH h (List.mem_range.1 hb)
  ·obtain⟨w,h1,h2⟩:=List.mem_flatMap.1 hx;obtain⟨u,_,rfl⟩:=List.mem_map.1 h2;obtain⟨u',_,rfl⟩:=List.mem_map.1 hy;have:=List.mem_range.1 h1;simp only[jY];rw[if_pos (by omega)]; decide
theorem Jt{q:Prop'}{n vals:Nat}{e:Elem}:e∈wG q n vals (4^n)↔ ∃ u w,u<4^n/\w<vals/\DX q (oP n u)=true/\e=⟨((w:Nat):Int),oP n u⟩:=by
 unfold wG;rw[List.mem_flatMap];constructor
 ·rintro⟨u,h1,h2⟩;unfold AL at h2;cases hd:DX q (oP n u) with
  |false=>rw[hd] at h2; cases h2
  |true =>
   rw[hd] at h2;obtain⟨w,h3,rfl⟩:=List.mem_map.1 h2;exact⟨u,w,List.mem_range.1 h1,List.mem_range.1 h3,hd,rfl⟩
 ·rintro⟨u,w,h1,h2,h3,rfl⟩;refine⟨u,List.mem_range.2 h1,?_⟩;unfold AL;rw[h3];exact List.mem_map.2 ⟨w,List.mem_range.2 h2,rfl⟩
theorem Vj{q:Prop'}{c:List Int}(hc: ∀ x∈c,0<=x):smB q c=true↔DX q c=true/\ ∀ a,(∀ x∈a,0<=x)->pJ a c=true->a≠c->DX q a=false:=by
 have gz: ∀ {l:List Int},(∀ x∈l,0<=x)-> ∀ i,0<=l.getD i 0:=fun {l} h i=>by
  by_cases hi:i<l.length
  ·rw[show l.getD i 0=l[i] by simp[hi]]; exact h _ (List.getElem_mem hi)
  ·rw[show l.getD i 0=0 by simp[List.getD_eq_getElem?_getD,List.getElem?_eq_none (by omega:l.length<=i)]]; omega
 unfold smB;rw[Bool.and_eq_true,List.all_eq_true];constructor
 ·rintro⟨h1,h2⟩;refine⟨h1,fun a ha hl hne=>?_⟩;obtain⟨x,hx,hlt⟩:=WC hl hne;have h3:=h2 x (List.mem_range.2 hx);have h4:c.getD x 0≠0:=by have:=gz ha x; omega
  rw[show(c.getD x 0==0)=false by simpa using h4,Bool.false_or,Bool.not_eq_true'] at h3;cases hd:DX q a with
  |false=>rfl
  |true=>rw[YO (WE hl hlt) hd] at h3; cases h3
 ·rintro⟨h1,h2⟩;refine⟨h1,fun x hx=>?_⟩;have hx':=List.mem_range.1 hx;by_cases h0:c.getD x 0=0
  ·rw[show(c.getD x 0==0)=true by simpa using h0]; rfl
  ·have h3:=h2 (dH c x (-1)) (fun y hy=>by
    rcases List.mem_or_eq_of_mem_set hy with hy|rfl
    ·exact hc y hy
    ·have:=gz hc x; simp only[Int.toNat_natCast]; omega) WG (fun e=>by
    have:(dH c x (-1)).getD x 0=c.getD x 0:=by rw[e]
    rw[Gt,if_pos ⟨by simp,hx'⟩] at this; omega)
   rw[h3]; simp
theorem bad_law{q:Prop'}{n vals:Nat}:bW (wG q n vals (4^n))=yB q n vals:=by
 have nn: ∀ {u:Nat},∀ x∈oP n u,0<=x:=fun {u} x hx=>(EO x hx).1
 refine MP (rM _).1 WH fun e=>?_
 rw[(rM _).2,Jt];constructor
 ·rintro⟨⟨u,w,h1,h2,h3,rfl⟩,h4⟩;refine List.mem_flatMap.2 ⟨w,List.mem_range.2 h2,List.mem_map.2 ⟨u,List.mem_filter.2 ⟨List.mem_range.2 h1,?_⟩,rfl⟩⟩;refine(Vj nn).2 ⟨h3,fun a ha hl hne=>?_⟩;cases hd:DX q a with
  |false=>rfl
  |true =>
   exfalso;have hal:a.length=n:=by rw[(rG.1 hl).1,jm]
   obtain⟨u',g1,rfl⟩:=abj hal fun x hx=>by
    refine⟨ha x hx,?_⟩;obtain⟨i,hi,rfl⟩:=List.mem_iff_getElem.1 hx;have e1:=P7 hl i;rw[show a.getD i 0=a[i] by simp[hi]] at e1;have hi2:i<(oP n u).length:=by rw[jm]; omega
    rw[show(oP n u).getD i 0=(oP n u)[i] by simp[hi2]] at e1;have:=EO _ (List.getElem_mem hi2);omega
   rw[List.any_eq_false] at h4;refine h4 ⟨(w:Int),oP n u'⟩ (Jt.2 ⟨u',w,g1,h2,hd,rfl⟩) (yP.2 ⟨?_,fun e=>hne (congrArg Elem.counts e)⟩);simp only[tV,BEq.rfl,Bool.true_and]; exact hl
 ·intro h;obtain⟨w,h1,h2⟩:=List.mem_flatMap.1 h;obtain⟨u,h3,rfl⟩:=List.mem_map.1 h2;obtain⟨h4,h5⟩:=List.mem_filter.1 h3;obtain⟨s1,s2⟩:=(Vj nn).1 h5;refine⟨⟨u,w,List.mem_range.1 h4,List.mem_range.1 h1,s1,rfl⟩,?_⟩;rw[List.any_eq_false];intro y hy hab;obtain⟨u',w',g1,g2,g3,rfl⟩:=Jt.1 hy;obtain⟨hl,hne⟩:=yP.1 hab;simp only[tV,Bool.and_eq_true,beq_iff_eq] at hl;have:=s2 (oP n u') nn hl.2 (fun e=>hne (by rw[hl.1,e]));rw[g3] at this; cases this
def kS(p:aH)(q:Prop'):List Elem:=bif fP p q !=0 then [] else yB q p.states.length (max 1 p.values.length)
theorem Ic(p:aH)(q:Prop')(_hp:dG p):(kS p q).length<2^30/\eH (kS p q):=by
 unfold kS;cases h1:(fP p q !=0) with
 |true=>exact⟨by show([]:List Elem).length<_; decide,fun x hx=>by cases hx⟩
 |false =>
  obtain⟨b1,b2,b3,b4⟩:=Og (AA h1);have hv:=DT b3;have v2:=hv.states; have v3:=hv.values;have h46:4^p.states.length<=4^6:=Nat.pow_le_pow_right (by decide) v2;have h47:(4:Nat)^6=4096:=by decide
  have h1:=TI (q:=q) (n:=p.states.length) (v:=max 1 p.values.length);have h2:max 1 p.values.length*4^p.states.length<=3*4096:=Nat.mul_le_mul (by omega) (by omega);refine⟨by show(yB _ _ _).length<_; omega,fun x hx=>?_⟩;obtain⟨w,_,h3⟩:=List.mem_flatMap.1 hx;obtain⟨u,_,rfl⟩:=List.mem_map.1 h3;show(oP _ _).length<_;rw[jm]; omega
end Go.Proofs.YtdhobgbagphngaaGreatDoor
