/-
 A part of the proof. No condition.
-/
import Derived.Test.YtdloaandiobgdaaGreatDoorFa
import Derived.Test.YtdloaandiobgdaaGreatDoorHb
import Derived.Test.YtdloaandiobgdaaGreatDoorLg
namespace Go.Proofs.YtdloaandiobgdaaGreatDoor
open Go.Ab Go.Proofs
set_option maxRecDepth 100000
def wP(st c:List Int):Int:=(st.map fun x=>c.getD x.toNat 0).sum
def yA(q:Prop')(c:List Int):Bool:=q.bad.all fun k=>decide (k.least<=wP k.states c)
structure X7(n:Nat)(q:Prop'):Prop where
 place: ∀ k∈q.bad,vX n k.states
 least: ∀ k∈q.bad,1<=k.least/\k.least<=3
 some: ∀ k∈q.bad,k.states≠[]
def few(c:List Int):Prop:= ∀ x∈c,0<=x/\x<=4
theorem few.get{c:List Int}(h:few c)(i:Nat):0<=c.getD i 0/\c.getD i 0<=4:=by
 by_cases hi:i<c.length
 ·rw[show c.getD i 0=c[i] by simp[hi]]; exact h _ (bh hi)
 ·rw[show c.getD i 0=0 by simp[List.getD_eq_getElem?_getD,List.getElem?_eq_none (by omega:c.length<=i)]]; omega
theorem Ro{st c:List Int}{i:Nat}(hi:i<st.length):wP (st.take (i+1)) c=wP (st.take i) c+c.getD (st.getD i 0).toNat 0:=by
 unfold wP;rw[cQ,cP,List.sum_append]; simp[hi]
theorem adC{st c:List Int}(h:few c):0<=wP st c/\wP st c<=4*st.length:=by
 unfold wP;induction st with
 |nil=>simp
 |cons x r ih =>
  have:=h.get x.toNat;simp only[bl,eJ,bX]; omega
theorem getD_mem{α:Type}{l:List α}{i:Nat}{d:α}(hi:i<l.length):l.getD i d∈l:=by
 rw[show l.getD i d=l[i] by simp[hi]]; exact bh hi
theorem S.lG(q:Prop')(c:List Int)(f:Bool)(hq:lg q)(hb:X7 c.length q)(hc:few c)(_hl:c.length<2^30):ak Tryz.prog 28 [.dat (.prop q),.row 0 f (.ints c)] (.bool (yA q c)):=by
 have q2:=hq.bad;refine ak.of Bd.lG (by simp) rfl rfl ?_;refine aG.same [1,11,12] (fun i:Nat=>[(13,.int i)]) (fun i=>i<=q.bad.length/\(q.bad.take i).all (fun k=>decide (k.least<=wP k.states c))=true) (fun i=>q.bad.length-i) 0 rfl (by decide) rfl (fun _=>rfl) ⟨by omega,by simp⟩ ⟨⟨_,rfl,rfl⟩,trivial⟩ ?_;refine⟨rfl,?_⟩;rintro i ⟨hi,hall⟩;refine⟨fun h3=>?_,fun h3=>?_⟩
 ·have hi':i<q.bad.length:=by simpa using h3
  have hk:=getD_mem (d:=default) hi';have hpl:=hb.place _ hk;have hsz:=hq.cnt i;refine .mk (by simp only[Rw.rng] at *; omega) ?_;refine aG.same [1,6,11,12,13,18,19] (fun j:Nat=>[(20,.int j),(7,.int (wP ((q.bad.getD i default).states.take j) c))]) (fun j=>j<=(q.bad.getD i default).states.length) (fun j=>(q.bad.getD i default).states.length-j) 0 rfl (by decide) rfl (fun _=>rfl) (ao _) ⟨⟨_,rfl,rfl⟩,⟨_,rfl,rfl⟩,trivial⟩ ?_;refine⟨rfl,?_⟩;rintro j hj;have hs1:=adC (st:=(q.bad.getD i default).states.take j) hc;have hl1:((q.bad.getD i default).states.take j).length<=(q.bad.getD i default).states.length:=by rw[bR]; omega
  refine⟨fun h4=>?_,fun h4=>?_⟩
  ·have hj':j<(q.bad.getD i default).states.length:=by simpa using h4
   have hst:=Ro (c:=c) hj';have hg:=hc.get ((q.bad.getD i default).states.getD j 0).toNat;obtain⟨p1,p2⟩:=hpl _ (getD_mem (d:=0) hj');repeat(refine VC.mk (by first|(simp only[Rw.rng,bN]; omega)|(simp only[okI,bN] at *; omega)) ?_)
   refine⟨j+1,by omega,by omega,⟨⟨_,rfl,rfl⟩,⟨_,rfl,?_⟩,trivial⟩,?_,rfl⟩
   ·rw[hst]; rfl
   ·repeat' (first|exact trivial|exact⟨_,rfl,rfl⟩|constructor)
  ·have hj':(q.bad.getD i default).states.length<=j:=by simpa using h4
   rw[bm hj'];refine⟨fun h5=>?_,fun h5=>?_⟩
   ·conv=>whnf
    refine ay.bool ?_
    have: ¬ (q.bad.getD i default).least<=wP (q.bad.getD i default).states c:=by
     simp only[bN] at h5;have:=ag h5; omega
    exact Hr (p:=fun k=>decide (k.least<=wP k.states c)) (d:=default) hi' (cB this)
   ·conv=>whnf
    refine .mk (by simp only[okI] at *; omega) ?_;conv=>whnf
    have:(q.bad.getD i default).least<=wP (q.bad.getD i default).states c:=by
     simp only[bN] at h5;have:=aM h5; omega
    refine⟨i+1,⟨by omega,?_⟩,by omega,⟨⟨_,rfl,rfl⟩,trivial⟩,?_,rfl⟩
    ·rw[KD (d:=default) hi' hall]; exact cI this
    ·repeat' (first|exact trivial|exact⟨_,rfl,rfl⟩|constructor)
 ·have hi':q.bad.length<=i:=by simpa using h3
  rw[bm hi'] at hall;exact ay.bool hall
theorem Bg{p:aF}{q:Prop'}(h:fB p q=0):q.kind=1/\X7 p.states.length q/\bV p=0/\(kS p).cover=true:=by
 have hp:=rE h;have hv:=rJ hp;have hc:=h;unfold fB at hc;obtain⟨_,hc⟩:=bz nz hc;have hc':=KA hc (by decide);rw[bk,dg] at hc';have hk:q.kind=1:=by simpa using hc'.2
 unfold gW at hp;obtain⟨_,hp⟩:=bz nz hp;obtain⟨_,hp⟩:=bz (fun _=>by decide) hp;obtain⟨_,hp⟩:=bz (fun _=>by decide) hp;obtain⟨_,hp⟩:=bz (fun _=>by decide) hp;obtain⟨_,hp⟩:=bz nz hp;obtain⟨_,hp⟩:=bz (fun _=>by decide) hp;rw[show(!(q.kind==1))=false by simp[hk]] at hp;have hcn:=jX hp (yI q.bad p.states.length) (by simp);have hall: ∀ k∈q.bad,Qu p.states.length k=0:=fun k hk=>jX hcn _ (ax.2 ⟨k,hk,rfl⟩)
 have hlb: ∀ k∈q.bad,tY k=false:=fun k hk=>KA (jX (hall k hk) (fA (tY k) 1) (by simp)) (by decide)
 refine⟨hk,⟨fun k hk=>BN (jX (hall k hk) (jP k.states p.states.length) (by simp)),fun k hk=>?_,fun k hk e=>?_⟩,hv,hc'.1⟩
 ·have:=hlb k hk;simp only[tY,bk,bA] at this; omega
 ·have:=hlb k hk;rw[tY,e] at this; simp at this
def sH:Nat->Nat->List Int
 |0,_=>[]
 |n+1,v=>sH n (v / 4)++[((v % 4:Nat):Int)]
theorem lY: ∀ {n v:Nat},(sH n v).length=n:=by
 intro n;induction n with
 |zero=>intro v; rfl
 |succ n ih=>intro v; simp[sH,ih]
theorem Jb: ∀ {n v:Nat},∀ x∈sH n v,0<=x/\x<=3:=by
 intro n;induction n with
 |zero=>intro v x h; cases h
 |succ n ih =>
  intro v x h;rcases ci.1 h with h|h
  ·exact ih x h
  ·rw[br] at h; subst h; omega
theorem agW{n v:Nat}:few (sH n v):=fun x h=>by have:=Jb x h; omega
theorem Rq{n u:Nat}: ∀ {k:Nat},sH (n+k) (u*4^k)=sH n u++List.replicate k 0:=by
 intro k;induction k with
 |zero=>simp
 |succ k ih =>
  rw[<- gt];simp only[sH];rw[fk,<- Nat.mul_assoc,Nat.mul_div_cancel _ (by decide:0<4),ih,Nat.mul_mod_left,bO,List.replicate_succ'];rfl
theorem adD{n:Nat}:sH n 0=List.replicate n 0:=by
 have:=@Rq 0 0 n;simpa [sH] using this
def EH(q:Prop')(n vals v:Nat):List Elem:=bif yA q (sH n v) then(List.range vals).map (fun(w:Nat)=>⟨(w:Int),sH n v⟩) else []
def yB(q:Prop')(n vals u:Nat):List Elem:=(List.range u).flatMap (EH q n vals)
theorem KE{q:Prop'}{n vals u:Nat}:yB q n vals (u+1)=yB q n vals u++EH q n vals u:=by
 unfold yB;rw[cp,db]; simp
theorem Oc{q:Prop'}{n vals u:Nat}:(yB q n vals u).length<=u*vals:=by
 induction u with
 |zero=>simp[yB]
 |succ u ih =>
  rw[KE,aL,eM]
  have:(EH q n vals u).length<=vals:=by
   unfold EH;cases yA q (sH n u)<;>simp
  omega
theorem abg{q:Prop'}{n vals v:Nat}{e:Elem}(h:e∈EH q n vals v):e.counts=sH n v:=by
 unfold EH at h;cases hd:yA q (sH n v) with
 |false=>rw[hd] at h; cases h
 |true =>
  rw[hd] at h;obtain⟨w,_,rfl⟩:=ax.1 h;rfl
theorem Rt{q:Prop'}{n vals u:Nat}(hn:n<=6): ∀ e∈yB q n vals u,EI e:=by
 intro e h;obtain⟨v,_,h2⟩:=cX.1 h;rw[show e=⟨e.value,e.counts⟩ from rfl,abg h2];exact⟨by rw[lY]; exact hn,fun x hx=>by have:=Jb x hx; omega⟩
theorem ah.BP{h:Hz}{i n:Nat}{l:List Elem}{K:V->Hz->Prop}{KW:Nat->V->Hz->Prop}(hi:h.get i=some (dX l))(hn:h.get n=none)(hl:l.length<2^29)(hg: ∀ e∈l,EI e)
  (h1:K (.own n) ((n,some (dX (bG l)))::(i,none)::h)) (h2: ∀ m,K (.rG n 0 (bG l).length) ((n,some (.row 47 3 (.elems (bG l)) (List.replicate m zeroV)))::(i,none)::h)):ah Tryz.prog false none 29 [.own i] h n K KW:=by
 refine ah.ady (ts:=[.own 0]) (S.BP l 1 (by decide) hl hg) rfl rfl rfl rfl hi hn ?_;rintro t hp (⟨rfl,rfl⟩|⟨m,rfl,rfl⟩)
 ·exact .inr ⟨.own n,dX (bG l),rfl,rfl,rfl,h1⟩
 ·exact .inr ⟨.rG n 0 _,.row 47 3 (.elems (bG l)) (List.replicate m zeroV),rfl,I7 _ _,rfl,h2 m⟩
theorem anf{Z:Nat->Prop}{h:Hz}{j:Nat}{v:Int}{l:List Int}(hz:Z j)(q:h.get j=some (lq l)):T.sub Z h.aj (jK ⟨v,l⟩) (.agg [.int v,.own j]):=by
 have:=zl hz q;show T.sub Z h.aj (.agg [.int v,.sl 0 false (l.map T.int)]) (.agg [.int v,.own j]);replace this:T.sub Z h.aj (.sl 0 false (l.map T.int)) (.own j):=this;simp only[T.sub] at this;simp only[T.sub,T.dY];exact⟨trivial,this,trivial⟩
theorem Vm{Z:Nat->Prop}{h:Hz}{i j:Nat}{l:List Elem}{e:Elem}(q:h.get i=some (.row 47 3 (.elems l) [.agg [.int e.value,.own j]]))(hi: ¬ Z i)(hz:Z j)(qj:h.get j=some (lq e.counts)) :
  ∃ o',h.get i=some o'/\ ¬ Z i/\o'.au.ty=(dX (l++[e])).au.ty/\o'.au.k=(dX (l++[e])).au.k/\T.dY Z h.aj (dX (l++[e])).au.l o'.au.l/\(dX (l++[e])).au.l.map T.kd=o'.au.l.map T.kd/\(dX (l++[e])).au.l.map iw=o'.au.l.map iw:=by
 have e1:(dX (l++[e])).au.l=l.map jK++[jK e]:=by simp[OV.au,Rw.aS,V.aS]
 refine⟨_,q,hi,rfl,rfl,?_,?_,?_⟩
 ·rw[e1];exact EJ (dR _) ⟨anf hz qj,trivial⟩
 ·rw[e1]; show _=List.map T.kd (l.map jK++[.agg [.int e.value,.own j]]);rw[cP,cP]; rfl
 ·rw[e1]; show _=List.map iw (l.map jK++[.agg [.int e.value,.own j]]);rw[cP,cP]; rfl
def back(n v k:Nat):List Int:=sH (n-k) (v / 4^k)++List.replicate k 0
theorem Vo{n v k:Nat}(h:k<=n):(back n v k).length=n:=by simp[back,lY]; omega
theorem Ru{n v:Nat}:back n v 0=sH n v:=by simp[back]
theorem wV{n v k:Nat}(h:k<n):back n v k=sH (n-k-1) (v / 4^k / 4)++(((v / 4^k % 4:Nat):Int)::List.replicate k 0):=by
 unfold back;obtain⟨j,hj⟩: ∃ j,n-k=j+1:=⟨n-k-1,by omega⟩
 rw[hj,sH,bO]; rfl
theorem Rx{n v k:Nat}(_h:k<n):back n v (k+1)=sH (n-k-1) (v / 4^k / 4)++((0:Int)::List.replicate k 0):=by
 unfold back;rw[fk,<- Nat.div_div_eq_div_mul,Nat.sub_add_eq,du]
theorem Vp{n v k:Nat}(h:k<n)(h3:v / 4^k % 4≠3)(hv:v+1=(v / 4^k+1)*4^k):sH (n-k-1) (v / 4^k / 4)++((((v / 4^k % 4:Nat):Int)+1)::List.replicate k 0)=sH n (v+1):=by
 have e:sH n (v+1)=sH ((n-k-1+1)+k) ((v / 4^k+1)*4^k):=by rw[<- hv]; congr 1; omega
 rw[e,Rq,sH,bO]
 congr 1
 ·congr 1; omega
 ·show _=(((v / 4^k+1) % 4:Nat):Int)::List.replicate k 0
  congr 1; omega
theorem Ry{v k:Nat}(h3:v / 4^k % 4=3)(hv:v+1=(v / 4^k+1)*4^k):v+1=(v / 4^(k+1)+1)*4^(k+1):=by
 have e:v / 4^(k+1)=v / 4^k / 4:=by rw[fk,<- Nat.div_div_eq_div_mul]
 rw[e,fk,gm (4^k) 4,<- Nat.mul_assoc]
 have:(v / 4^k / 4+1)*4=v / 4^k+1:=by omega
 rw[this]; exact hv
theorem adE{n v k:Nat}(h:k<n)(hlt:v<4^n)(h3:v / 4^k % 4≠3)(hv:v+1=(v / 4^k+1)*4^k):v+1<4^n:=by
 have e:4^n=4^(n-k-1)*4*4^k:=by
  rw[<- fk,<- Nat.pow_add]; congr 1; omega
 have h1:v / 4^k<4^(n-k-1)*4:=by
  rw[Nat.div_lt_iff_lt_mul (Nat.pow_pos (by decide))]; omega
 have h2:v / 4^k+1<4^(n-k-1)*4:=by omega
 rw[hv,e];exact Nat.mul_lt_mul_of_pos_right h2 (Nat.pow_pos (by decide))
theorem ZF{n v:Nat}(hlt:v<4^n)(hv:v+1=(v / 4^n+1)*4^n):v+1=4^n:=by
 rw[Nat.div_eq_of_lt hlt] at hv; omega
set_option maxHeartbeats 1000000 in
theorem S.iL(p:aF)(q:Prop')(n vals:Nat)(_hp:dW p)(hq:lg q)(hn:p.states.length=n)(hn0:0<n)(hn6:n<=6)(hvs:max 1 p.values.length=vals)(adF:vals<=3)(hb:X7 n q) :
  ak Tryz.prog 12 [.dat (.fM p),.dat (.prop q)] (.row 3 false (.elems (bG (yB q n vals (4^n))))):=by
 refine ak.of Bd.iL (by simp) rfl rfl ?_;conv=>whnf
 have hm:=I4 (n:=p.states.length) (by omega);rw[hm];refine .mk (by omega) ?_;refine aG.nil 5 47 3 (by rfl) rfl rfl rfl ?_;refine aG.objs 4 [2,3] (fun v:Nat=>[(5,.own 2),(6,.own 3)]) (fun v=>[(0,.box 27 11 (.dat (.fM p))),(1,.box 30 7 (.dat (.prop q))),(2,dX (yB q n vals v)),(3,lq (sH n v))]) (fun v=>v<4^n) (fun v=>4^n-v) 0 [0,1,9,7] rfl (by decide) (fun _=>rfl) (Nat.pow_pos (by decide)) ?_ ?_ ?_
 ·exact(sR rfl)
 ·refine⟨mV rfl rfl,mV rfl rfl,mV rfl rfl,⟨rfl,nofun,rfl,rfl,rfl,_,rfl,rfl,rfl,dB.of_eq ?_⟩,trivial⟩;rw[adD,hn]
 refine⟨(sR rfl),rfl,?_⟩;rintro v hv;have hbn:=@KE q n vals v;have hbl:=Oc (q:=q) (n:=n) (vals:=vals) (u:=v);have hbm:v*vals<=4096*3:=ek (di (gn hv) (fy (by decide) (show n<=6 from hn6))) adF;refine ah.lend (S.lG q (sH n v) false hq (by rw[lY]; exact hb) agW (by rw[lY]; omega)) (And.intro (aH _) (And.intro (zl trivial rfl) trivial)) rfl rfl ?_;refine⟨fun h3=>?_,fun h3=>?_⟩
 ·have hat:EH q n vals v=(List.range vals).map (fun(w:Nat)=>⟨(w:Int),sH n v⟩):=by rw[EH,h3]; rfl
  refine aG.ZG 4 [2,3,6,19] (fun w:Nat=>[(20,.int w),(5,.own 2)]) (fun w=>[(0,.box 27 11 (.dat (.fM p))),(1,.box 30 7 (.dat (.prop q))),(2,dX (yB q n vals v++(List.range w).map (fun(w:Nat)=>⟨(w:Int),sH n v⟩))),(3,lq (sH n v))]) (fun w=>w<=vals) (fun w=>vals-w) 0 [0,1,2,3] [(0,some (.box 27 11 (.dat (.fM p)))),(1,some (.box 30 7 (.dat (.prop q)))),(2,some (dX (yB q n vals v))),(3,some (lq (sH n v)))] rfl (by decide) (fun _=>rfl) (ao _) ?_ ?_ ?_ ?_
  ·exact(sR rfl)
  ·exact⟨fun _=>False,jR (Z:=fun _=>False) rfl (fun q=>q),jR (Z:=fun _=>False) rfl (fun q=>q),jR (Z:=fun _=>False) rfl (fun q=>q),jR (Z:=fun _=>False) rfl (fun q=>q),trivial⟩
  ·exact⟨iD rfl rfl,iD rfl rfl,okF rfl nofun rfl rfl rfl ⟨rfl,rfl⟩ (by simp),iD rfl rfl,trivial⟩
  refine⟨(sR rfl),rfl,?_⟩;rintro w hw;have hcl:(yB q n vals v++(List.range w).map (fun(w:Nat)=>(⟨(w:Int),sH n v⟩:Elem))).length<=12288+3:=by simp; omega
  refine⟨fun h4=>?_,fun h4=>?_⟩
  ·have hw':w<vals:=by
    have:(w:Int)<max 1 (p.values.length:Int):=ag h4
    omega
   repeat(refine VC.mk (by first|(first|(simp only[kT,qX,Rw.len,bX,cC,lY]; omega)|(show((yB q n vals v++(List.range w).map (fun(w:Nat)=>(⟨(w:Int),sH n v⟩:Elem))).length+(0+1))*32<=140737488355328/\(yB q n vals v++(List.range w).map (fun(w:Nat)=>(⟨(w:Int),sH n v⟩:Elem))).length+(0+1)<=1152921504606846976; omega))|(simp only[okI] at *; first|omega|(simp_all; omega))) ?_)
   refine⟨[(0,some (.box 27 11 (.dat (.fM p)))),(1,some (.box 30 7 (.dat (.prop q)))),(13,some (dX ((yB q n vals v++(List.range w).map (fun(w:Nat)=>⟨(w:Int),sH n v⟩))++[⟨(w:Int),sH n v⟩]))),(3,some (lq (sH n v)))],w+1,[0,1,13,3],⟨fun i=>i=10,jR (Z:=fun i=>i=10) (i:=0) rfl (by decide),jR (Z:=fun i=>i=10) (i:=1) rfl (by decide),Vm (Z:=fun i=>i=10) (i:=13) (j:=10) rfl (by decide) rfl rfl,jR (Z:=fun i=>i=10) (i:=3) rfl (by decide),trivial⟩,by omega,by omega,(sR rfl),(sR rfl),iD rfl rfl,iD rfl rfl,okF rfl nofun rfl rfl rfl ⟨rfl,rfl⟩ ?_,iD rfl rfl,trivial⟩;rw[cp,cP,<- bO]; rfl
  ·have hw':w=vals:=by
    have: ¬ (w:Int)<max 1 (p.values.length:Int):=aM h4
    omega
   rw[hw',<- hat,<- hbn];refine .mk (by first|(simp only[okI,lY]; omega)|omega) ?_;refine aG.objs 4 [2,3] (fun k:Nat=>[(8,.int ((n:Int)-1-k)),(5,.own 2),(6,.own 3)]) (fun k=>[(0,.box 27 11 (.dat (.fM p))),(1,.box 30 7 (.dat (.prop q))),(2,dX (yB q n vals (v+1))),(3,lq (back n v k))]) (fun k=>k<=n/\v+1=(v / 4^k+1)*4^k) (fun k=>n-k) 0 [0,1,2,3] rfl (by decide) (fun _=>rfl) ⟨ao _,by simp⟩ ?_ ?_ ?_
   ·refine⟨⟨_,rfl,.eq ?_⟩,⟨_,rfl,.eq rfl⟩,⟨_,rfl,.eq rfl⟩,trivial⟩;show T.int ((n:Int)-1-((0:Nat):Int))=T.int (((sH n v).length:Int)-1);rw[lY]; exact dC T.int (by omega)
   ·refine⟨mV rfl rfl,mV rfl rfl,mV rfl rfl,⟨rfl,nofun,rfl,rfl,rfl,_,rfl,rfl,rfl,dB.of_eq ?_⟩,trivial⟩;rw[Ru]
   refine⟨(sR rfl),rfl,?_⟩;rintro k ⟨hk,hvk⟩;have hbl:=Vo (v:=v) hk;have hcell:k<n->(back n v k).getD (n-1-k) 0=((v / 4^k % 4:Nat):Int):=fun hkn=>by
    rw[wV hkn]; exact get_at (by rw[lY]; omega)
   have hti:((n:Int)-1-k).toNat=n-1-k:=by omega
   repeat(refine VC.mk (by first|exact id|(intro h; (repeat' apply And.intro)<;>first|exact h|omega|(simp only[Rw.vT]; omega)|(simp only[Rw.rng]; omega))|(simp only[Rw.rng] at *; first|omega|(simp_all; omega))) ?_)
   refine⟨fun h6=>?_,fun h6=>?_⟩
   ·rw[aD] at h6;have hkn:k<n:=by have:=ag h6.1; omega
    have h3:v / 4^k % 4=3:=by
     have:=bt.1 h6.2;rw[hti,hcell hkn] at this; omega
    repeat(refine VC.mk (by first|(simp only[okI]; omega)|(simp only[Rw.rng,hbl]; omega)) ?_)
    refine⟨k+1,[0,1,2,3],⟨by omega,Ry h3 hvk⟩,by omega,⟨⟨_,rfl,.eq ?_⟩,⟨_,rfl,.eq rfl⟩,⟨_,rfl,.eq rfl⟩,trivial⟩,(sR rfl),mV rfl rfl,mV rfl rfl,mV rfl rfl,⟨rfl,nofun,rfl,rfl,rfl,_,rfl,rfl,rfl,dB.of_eq ?_⟩,trivial⟩
    ·show T.int ((n:Int)-1-((k+1:Nat):Int))=T.int ((n:Int)-1-(k:Int)-1);exact dC T.int (by omega)
    ·rw[hti,Rx hkn,wV hkn,yC (by rw[lY]; omega)]
   refine⟨fun h7=>?_,fun h7=>?_⟩
   ·have hkn:k=n:=by have:=ag h7; omega
    subst hkn;rw[ZF hv hvk];refine ah.BP rfl rfl (by have:=Oc (q:=q) (n:=k) (vals:=vals) (u:=4^k); have h4:4^k*vals<=4096*3:=ek (fy (by decide) (show k<=6 from hn6)) adF; omega) (Rt hn6) ?_ (fun m=>?_)
    ·conv=>whnf
     exact ay.ajO rfl
    ·conv=>whnf
     exact ay.agX rfl
   ·have hkn:k<n:=by have:=aM h7; omega
    have h3:v / 4^k % 4≠3:=by
     rw[cH] at h6;rcases h6 with h6|h6
     ·have:=aM h6; omega
     ·intro e
      have:((back n v k).getD ((n:Int)-1-k).toNat 0==3)=false:=h6
      rw[hti,hcell hkn,e] at this; exact absurd this (by decide)
    have hlt4:v / 4^k % 4<4:=Nat.mod_lt _ (by decide);have hc0:=hcell hkn;repeat(refine VC.mk (by first|(simp only[okI,hti,hc0]; omega)|(simp only[Rw.rng,hbl]; omega)) ?_)
    refine⟨v+1,[0,1,2,3],adE hkn hv h3 hvk,by omega,(sR rfl),(sR rfl),mV rfl rfl,mV rfl rfl,mV rfl rfl,⟨rfl,nofun,rfl,rfl,rfl,_,rfl,rfl,rfl,dB.of_eq ?_⟩,trivial⟩;rw[hti,hc0,<- Vp hkn h3 hvk,wV hkn,yC (by rw[lY]; omega)]
 ·have hat:yB q n vals v=yB q n vals (v+1):=by rw[KE,EH,h3]; simp
  rw[hat];refine .mk (by first|(simp only[okI,lY]; omega)|omega) ?_;refine aG.objs 4 [2,3] (fun k:Nat=>[(8,.int ((n:Int)-1-k)),(5,.own 2),(6,.own 3)]) (fun k=>[(0,.box 27 11 (.dat (.fM p))),(1,.box 30 7 (.dat (.prop q))),(2,dX (yB q n vals (v+1))),(3,lq (back n v k))]) (fun k=>k<=n/\v+1=(v / 4^k+1)*4^k) (fun k=>n-k) 0 [0,1,2,3] rfl (by decide) (fun _=>rfl) ⟨ao _,by simp⟩ ?_ ?_ ?_
  ·refine⟨⟨_,rfl,.eq ?_⟩,⟨_,rfl,.eq rfl⟩,⟨_,rfl,.eq rfl⟩,trivial⟩;show T.int ((n:Int)-1-((0:Nat):Int))=T.int (((sH n v).length:Int)-1);rw[lY]; exact dC T.int (by omega)
  ·refine⟨mV rfl rfl,mV rfl rfl,mV rfl rfl,⟨rfl,nofun,rfl,rfl,rfl,_,rfl,rfl,rfl,dB.of_eq ?_⟩,trivial⟩;rw[Ru]
  refine⟨(sR rfl),rfl,?_⟩;rintro k ⟨hk,hvk⟩;have hbl:=Vo (v:=v) hk;have hcell:k<n->(back n v k).getD (n-1-k) 0=((v / 4^k % 4:Nat):Int):=fun hkn=>by
   rw[wV hkn]; exact get_at (by rw[lY]; omega)
  have hti:((n:Int)-1-k).toNat=n-1-k:=by omega
  repeat(refine VC.mk (by first|exact id|(intro h; (repeat' apply And.intro)<;>first|exact h|omega|(simp only[Rw.vT]; omega)|(simp only[Rw.rng]; omega))|(simp only[Rw.rng] at *; first|omega|(simp_all; omega))) ?_)
  refine⟨fun h6=>?_,fun h6=>?_⟩
  ·rw[aD] at h6;have hkn:k<n:=by have:=ag h6.1; omega
   have h3:v / 4^k % 4=3:=by
    have:=bt.1 h6.2;rw[hti,hcell hkn] at this; omega
   repeat(refine VC.mk (by first|(simp only[okI]; omega)|(simp only[Rw.rng,hbl]; omega)) ?_)
   refine⟨k+1,[0,1,2,3],⟨by omega,Ry h3 hvk⟩,by omega,⟨⟨_,rfl,.eq ?_⟩,⟨_,rfl,.eq rfl⟩,⟨_,rfl,.eq rfl⟩,trivial⟩,(sR rfl),mV rfl rfl,mV rfl rfl,mV rfl rfl,⟨rfl,nofun,rfl,rfl,rfl,_,rfl,rfl,rfl,dB.of_eq ?_⟩,trivial⟩
   ·show T.int ((n:Int)-1-((k+1:Nat):Int))=T.int ((n:Int)-1-(k:Int)-1);exact dC T.int (by omega)
   ·rw[hti,Rx hkn,wV hkn,yC (by rw[lY]; omega)]
  refine⟨fun h7=>?_,fun h7=>?_⟩
  ·have hkn:k=n:=by have:=ag h7; omega
   subst hkn;rw[ZF hv hvk];refine ah.BP rfl rfl (by have:=Oc (q:=q) (n:=k) (vals:=vals) (u:=4^k); have h4:4^k*vals<=4096*3:=ek (fy (by decide) (show k<=6 from hn6)) adF; omega) (Rt hn6) ?_ (fun m=>?_)
   ·conv=>whnf
    exact ay.ajO rfl
   ·conv=>whnf
    exact ay.agX rfl
  ·have hkn:k<n:=by have:=aM h7; omega
   have h3:v / 4^k % 4≠3:=by
    rw[cH] at h6;rcases h6 with h6|h6
    ·have:=aM h6; omega
    ·intro e
     have:((back n v k).getD ((n:Int)-1-k).toNat 0==3)=false:=h6
     rw[hti,hcell hkn,e] at this; exact absurd this (by decide)
   have hlt4:v / 4^k % 4<4:=Nat.mod_lt _ (by decide);have hc0:=hcell hkn;repeat(refine VC.mk (by first|(simp only[okI,hti,hc0]; omega)|(simp only[Rw.rng,hbl]; omega)) ?_)
   refine⟨v+1,[0,1,2,3],adE hkn hv h3 hvk,by omega,(sR rfl),(sR rfl),mV rfl rfl,mV rfl rfl,mV rfl rfl,⟨rfl,nofun,rfl,rfl,rfl,_,rfl,rfl,rfl,dB.of_eq ?_⟩,trivial⟩;rw[hti,hc0,<- Vp hkn h3 hvk,wV hkn,yC (by rw[lY]; omega)]
def smB(q:Prop')(c:List Int):Bool:=yA q c&&(List.range c.length).all fun x=>c.getD x 0==0|| !(yA q (aV c x (-1)))
abbrev wQ(l:List (List Int)):OV:=.row 24 0 (.eF l) []
theorem abh(l:List (List Int)):T.bn (l.map Go.Ab.ints)=true:=by
 rw[iO]; intro t ht; obtain⟨x,_,rfl⟩:=ax.1 ht; rfl
theorem adG{h:Hz}{j:Nat}{Z:Nat->Prop}{l:List (List Int)}(hz:Z j)(q:h.get j=some (wQ l)):T.sub Z h.aj (V.row 0 false (.eF l)).aI (V.own j).aI:=by
 show T.sub Z h.aj (.sl 0 false (l.map Go.Ab.ints)) (.own j);simp only[T.sub];refine⟨trivial,hz,abh l,by decide,24,?_⟩;have:=aK q; simpa [OV.au,Rw.aS,V.aS] using this
theorem ay.alD{h:Hz}{j:Nat}{l:List (List Int)}(q:h.get j=some (wQ l)):ay (.row 0 false (.eF l)) (.own j) h:=⟨adG trivial q⟩
theorem abj{Z:Nat->Prop}{h:Hz}{i j:Nat}{r:Rw}{l:List (List Int)}{c:List Int}(q:h.get i=some (.row 24 0 r [.own j]))(hr:r.aS=l.map Go.Ab.ints)(hi: ¬ Z i)(hz:Z j)(qj:h.get j=some (lq c)) :
  ∃ o',h.get i=some o'/\ ¬ Z i/\o'.au.ty=(wQ (l++[c])).au.ty/\o'.au.k=(wQ (l++[c])).au.k/\T.dY Z h.aj (wQ (l++[c])).au.l o'.au.l/\(wQ (l++[c])).au.l.map T.kd=o'.au.l.map T.kd/\(wQ (l++[c])).au.l.map iw=o'.au.l.map iw:=by
 have e1:(wQ (l++[c])).au.l=r.aS++[Go.Ab.ints c]:=by rw[hr]; simp[OV.au,Rw.aS,V.aS]
 refine⟨_,q,hi,rfl,rfl,?_,?_,?_⟩
 ·rw[e1];exact EJ (dR _) ⟨zl hz qj,trivial⟩
 ·rw[e1]; show _=List.map T.kd (r.aS++[.own j]);rw[cP,cP]; rfl
 ·rw[e1]; show _=List.map iw (r.aS++[.own j]);rw[cP,cP]; rfl
theorem Oe{k:Nat}(hk:k<4): ∀ {m u:Nat},u<4^m->sH (m+1) (k*4^m+u)=(k:Int)::sH m u:=by
 intro m;induction m with
 |zero =>
  intro u hu;have h:u=0:=(by simpa using hu)
  subst h;simp only[sH,Nat.pow_zero,Nat.mul_one,fo,fX];rw[Nat.mod_eq_of_lt hk]
 |succ m ih =>
  intro u hu;rw[fk] at hu;have e:k*4^(m+1)=k*4^m*4:=by rw[fk,Nat.mul_assoc]
  rw[e,sH];rw[show(k*4^m*4+u) / 4=k*4^m+u / 4 by omega,show(k*4^m*4+u) % 4=u % 4 by omega,ih (show u / 4<4^m by omega),sH];rfl
def smA(q:Prop')(n:Nat)(w i:Nat):List Elem:=((List.range i).filter fun u=>smB q (sH n u)).map fun u=>⟨(w:Int),sH n u⟩
def Bl(q:Prop')(n vals:Nat):List Elem:=(List.range vals).flatMap fun w=>smA q n w (4^n)
theorem agY{q:Prop'}{n w i:Nat}:(smA q n w i).length<=i:=by
 unfold smA;rw[bL];have:=fw (fun u=>smB q (sH n u)) (List.range i);simpa using this
theorem L6{q:Prop'}{n v:Nat}:Bl q n (v+1)=Bl q n v++smA q n v (4^n):=by
 unfold Bl;rw[cp,db]; simp
theorem X8{q:Prop'}{n v:Nat}:(Bl q n v).length<=v*4^n:=by
 induction v with
 |zero=>simp[Bl]
 |succ v ih =>
  rw[L6,aL,eM];have:=@agY q n v (4^n); omega
theorem abk{a b:List Int}(h:jL a b=true)(hne:a≠b): ∃ x,x<b.length/\a.getD x 0<b.getD x 0:=by
 refine Classical.byContradiction fun hc=>hne ?_
 obtain⟨h1,h2⟩:=lM.1 h;refine eW h1 fun i hi hj=>?_
 have e1:=h2 i hi;have e2: ¬ a.getD i 0<b.getD i 0:=fun q=>hc ⟨i,hj,q⟩
 rw[show a.getD i 0=a[i] by simp[hi],show b.getD i 0=b[i] by simp[hj]] at e1 e2;omega
theorem adH{q:Prop'}{a b:List Int}(h:jL a b=true)(hd:yA q a=true):yA q b=true:=by
 unfold yA at hd ⊢;rw[bj] at hd ⊢;intro k hk;have:=ag (hd k hk);refine cI (Int.le_trans this ?_);unfold wP;generalize k.states=st;induction st with
 |nil=>exact fp _
 |cons x r ih =>
  simp only[bl,eJ];have:=jA h x.toNat;omega
theorem abl{a b:List Int}{x:Nat}(h:jL a b=true)(hx:a.getD x 0<b.getD x 0):jL a (aV b x (-1))=true:=by
 obtain⟨h1,h2⟩:=lM.1 h;refine lM.2 ⟨by rw[BO,h1],fun i hi=>?_⟩;rw[qR];split
 ·rename_i hc
  have:i=x:=by have:=hc.1; simpa using this
  subst this; omega
 ·exact h2 i hi
theorem abm{b:List Int}{x:Nat}:jL (aV b x (-1)) b=true:=by
 refine lM.2 ⟨BO,fun i hi=>?_⟩;rw[qR];split<;>omega
theorem ZH{n:Nat}: ∀ {c:List Int},c.length=n->(∀ x∈c,0<=x/\x<=3)-> ∃ u,u<4^n/\sH n u=c:=by
 induction n with
 |zero=>intro c h _; exact⟨0,by decide,by rw[ai h]; rfl⟩
 |succ n ih =>
  intro c h hc;cases c with
  |nil=>simp at h
  |cons k c =>
   simp only[bX] at h;obtain⟨u,h1,h2⟩:=ih (c:=c) (by omega) fun x hx=>hc x (by simp[hx])
   have hk:=hc k (by simp);obtain⟨j,rfl⟩: ∃ j:Nat,k=j:=⟨k.toNat,by omega⟩
   refine⟨j*4^n+u,?_,?_⟩
   ·rw[fk]
    have:j*4^n<=3*4^n:=cr _ (by omega)
    omega
   ·rw[Oe (by omega) h1,h2]
theorem ajP: ∀ {n u v:Nat},u<v->v<4^n->cmpL (sH n u) (sH n v)<0:=by
 intro n;induction n with
 |zero=>intro u v h1 h2; simp at h2; omega
 |succ n ih =>
  intro u v h1 h2;have hp:0<4^n:=Nat.pow_pos (by decide);rw[fk] at h2;have eu:u=u / 4^n*4^n+u % 4^n:=(Nat.div_add_mod' u (4^n)).symm;have ev:v=v / 4^n*4^n+v % 4^n:=(Nat.div_add_mod' v (4^n)).symm;have lv:v / 4^n<4:=(Nat.div_lt_iff_lt_mul hp).2 (by omega);have le:u / 4^n<=v / 4^n:=Nat.div_le_div_right (by omega);have d1:sH (n+1) u=((u / 4^n:Nat):Int)::sH n (u % 4^n):=by
   conv=>lhs; rw[eu]
   exact Oe (by omega) (Nat.mod_lt _ hp)
  have d2:sH (n+1) v=((v / 4^n:Nat):Int)::sH n (v % 4^n):=by
   conv=>lhs; rw[ev]
   exact Oe lv (Nat.mod_lt _ hp)
  rw[d1,d2];simp only[cmpL];by_cases e:u / 4^n=v / 4^n
  ·rw[bB (by omega),bB (by omega)];refine ih ?_ (Nat.mod_lt _ hp);rw[e] at eu; omega
  ·rw[bc (by omega)]; decide
theorem abn{q:Prop'}{n vals:Nat}:SS (Bl q n vals):=by
 induction vals with
 |zero=>simp[Bl,SS]
 |succ v ih =>
  rw[L6];simp only[SS,fx];refine⟨ih,?_,fun x hx y hy=>?_⟩
  ·unfold smA;rw[List.pairwise_map];refine List.Pairwise.filter _ ?_;refine List.Pairwise.imp_of_mem (R:=fun a b=>a<b) (fun {a b} ha hb h=>?_) List.pairwise_lt_range;show oJ ⟨(v:Int),sH n a⟩ ⟨(v:Int),sH n b⟩<0;simp only[oJ];rw[bB (by omega),bB (by omega)];exact ajP h (cD.1 hb)
  ·obtain⟨w,h1,h2⟩:=cX.1 hx;obtain⟨u,_,rfl⟩:=ax.1 h2;obtain⟨u',_,rfl⟩:=ax.1 hy;have:=cD.1 h1;simp only[oJ];rw[bc (by omega)]; decide
theorem Jc{q:Prop'}{n vals:Nat}{e:Elem}:e∈yB q n vals (4^n)↔ ∃ u w,u<4^n/\w<vals/\yA q (sH n u)=true/\e=⟨((w:Nat):Int),sH n u⟩:=by
 unfold yB;rw[cX];constructor
 ·rintro⟨u,h1,h2⟩;unfold EH at h2;cases hd:yA q (sH n u) with
  |false=>rw[hd] at h2; cases h2
  |true =>
   rw[hd] at h2;obtain⟨w,h3,rfl⟩:=ax.1 h2;exact⟨u,w,cD.1 h1,cD.1 h3,hd,rfl⟩
 ·rintro⟨u,w,h1,h2,h3,rfl⟩;refine⟨u,cD.2 h1,?_⟩;unfold EH;rw[h3];exact ax.2 ⟨w,cD.2 h2,rfl⟩
theorem ZI{q:Prop'}{c:List Int}(hc: ∀ x∈c,0<=x):smB q c=true↔yA q c=true/\ ∀ a,(∀ x∈a,0<=x)->jL a c=true->a≠c->yA q a=false:=by
 have gz: ∀ {l:List Int},(∀ x∈l,0<=x)-> ∀ i,0<=l.getD i 0:=fun {l} h i=>by
  by_cases hi:i<l.length
  ·rw[show l.getD i 0=l[i] by simp[hi]]; exact h _ (bh hi)
  ·rw[show l.getD i 0=0 by simp[List.getD_eq_getElem?_getD,List.getElem?_eq_none (by omega:l.length<=i)]]; omega
 unfold smB;rw[aD,bj];constructor
 ·rintro⟨h1,h2⟩;refine⟨h1,fun a ha hl hne=>?_⟩;obtain⟨x,hx,hlt⟩:=abk hl hne;have h3:=h2 x (cD.2 hx);have h4:c.getD x 0≠0:=by have:=gz ha x; omega
  rw[show(c.getD x 0==0)=false by simpa using h4,cz,bq] at h3;cases hd:yA q a with
  |false=>rfl
  |true=>rw[adH (abl hl hlt) hd] at h3; cases h3
 ·rintro⟨h1,h2⟩;refine⟨h1,fun x hx=>?_⟩;have hx':=cD.1 hx;by_cases h0:c.getD x 0=0
  ·rw[show(c.getD x 0==0)=true by simpa using h0]; rfl
  ·have h3:=h2 (aV c x (-1)) (fun y hy=>by
    rcases List.mem_or_eq_of_mem_set hy with hy|rfl
    ·exact hc y hy
    ·have:=gz hc x; simp only[bN]; omega) abm (fun e=>by
    have:(aV c x (-1)).getD x 0=c.getD x 0:=by rw[e]
    rw[qR,bc ⟨by simp,hx'⟩] at this; omega)
   rw[h3]; simp
theorem bad_law{q:Prop'}{n vals:Nat}:bG (yB q n vals (4^n))=Bl q n vals:=by
 have nn: ∀ {u:Nat},∀ x∈sH n u,0<=x:=fun {u} x hx=>(Jb x hx).1
 refine KF (iY _).1 abn fun e=>?_
 rw[(iY _).2,Jc];constructor
 ·rintro⟨⟨u,w,h1,h2,h3,rfl⟩,h4⟩;refine cX.2 ⟨w,cD.2 h2,ax.2 ⟨u,eE.2 ⟨cD.2 h1,?_⟩,rfl⟩⟩;refine(ZI nn).2 ⟨h3,fun a ha hl hne=>?_⟩;cases hd:yA q a with
  |false=>rfl
  |true =>
   exfalso;have hal:a.length=n:=by rw[(lM.1 hl).1,lY]
   obtain⟨u',g1,rfl⟩:=ZH hal fun x hx=>by
    refine⟨ha x hx,?_⟩;obtain⟨i,hi,rfl⟩:=List.mem_iff_getElem.1 hx;have e1:=jA hl i;rw[show a.getD i 0=a[i] by simp[hi]] at e1;have hi2:i<(sH n u).length:=by rw[lY]; omega
    rw[show(sH n u).getD i 0=(sH n u)[i] by simp[hi2]] at e1;have:=Jb _ (bh hi2);omega
   rw[cq] at h4;refine h4 ⟨(w:Int),sH n u'⟩ (Jc.2 ⟨u',w,g1,h2,hd,rfl⟩) (BQ.2 ⟨?_,fun e=>hne (dC Elem.counts e)⟩);simp only[pO,BEq.rfl,cV]; exact hl
 ·intro h;obtain⟨w,h1,h2⟩:=cX.1 h;obtain⟨u,h3,rfl⟩:=ax.1 h2;obtain⟨h4,h5⟩:=eE.1 h3;obtain⟨s1,s2⟩:=(ZI nn).1 h5;refine⟨⟨u,w,cD.1 h4,cD.1 h1,s1,rfl⟩,?_⟩;rw[cq];intro y hy hab;obtain⟨u',w',g1,g2,g3,rfl⟩:=Jc.1 hy;obtain⟨hl,hne⟩:=BQ.1 hab;simp only[pO,aD,bt] at hl;have:=s2 (sH n u') nn hl.2 (fun e=>hne (by rw[hl.1,e]));rw[g3] at this; cases this
def mG(p:aF)(q:Prop'):List Elem:=bif fB p q !=0 then [] else Bl q p.states.length (max 1 p.values.length)
theorem L8(p:aF)(q:Prop')(_hp:dW p):(mG p q).length<2^30/\gI (mG p q):=by
 unfold mG;cases h1:(fB p q !=0) with
 |true=>exact⟨by show([]:List Elem).length<_; decide,fun x hx=>by cases hx⟩
 |false =>
  obtain⟨b1,b2,b3,b4⟩:=Bg (II h1);have hv:=Dv b3;have v2:=hv.states; have v3:=hv.values;have h46:4^p.states.length<=4^6:=fy (by decide) v2;have h47:(4:Nat)^6=4096:=by decide
  have h1:=X8 (q:=q) (n:=p.states.length) (v:=max 1 p.values.length);have h2:max 1 p.values.length*4^p.states.length<=3*4096:=ek (by omega) (by omega);refine⟨by show(Bl _ _ _).length<_; omega,fun x hx=>?_⟩;obtain⟨w,_,h3⟩:=cX.1 hx;obtain⟨u,_,rfl⟩:=ax.1 h3;show(sH _ _).length<_;rw[lY]; omega
end Go.Proofs.YtdloaandiobgdaaGreatDoor
