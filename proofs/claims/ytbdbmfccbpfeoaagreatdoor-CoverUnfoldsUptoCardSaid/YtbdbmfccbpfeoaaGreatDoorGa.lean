/-
 A part of the proof. No condition.
-/
import Derived.Test.YtbdbmfccbpfeoaaGreatDoorFa
import Derived.Test.YtbdbmfccbpfeoaaGreatDoorHb
import Derived.Test.YtbdbmfccbpfeoaaGreatDoorLg
namespace Go.Proofs.YtbdbmfccbpfeoaaGreatDoor
open Go.Ab Go.Proofs
set_option maxRecDepth 100000
def IB(st c:List Int):Int:=(st.map fun x=>c.getD x.toNat 0).sum
def Fz(q:Prop')(c:List Int):Bool:=q.bad.all fun k=>decide (k.least<=IB k.states c)
structure agt(n:Nat)(q:Prop'):Prop where
 place: ∀ k∈q.bad,xJ n k.states
 least: ∀ k∈q.bad,1<=k.least/\k.least<=3
 some: ∀ k∈q.bad,k.states≠[]
def few(c:List Int):Prop:= ∀ x∈c,0<=x/\x<=4
theorem few.get{c:List Int}(h:few c)(i:Nat):0<=c.getD i 0/\c.getD i 0<=4:=by
 by_cases hi:i<c.length
 ·rw[show c.getD i 0=c[i] by simp[hi]]; exact h _ (bR hi)
 ·rw[show c.getD i 0=0 by simp[List.getD_eq_getElem?_getD,List.getElem?_eq_none (by omega:c.length<=i)]]; omega
theorem YQ{st c:List Int}{i:Nat}(hi:i<st.length):IB (st.take (i+1)) c=IB (st.take i) c+c.getD (st.getD i 0).toNat 0:=by
 unfold IB;rw[cJ,cx,List.sum_append]; simp[hi]
theorem aaR{st c:List Int}(h:few c):0<=IB st c/\IB st c<=4*st.length:=by
 unfold IB;induction st with
 |nil=>simp
 |cons x r ih =>
  have:=h.get x.toNat;simp only[bp,fI,bN]; omega
theorem getD_mem{α:Type}{l:List α}{i:Nat}{d:α}(hi:i<l.length):l.getD i d∈l:=by
 rw[show l.getD i d=l[i] by simp[hi]]; exact bR hi
theorem S.mY(q:Prop')(c:List Int)(f:Bool)(hq:uN q)(hb:agt c.length q)(hc:few c)(_hl:c.length<2^30):aj Tryz.prog 83 [.dat (.prop q),.row 0 f (.ints c)] (.bool (Fz q c)):=by
 have q2:=hq.bad;refine aj.of Bd.mY (by simp) rfl rfl ?_;refine aF.same [1,11,12] (fun i:Nat=>[(13,.int i)]) (fun i=>i<=q.bad.length/\(q.bad.take i).all (fun k=>decide (k.least<=IB k.states c))=true) (fun i=>q.bad.length-i) 0 rfl (by decide) rfl (fun _=>rfl) ⟨by omega,by simp⟩ ⟨⟨_,rfl,rfl⟩,trivial⟩ ?_;refine⟨rfl,?_⟩;rintro i ⟨hi,hall⟩;refine⟨fun h3=>?_,fun h3=>?_⟩
 ·have hi':i<q.bad.length:=by simpa using h3
  have hk:=getD_mem (d:=default) hi';have hpl:=hb.place _ hk;have hsz:=hq.cnt i;refine .mk (by simp only[Rw.rng] at *; omega) ?_;refine aF.same [1,6,11,12,13,18,19] (fun j:Nat=>[(20,.int j),(7,.int (IB ((q.bad.getD i default).states.take j) c))]) (fun j=>j<=(q.bad.getD i default).states.length) (fun j=>(q.bad.getD i default).states.length-j) 0 rfl (by decide) rfl (fun _=>rfl) (ap _) ⟨⟨_,rfl,rfl⟩,⟨_,rfl,rfl⟩,trivial⟩ ?_;refine⟨rfl,?_⟩;rintro j hj;have hs1:=aaR (st:=(q.bad.getD i default).states.take j) hc;have hl1:((q.bad.getD i default).states.take j).length<=(q.bad.getD i default).states.length:=by rw[bL]; omega
  refine⟨fun h4=>?_,fun h4=>?_⟩
  ·have hj':j<(q.bad.getD i default).states.length:=by simpa using h4
   have hst:=YQ (c:=c) hj';have hg:=hc.get ((q.bad.getD i default).states.getD j 0).toNat;obtain⟨p1,p2⟩:=hpl _ (getD_mem (d:=0) hj');repeat(refine VC.mk (by first|(simp only[Rw.rng,be]; omega)|(simp only[okI,be] at *; omega)) ?_)
   refine⟨j+1,by omega,by omega,⟨⟨_,rfl,rfl⟩,⟨_,rfl,?_⟩,trivial⟩,?_,rfl⟩
   ·rw[hst]; rfl
   ·repeat' (first|exact trivial|exact⟨_,rfl,rfl⟩|constructor)
  ·have hj':(q.bad.getD i default).states.length<=j:=by simpa using h4
   rw[bk hj'];refine⟨fun h5=>?_,fun h5=>?_⟩
   ·conv=>whnf
    refine ak.bool ?_
    have: ¬ (q.bad.getD i default).least<=IB (q.bad.getD i default).states c:=by
     simp only[be] at h5;have:=aq h5; omega
    exact xY (p:=fun k=>decide (k.least<=IB k.states c)) (d:=default) hi' (cH this)
   ·conv=>whnf
    refine .mk (by simp only[okI] at *; omega) ?_;conv=>whnf
    have:(q.bad.getD i default).least<=IB (q.bad.getD i default).states c:=by
     simp only[be] at h5;have:=aR h5; omega
    refine⟨i+1,⟨by omega,?_⟩,by omega,⟨⟨_,rfl,rfl⟩,trivial⟩,?_,rfl⟩
    ·rw[zS (d:=default) hi' hall]; exact cY this
    ·repeat' (first|exact trivial|exact⟨_,rfl,rfl⟩|constructor)
 ·have hi':q.bad.length<=i:=by simpa using h3
  rw[bk hi'] at hall;exact ak.bool hall
theorem Qh{p:aB}{q:Prop'}(h:gq p q=0):q.kind=1/\agt p.states.length q/\aW p=0/\(iF p).cover=true:=by
 have hp:=Fv h;have hv:=KZ hp;have hc:=h;unfold gq at hc;obtain⟨_,hc⟩:=bz nz hc;have hc':=Iy hc (by decide);rw[bi,da] at hc';have hk:q.kind=1:=by simpa using hc'.2
 unfold rO at hp;obtain⟨_,hp⟩:=bz nz hp;obtain⟨_,hp⟩:=bz (fun _=>by decide) hp;obtain⟨_,hp⟩:=bz (fun _=>by decide) hp;obtain⟨_,hp⟩:=bz (fun _=>by decide) hp;obtain⟨_,hp⟩:=bz nz hp;obtain⟨_,hp⟩:=bz (fun _=>by decide) hp;rw[show(!(q.kind==1))=false by simp[hk]] at hp;have hcn:=jq hp (D9 q.bad p.states.length) (by simp);have hall: ∀ k∈q.bad,aaP p.states.length k=0:=fun k hk=>jq hcn _ (bA.2 ⟨k,hk,rfl⟩)
 have hlb: ∀ k∈q.bad,xX k=false:=fun k hk=>Iy (jq (hall k hk) (eF (xX k) 1) (by simp)) (by decide)
 refine⟨hk,⟨fun k hk=>D7 (jq (hall k hk) (jr k.states p.states.length) (by simp)),fun k hk=>?_,fun k hk e=>?_⟩,hv,hc'.1⟩
 ·have:=hlb k hk;simp only[xX,bi,ao] at this; omega
 ·have:=hlb k hk;rw[xX,e] at this; simp at this
def pG:Nat->Nat->List Int
 |0,_=>[]
 |n+1,v=>pG n (v / 4)++[((v % 4:Nat):Int)]
theorem jD: ∀ {n v:Nat},(pG n v).length=n:=by
 intro n;induction n with
 |zero=>intro v; rfl
 |succ n ih=>intro v; simp[pG,ih]
theorem Gy: ∀ {n v:Nat},∀ x∈pG n v,0<=x/\x<=3:=by
 intro n;induction n with
 |zero=>intro v x h; cases h
 |succ n ih =>
  intro v x h;rcases cN.1 h with h|h
  ·exact ih x h
  ·rw[bt] at h; subst h; omega
theorem adX{n v:Nat}:few (pG n v):=fun x h=>by have:=Gy x h; omega
theorem OM{n u:Nat}: ∀ {k:Nat},pG (n+k) (u*4^k)=pG n u++List.replicate k 0:=by
 intro k;induction k with
 |zero=>simp
 |succ k ih =>
  rw[<- gM];simp only[pG];rw[fw,<- Nat.mul_assoc,Nat.mul_div_cancel _ (by decide:0<4),ih,Nat.mul_mod_left,ax,List.replicate_succ'];rfl
theorem aaS{n:Nat}:pG n 0=List.replicate n 0:=by
 have:=@OM 0 0 n;simpa [pG] using this
def CQ(q:Prop')(n vals v:Nat):List Elem:=bif Fz q (pG n v) then(List.range vals).map (fun(w:Nat)=>⟨(w:Int),pG n v⟩) else []
def xZ(q:Prop')(n vals u:Nat):List Elem:=(List.range u).flatMap (CQ q n vals)
theorem IC{q:Prop'}{n vals u:Nat}:xZ q n vals (u+1)=xZ q n vals u++CQ q n vals u:=by
 unfold xZ;rw[ce,dc]; simp
theorem La{q:Prop'}{n vals u:Nat}:(xZ q n vals u).length<=u*vals:=by
 induction u with
 |zero=>simp[xZ]
 |succ u ih =>
  rw[IC,aL,eL]
  have:(CQ q n vals u).length<=vals:=by
   unfold CQ;cases Fz q (pG n u)<;>simp
  omega
theorem YR{q:Prop'}{n vals v:Nat}{e:Elem}(h:e∈CQ q n vals v):e.counts=pG n v:=by
 unfold CQ at h;cases hd:Fz q (pG n v) with
 |false=>rw[hd] at h; cases h
 |true =>
  rw[hd] at h;obtain⟨w,_,rfl⟩:=bA.1 h;rfl
theorem OO{q:Prop'}{n vals u:Nat}(hn:n<=6): ∀ e∈xZ q n vals u,CS e:=by
 intro e h;obtain⟨v,_,h2⟩:=ck.1 h;rw[show e=⟨e.value,e.counts⟩ from rfl,YR h2];exact⟨by rw[jD]; exact hn,fun x hx=>by have:=Gy x hx; omega⟩
theorem ah.zT{h:Hz}{i n:Nat}{l:List Elem}{K:V->Hz->Prop}{KW:Nat->V->Hz->Prop}(hi:h.get i=some (bT l))(hn:h.get n=none)(hl:l.length<2^29)(hg: ∀ e∈l,CS e)
  (h1:K (.own n) ((n,some (bT (cO l)))::(i,none)::h)) (h2: ∀ m,K (.oG n 0 (cO l).length) ((n,some (.row 40 3 (.elems (cO l)) (List.replicate m zeroV)))::(i,none)::h)):ah Tryz.prog false none 77 [.own i] h n K KW:=by
 refine ah.Vs (ts:=[.own 0]) (S.zT l 1 (by decide) hl hg) rfl rfl rfl rfl hi hn ?_;rintro t hp (⟨rfl,rfl⟩|⟨m,rfl,rfl⟩)
 ·exact .inr ⟨.own n,bT (cO l),rfl,rfl,rfl,h1⟩
 ·exact .inr ⟨.oG n 0 _,.row 40 3 (.elems (cO l)) (List.replicate m zeroV),rfl,Gt _ _,rfl,h2 m⟩
theorem ai6{Z:Nat->Prop}{h:Hz}{j:Nat}{v:Int}{l:List Int}(hz:Z j)(q:h.get j=some (jI l)):T.sub Z h.au (fG ⟨v,l⟩) (.agg [.int v,.own j]):=by
 have:=xK hz q;show T.sub Z h.au (.agg [.int v,.sl 0 false (l.map T.int)]) (.agg [.int v,.own j]);replace this:T.sub Z h.au (.sl 0 false (l.map T.int)) (.own j):=this;simp only[T.sub] at this;simp only[T.sub,T.dG];exact⟨trivial,this,trivial⟩
theorem RP{Z:Nat->Prop}{h:Hz}{i j:Nat}{l:List Elem}{e:Elem}(q:h.get i=some (.row 40 3 (.elems l) [.agg [.int e.value,.own j]]))(hi: ¬ Z i)(hz:Z j)(qj:h.get j=some (jI e.counts)) :
  ∃ o',h.get i=some o'/\ ¬ Z i/\o'.ay.ty=(bT (l++[e])).ay.ty/\o'.ay.k=(bT (l++[e])).ay.k/\T.dG Z h.au (bT (l++[e])).ay.l o'.ay.l/\(bT (l++[e])).ay.l.map T.kd=o'.ay.l.map T.kd/\(bT (l++[e])).ay.l.map iQ=o'.ay.l.map iQ:=by
 have e1:(bT (l++[e])).ay.l=l.map fG++[fG e]:=by simp[OV.ay,Rw.aQ,V.aQ]
 refine⟨_,q,hi,rfl,rfl,?_,?_,?_⟩
 ·rw[e1];exact Jz (dL _) ⟨ai6 hz qj,trivial⟩
 ·rw[e1]; show _=List.map T.kd (l.map fG++[.agg [.int e.value,.own j]]);rw[cx,cx]; rfl
 ·rw[e1]; show _=List.map iQ (l.map fG++[.agg [.int e.value,.own j]]);rw[cx,cx]; rfl
def back(n v k:Nat):List Int:=pG (n-k) (v / 4^k)++List.replicate k 0
theorem RQ{n v k:Nat}(h:k<=n):(back n v k).length=n:=by simp[back,jD]; omega
theorem OQ{n v:Nat}:back n v 0=pG n v:=by simp[back]
theorem uO{n v k:Nat}(h:k<n):back n v k=pG (n-k-1) (v / 4^k / 4)++(((v / 4^k % 4:Nat):Int)::List.replicate k 0):=by
 unfold back;obtain⟨j,hj⟩: ∃ j,n-k=j+1:=⟨n-k-1,by omega⟩
 rw[hj,pG,ax]; rfl
theorem OT{n v k:Nat}(_h:k<n):back n v (k+1)=pG (n-k-1) (v / 4^k / 4)++((0:Int)::List.replicate k 0):=by
 unfold back;rw[fw,<- Nat.div_div_eq_div_mul,Nat.sub_add_eq,eV]
theorem RU{n v k:Nat}(h:k<n)(h3:v / 4^k % 4≠3)(hv:v+1=(v / 4^k+1)*4^k):pG (n-k-1) (v / 4^k / 4)++((((v / 4^k % 4:Nat):Int)+1)::List.replicate k 0)=pG n (v+1):=by
 have e:pG n (v+1)=pG ((n-k-1+1)+k) ((v / 4^k+1)*4^k):=by rw[<- hv]; congr 1; omega
 rw[e,OM,pG,ax]
 congr 1
 ·congr 1; omega
 ·show _=(((v / 4^k+1) % 4:Nat):Int)::List.replicate k 0
  congr 1; omega
theorem OU{v k:Nat}(h3:v / 4^k % 4=3)(hv:v+1=(v / 4^k+1)*4^k):v+1=(v / 4^(k+1)+1)*4^(k+1):=by
 have e:v / 4^(k+1)=v / 4^k / 4:=by rw[fw,<- Nat.div_div_eq_div_mul]
 rw[e,fw,gF (4^k) 4,<- Nat.mul_assoc]
 have:(v / 4^k / 4+1)*4=v / 4^k+1:=by omega
 rw[this]; exact hv
theorem aaT{n v k:Nat}(h:k<n)(hlt:v<4^n)(h3:v / 4^k % 4≠3)(hv:v+1=(v / 4^k+1)*4^k):v+1<4^n:=by
 have e:4^n=4^(n-k-1)*4*4^k:=by
  rw[<- fw,<- Nat.pow_add]; congr 1; omega
 have h1:v / 4^k<4^(n-k-1)*4:=by
  rw[Nat.div_lt_iff_lt_mul (Nat.pow_pos (by decide))]; omega
 have h2:v / 4^k+1<4^(n-k-1)*4:=by omega
 rw[hv,e];exact Nat.mul_lt_mul_of_pos_right h2 (Nat.pow_pos (by decide))
theorem Xu{n v:Nat}(hlt:v<4^n)(hv:v+1=(v / 4^n+1)*4^n):v+1=4^n:=by
 rw[Nat.div_eq_of_lt hlt] at hv; omega
set_option maxHeartbeats 1000000 in
theorem S.jg(p:aB)(q:Prop')(n vals:Nat)(_hp:dJ p)(hq:uN q)(hn:p.states.length=n)(hn0:0<n)(hn6:n<=6)(hvs:max 1 p.values.length=vals)(aaU:vals<=3)(hb:agt n q) :
  aj Tryz.prog 50 [.dat (.fM p),.dat (.prop q)] (.row 3 false (.elems (cO (xZ q n vals (4^n))))):=by
 refine aj.of Bd.jg (by simp) rfl rfl ?_;conv=>whnf
 have hm:=CJ (n:=p.states.length) (by omega);rw[hm];refine .mk (by omega) ?_;refine aF.nil 5 40 3 (by rfl) rfl rfl rfl ?_;refine aF.objs 4 [2,3] (fun v:Nat=>[(5,.own 2),(6,.own 3)]) (fun v=>[(0,.box 27 11 (.dat (.fM p))),(1,.box 69 7 (.dat (.prop q))),(2,bT (xZ q n vals v)),(3,jI (pG n v))]) (fun v=>v<4^n) (fun v=>4^n-v) 0 [0,1,9,7] rfl (by decide) (fun _=>rfl) (Nat.pow_pos (by decide)) ?_ ?_ ?_
 ·exact(sR rfl)
 ·refine⟨gK rfl rfl,gK rfl rfl,gK rfl rfl,⟨rfl,nofun,rfl,rfl,rfl,_,rfl,rfl,rfl,dH.of_eq ?_⟩,trivial⟩;rw[aaS,hn]
 refine⟨(sR rfl),rfl,?_⟩;rintro v hv;have hbn:=@IC q n vals v;have hbl:=La (q:=q) (n:=n) (vals:=vals) (u:=v);have hbm:v*vals<=4096*3:=eT (dg (Nat.le_of_lt hv) (Nat.pow_le_pow_right (by decide) (show n<=6 from hn6))) aaU;refine ah.lend (S.mY q (pG n v) false hq (by rw[jD]; exact hb) adX (by rw[jD]; omega)) (And.intro (aG _) (And.intro (xK trivial rfl) trivial)) rfl rfl ?_;refine⟨fun h3=>?_,fun h3=>?_⟩
 ·have hat:CQ q n vals v=(List.range vals).map (fun(w:Nat)=>⟨(w:Int),pG n v⟩):=by rw[CQ,h3]; rfl
  refine aF.afZ 4 [2,3,6,19] (fun w:Nat=>[(20,.int w),(5,.own 2)]) (fun w=>[(0,.box 27 11 (.dat (.fM p))),(1,.box 69 7 (.dat (.prop q))),(2,bT (xZ q n vals v++(List.range w).map (fun(w:Nat)=>⟨(w:Int),pG n v⟩))),(3,jI (pG n v))]) (fun w=>w<=vals) (fun w=>vals-w) 0 [0,1,2,3] [(0,some (.box 27 11 (.dat (.fM p)))),(1,some (.box 69 7 (.dat (.prop q)))),(2,some (bT (xZ q n vals v))),(3,some (jI (pG n v)))] rfl (by decide) (fun _=>rfl) (ap _) ?_ ?_ ?_ ?_
  ·exact(sR rfl)
  ·exact⟨fun _=>False,sV (Z:=fun _=>False) rfl (fun q=>q),sV (Z:=fun _=>False) rfl (fun q=>q),sV (Z:=fun _=>False) rfl (fun q=>q),sV (Z:=fun _=>False) rfl (fun q=>q),trivial⟩
  ·exact⟨qG rfl rfl,qG rfl rfl,okF rfl nofun rfl rfl rfl ⟨rfl,rfl⟩ (by simp),qG rfl rfl,trivial⟩
  refine⟨(sR rfl),rfl,?_⟩;rintro w hw;have hcl:(xZ q n vals v++(List.range w).map (fun(w:Nat)=>(⟨(w:Int),pG n v⟩:Elem))).length<=12288+3:=by simp; omega
  refine⟨fun h4=>?_,fun h4=>?_⟩
  ·have hw':w<vals:=by
    have:(w:Int)<max 1 (p.values.length:Int):=aq h4
    omega
   repeat(refine VC.mk (by first|(first|(simp only[mD,mV,Rw.len,bN,bw,jD]; omega)|(show((xZ q n vals v++(List.range w).map (fun(w:Nat)=>(⟨(w:Int),pG n v⟩:Elem))).length+(0+1))*32<=140737488355328/\(xZ q n vals v++(List.range w).map (fun(w:Nat)=>(⟨(w:Int),pG n v⟩:Elem))).length+(0+1)<=1152921504606846976; omega))|(simp only[okI] at *; first|omega|(simp_all; omega))) ?_)
   refine⟨[(0,some (.box 27 11 (.dat (.fM p)))),(1,some (.box 69 7 (.dat (.prop q)))),(13,some (bT ((xZ q n vals v++(List.range w).map (fun(w:Nat)=>⟨(w:Int),pG n v⟩))++[⟨(w:Int),pG n v⟩]))),(3,some (jI (pG n v)))],w+1,[0,1,13,3],⟨fun i=>i=10,sV (Z:=fun i=>i=10) (i:=0) rfl (by decide),sV (Z:=fun i=>i=10) (i:=1) rfl (by decide),RP (Z:=fun i=>i=10) (i:=13) (j:=10) rfl (by decide) rfl rfl,sV (Z:=fun i=>i=10) (i:=3) rfl (by decide),trivial⟩,by omega,by omega,(sR rfl),(sR rfl),qG rfl rfl,qG rfl rfl,okF rfl nofun rfl rfl rfl ⟨rfl,rfl⟩ ?_,qG rfl rfl,trivial⟩;rw[ce,cx,<- ax]; rfl
  ·have hw':w=vals:=by
    have: ¬ (w:Int)<max 1 (p.values.length:Int):=aR h4
    omega
   rw[hw',<- hat,<- hbn];refine .mk (by first|(simp only[okI,jD]; omega)|omega) ?_;refine aF.objs 4 [2,3] (fun k:Nat=>[(8,.int ((n:Int)-1-k)),(5,.own 2),(6,.own 3)]) (fun k=>[(0,.box 27 11 (.dat (.fM p))),(1,.box 69 7 (.dat (.prop q))),(2,bT (xZ q n vals (v+1))),(3,jI (back n v k))]) (fun k=>k<=n/\v+1=(v / 4^k+1)*4^k) (fun k=>n-k) 0 [0,1,2,3] rfl (by decide) (fun _=>rfl) ⟨ap _,by simp⟩ ?_ ?_ ?_
   ·refine⟨⟨_,rfl,.eq ?_⟩,⟨_,rfl,.eq rfl⟩,⟨_,rfl,.eq rfl⟩,trivial⟩;show T.int ((n:Int)-1-((0:Nat):Int))=T.int (((pG n v).length:Int)-1);rw[jD]; exact eK T.int (by omega)
   ·refine⟨gK rfl rfl,gK rfl rfl,gK rfl rfl,⟨rfl,nofun,rfl,rfl,rfl,_,rfl,rfl,rfl,dH.of_eq ?_⟩,trivial⟩;rw[OQ]
   refine⟨(sR rfl),rfl,?_⟩;rintro k ⟨hk,hvk⟩;have hbl:=RQ (v:=v) hk;have hcell:k<n->(back n v k).getD (n-1-k) 0=((v / 4^k % 4:Nat):Int):=fun hkn=>by
    rw[uO hkn]; exact get_at (by rw[jD]; omega)
   have hti:((n:Int)-1-k).toNat=n-1-k:=by omega
   repeat(refine VC.mk (by first|exact id|(intro h; (repeat' apply And.intro)<;>first|exact h|omega|(simp only[Rw.sH]; omega)|(simp only[Rw.rng]; omega))|(simp only[Rw.rng] at *; first|omega|(simp_all; omega))) ?_)
   refine⟨fun h6=>?_,fun h6=>?_⟩
   ·rw[aD] at h6;have hkn:k<n:=by have:=aq h6.1; omega
    have h3:v / 4^k % 4=3:=by
     have:=bo.1 h6.2;rw[hti,hcell hkn] at this; omega
    repeat(refine VC.mk (by first|(simp only[okI]; omega)|(simp only[Rw.rng,hbl]; omega)) ?_)
    refine⟨k+1,[0,1,2,3],⟨by omega,OU h3 hvk⟩,by omega,⟨⟨_,rfl,.eq ?_⟩,⟨_,rfl,.eq rfl⟩,⟨_,rfl,.eq rfl⟩,trivial⟩,(sR rfl),gK rfl rfl,gK rfl rfl,gK rfl rfl,⟨rfl,nofun,rfl,rfl,rfl,_,rfl,rfl,rfl,dH.of_eq ?_⟩,trivial⟩
    ·show T.int ((n:Int)-1-((k+1:Nat):Int))=T.int ((n:Int)-1-(k:Int)-1);exact eK T.int (by omega)
    ·rw[hti,OT hkn,uO hkn,wG (by rw[jD]; omega)]
   refine⟨fun h7=>?_,fun h7=>?_⟩
   ·have hkn:k=n:=by have:=aq h7; omega
    subst hkn;rw[Xu hv hvk];refine ah.zT rfl rfl (by have:=La (q:=q) (n:=k) (vals:=vals) (u:=4^k); have h4:4^k*vals<=4096*3:=eT (Nat.pow_le_pow_right (by decide) (show k<=6 from hn6)) aaU; omega) (OO hn6) ?_ (fun m=>?_)
    ·conv=>whnf
     exact ak.agu rfl
    ·conv=>whnf
     exact ak.aaO rfl
   ·have hkn:k<n:=by have:=aR h7; omega
    have h3:v / 4^k % 4≠3:=by
     rw[cC] at h6;rcases h6 with h6|h6
     ·have:=aR h6; omega
     ·intro e
      have:((back n v k).getD ((n:Int)-1-k).toNat 0==3)=false:=h6
      rw[hti,hcell hkn,e] at this; exact absurd this (by decide)
    have hlt4:v / 4^k % 4<4:=Nat.mod_lt _ (by decide);have hc0:=hcell hkn;repeat(refine VC.mk (by first|(simp only[okI,hti,hc0]; omega)|(simp only[Rw.rng,hbl]; omega)) ?_)
    refine⟨v+1,[0,1,2,3],aaT hkn hv h3 hvk,by omega,(sR rfl),(sR rfl),gK rfl rfl,gK rfl rfl,gK rfl rfl,⟨rfl,nofun,rfl,rfl,rfl,_,rfl,rfl,rfl,dH.of_eq ?_⟩,trivial⟩;rw[hti,hc0,<- RU hkn h3 hvk,uO hkn,wG (by rw[jD]; omega)]
 ·have hat:xZ q n vals v=xZ q n vals (v+1):=by rw[IC,CQ,h3]; simp
  rw[hat];refine .mk (by first|(simp only[okI,jD]; omega)|omega) ?_;refine aF.objs 4 [2,3] (fun k:Nat=>[(8,.int ((n:Int)-1-k)),(5,.own 2),(6,.own 3)]) (fun k=>[(0,.box 27 11 (.dat (.fM p))),(1,.box 69 7 (.dat (.prop q))),(2,bT (xZ q n vals (v+1))),(3,jI (back n v k))]) (fun k=>k<=n/\v+1=(v / 4^k+1)*4^k) (fun k=>n-k) 0 [0,1,2,3] rfl (by decide) (fun _=>rfl) ⟨ap _,by simp⟩ ?_ ?_ ?_
  ·refine⟨⟨_,rfl,.eq ?_⟩,⟨_,rfl,.eq rfl⟩,⟨_,rfl,.eq rfl⟩,trivial⟩;show T.int ((n:Int)-1-((0:Nat):Int))=T.int (((pG n v).length:Int)-1);rw[jD]; exact eK T.int (by omega)
  ·refine⟨gK rfl rfl,gK rfl rfl,gK rfl rfl,⟨rfl,nofun,rfl,rfl,rfl,_,rfl,rfl,rfl,dH.of_eq ?_⟩,trivial⟩;rw[OQ]
  refine⟨(sR rfl),rfl,?_⟩;rintro k ⟨hk,hvk⟩;have hbl:=RQ (v:=v) hk;have hcell:k<n->(back n v k).getD (n-1-k) 0=((v / 4^k % 4:Nat):Int):=fun hkn=>by
   rw[uO hkn]; exact get_at (by rw[jD]; omega)
  have hti:((n:Int)-1-k).toNat=n-1-k:=by omega
  repeat(refine VC.mk (by first|exact id|(intro h; (repeat' apply And.intro)<;>first|exact h|omega|(simp only[Rw.sH]; omega)|(simp only[Rw.rng]; omega))|(simp only[Rw.rng] at *; first|omega|(simp_all; omega))) ?_)
  refine⟨fun h6=>?_,fun h6=>?_⟩
  ·rw[aD] at h6;have hkn:k<n:=by have:=aq h6.1; omega
   have h3:v / 4^k % 4=3:=by
    have:=bo.1 h6.2;rw[hti,hcell hkn] at this; omega
   repeat(refine VC.mk (by first|(simp only[okI]; omega)|(simp only[Rw.rng,hbl]; omega)) ?_)
   refine⟨k+1,[0,1,2,3],⟨by omega,OU h3 hvk⟩,by omega,⟨⟨_,rfl,.eq ?_⟩,⟨_,rfl,.eq rfl⟩,⟨_,rfl,.eq rfl⟩,trivial⟩,(sR rfl),gK rfl rfl,gK rfl rfl,gK rfl rfl,⟨rfl,nofun,rfl,rfl,rfl,_,rfl,rfl,rfl,dH.of_eq ?_⟩,trivial⟩
   ·show T.int ((n:Int)-1-((k+1:Nat):Int))=T.int ((n:Int)-1-(k:Int)-1);exact eK T.int (by omega)
   ·rw[hti,OT hkn,uO hkn,wG (by rw[jD]; omega)]
  refine⟨fun h7=>?_,fun h7=>?_⟩
  ·have hkn:k=n:=by have:=aq h7; omega
   subst hkn;rw[Xu hv hvk];refine ah.zT rfl rfl (by have:=La (q:=q) (n:=k) (vals:=vals) (u:=4^k); have h4:4^k*vals<=4096*3:=eT (Nat.pow_le_pow_right (by decide) (show k<=6 from hn6)) aaU; omega) (OO hn6) ?_ (fun m=>?_)
   ·conv=>whnf
    exact ak.agu rfl
   ·conv=>whnf
    exact ak.aaO rfl
  ·have hkn:k<n:=by have:=aR h7; omega
   have h3:v / 4^k % 4≠3:=by
    rw[cC] at h6;rcases h6 with h6|h6
    ·have:=aR h6; omega
    ·intro e
     have:((back n v k).getD ((n:Int)-1-k).toNat 0==3)=false:=h6
     rw[hti,hcell hkn,e] at this; exact absurd this (by decide)
   have hlt4:v / 4^k % 4<4:=Nat.mod_lt _ (by decide);have hc0:=hcell hkn;repeat(refine VC.mk (by first|(simp only[okI,hti,hc0]; omega)|(simp only[Rw.rng,hbl]; omega)) ?_)
   refine⟨v+1,[0,1,2,3],aaT hkn hv h3 hvk,by omega,(sR rfl),(sR rfl),gK rfl rfl,gK rfl rfl,gK rfl rfl,⟨rfl,nofun,rfl,rfl,rfl,_,rfl,rfl,rfl,dH.of_eq ?_⟩,trivial⟩;rw[hti,hc0,<- RU hkn h3 hvk,uO hkn,wG (by rw[jD]; omega)]
def smB(q:Prop')(c:List Int):Bool:=Fz q c&&(List.range c.length).all fun x=>c.getD x 0==0|| !(Fz q (aZ c x (-1)))
theorem Lc{k:Nat}(hk:k<4): ∀ {m u:Nat},u<4^m->pG (m+1) (k*4^m+u)=(k:Int)::pG m u:=by
 intro m;induction m with
 |zero =>
  intro u hu;have h:u=0:=(by simpa using hu)
  subst h;simp only[pG,Nat.pow_zero,Nat.mul_one,fy,f8];rw[Nat.mod_eq_of_lt hk]
 |succ m ih =>
  intro u hu;rw[fw] at hu;have e:k*4^(m+1)=k*4^m*4:=by rw[fw,Nat.mul_assoc]
  rw[e,pG];rw[show(k*4^m*4+u) / 4=k*4^m+u / 4 by omega,show(k*4^m*4+u) % 4=u % 4 by omega,ih (show u / 4<4^m by omega),pG];rfl
def smA(q:Prop')(n:Nat)(w i:Nat):List Elem:=((List.range i).filter fun u=>smB q (pG n u)).map fun u=>⟨(w:Int),pG n u⟩
def zA(q:Prop')(n vals:Nat):List Elem:=(List.range vals).flatMap fun w=>smA q n w (4^n)
theorem adY{q:Prop'}{n w i:Nat}:(smA q n w i).length<=i:=by
 unfold smA;rw[bh];have:=fX (fun u=>smB q (pG n u)) (List.range i);simpa using this
theorem JA{q:Prop'}{n v:Nat}:zA q n (v+1)=zA q n v++smA q n v (4^n):=by
 unfold zA;rw[ce,dc]; simp
theorem Vw{q:Prop'}{n v:Nat}:(zA q n v).length<=v*4^n:=by
 induction v with
 |zero=>simp[zA]
 |succ v ih =>
  rw[JA,aL,eL];have:=@adY q n v (4^n); omega
theorem YS{a b:List Int}(h:qJ a b=true)(hne:a≠b): ∃ x,x<b.length/\a.getD x 0<b.getD x 0:=by
 refine Classical.byContradiction fun hc=>hne ?_
 obtain⟨h1,h2⟩:=sQ.1 h;refine eC h1 fun i hi hj=>?_
 have e1:=h2 i hi;have e2: ¬ a.getD i 0<b.getD i 0:=fun q=>hc ⟨i,hj,q⟩
 rw[show a.getD i 0=a[i] by simp[hi],show b.getD i 0=b[i] by simp[hj]] at e1 e2;omega
theorem aaV{q:Prop'}{a b:List Int}(h:qJ a b=true)(hd:Fz q a=true):Fz q b=true:=by
 unfold Fz at hd ⊢;rw[cA] at hd ⊢;intro k hk;have:=aq (hd k hk);refine cY (Int.le_trans this ?_);unfold IB;generalize k.states=st;induction st with
 |nil=>exact Int.le_refl _
 |cons x r ih =>
  simp only[bp,fI];have:=RN h x.toNat;omega
theorem YT{a b:List Int}{x:Nat}(h:qJ a b=true)(hx:a.getD x 0<b.getD x 0):qJ a (aZ b x (-1))=true:=by
 obtain⟨h1,h2⟩:=sQ.1 h;refine sQ.2 ⟨by rw[uJ,h1],fun i hi=>?_⟩;rw[nJ];split
 ·rename_i hc
  have:i=x:=by have:=hc.1; simpa using this
  subst this; omega
 ·exact h2 i hi
theorem YU{b:List Int}{x:Nat}:qJ (aZ b x (-1)) b=true:=by
 refine sQ.2 ⟨uJ,fun i hi=>?_⟩;rw[nJ];split<;>omega
theorem ad1{n:Nat}: ∀ {c:List Int},c.length=n->(∀ x∈c,0<=x/\x<=3)-> ∃ u,u<4^n/\pG n u=c:=by
 induction n with
 |zero=>intro c h _; exact⟨0,by decide,by rw[ai h]; rfl⟩
 |succ n ih =>
  intro c h hc;cases c with
  |nil=>simp at h
  |cons k c =>
   simp only[bN] at h;obtain⟨u,h1,h2⟩:=ih (c:=c) (by omega) fun x hx=>hc x (by simp[hx])
   have hk:=hc k (by simp);obtain⟨j,rfl⟩: ∃ j:Nat,k=j:=⟨k.toNat,by omega⟩
   refine⟨j*4^n+u,?_,?_⟩
   ·rw[fw]
    have:j*4^n<=3*4^n:=cn _ (by omega)
    omega
   ·rw[Lc (by omega) h1,h2]
theorem agv: ∀ {n u v:Nat},u<v->v<4^n->cmpL (pG n u) (pG n v)<0:=by
 intro n;induction n with
 |zero=>intro u v h1 h2; simp at h2; omega
 |succ n ih =>
  intro u v h1 h2;have hp:0<4^n:=Nat.pow_pos (by decide);rw[fw] at h2;have eu:u=u / 4^n*4^n+u % 4^n:=(Nat.div_add_mod' u (4^n)).symm;have ev:v=v / 4^n*4^n+v % 4^n:=(Nat.div_add_mod' v (4^n)).symm;have lv:v / 4^n<4:=(Nat.div_lt_iff_lt_mul hp).2 (by omega);have le:u / 4^n<=v / 4^n:=Nat.div_le_div_right (by omega);have d1:pG (n+1) u=((u / 4^n:Nat):Int)::pG n (u % 4^n):=by
   conv=>lhs; rw[eu]
   exact Lc (by omega) (Nat.mod_lt _ hp)
  have d2:pG (n+1) v=((v / 4^n:Nat):Int)::pG n (v % 4^n):=by
   conv=>lhs; rw[ev]
   exact Lc lv (Nat.mod_lt _ hp)
  rw[d1,d2];simp only[cmpL];by_cases e:u / 4^n=v / 4^n
  ·rw[av (by omega),av (by omega)];refine ih ?_ (Nat.mod_lt _ hp);rw[e] at eu; omega
  ·rw[ba (by omega)]; decide
theorem YV{q:Prop'}{n vals:Nat}:SS (zA q n vals):=by
 induction vals with
 |zero=>simp[zA,SS]
 |succ v ih =>
  rw[JA];simp only[SS,ek];refine⟨ih,?_,fun x hx y hy=>?_⟩
  ·unfold smA;rw[List.pairwise_map];refine List.Pairwise.filter _ ?_;refine List.Pairwise.imp_of_mem (R:=fun a b=>a<b) (fun {a b} ha hb h=>?_) List.pairwise_lt_range;show iR ⟨(v:Int),pG n a⟩ ⟨(v:Int),pG n b⟩<0;simp only[iR];rw[av (by omega),av (by omega)];exact agv h (cL.1 hb)
  ·obtain⟨w,h1,h2⟩:=ck.1 hx;obtain⟨u,_,rfl⟩:=bA.1 h2;obtain⟨u',_,rfl⟩:=bA.1 hy;have:=cL.1 h1;simp only[iR];rw[ba (by omega)]; decide
theorem Ld{q:Prop'}{n vals:Nat}{e:Elem}:e∈xZ q n vals (4^n)↔ ∃ u w,u<4^n/\w<vals/\Fz q (pG n u)=true/\e=⟨((w:Nat):Int),pG n u⟩:=by
 unfold xZ;rw[ck];constructor
 ·rintro⟨u,h1,h2⟩;unfold CQ at h2;cases hd:Fz q (pG n u) with
  |false=>rw[hd] at h2; cases h2
  |true =>
   rw[hd] at h2;obtain⟨w,h3,rfl⟩:=bA.1 h2;exact⟨u,w,cL.1 h1,cL.1 h3,hd,rfl⟩
 ·rintro⟨u,w,h1,h2,h3,rfl⟩;refine⟨u,cL.2 h1,?_⟩;unfold CQ;rw[h3];exact bA.2 ⟨w,cL.2 h2,rfl⟩
theorem Xv{q:Prop'}{c:List Int}(hc: ∀ x∈c,0<=x):smB q c=true↔Fz q c=true/\ ∀ a,(∀ x∈a,0<=x)->qJ a c=true->a≠c->Fz q a=false:=by
 have gz: ∀ {l:List Int},(∀ x∈l,0<=x)-> ∀ i,0<=l.getD i 0:=fun {l} h i=>by
  by_cases hi:i<l.length
  ·rw[show l.getD i 0=l[i] by simp[hi]]; exact h _ (bR hi)
  ·rw[show l.getD i 0=0 by simp[List.getD_eq_getElem?_getD,List.getElem?_eq_none (by omega:l.length<=i)]]; omega
 unfold smB;rw[aD,cA];constructor
 ·rintro⟨h1,h2⟩;refine⟨h1,fun a ha hl hne=>?_⟩;obtain⟨x,hx,hlt⟩:=YS hl hne;have h3:=h2 x (cL.2 hx);have h4:c.getD x 0≠0:=by have:=gz ha x; omega
  rw[show(c.getD x 0==0)=false by simpa using h4,cv,bl] at h3;cases hd:Fz q a with
  |false=>rfl
  |true=>rw[aaV (YT hl hlt) hd] at h3; cases h3
 ·rintro⟨h1,h2⟩;refine⟨h1,fun x hx=>?_⟩;have hx':=cL.1 hx;by_cases h0:c.getD x 0=0
  ·rw[show(c.getD x 0==0)=true by simpa using h0]; rfl
  ·have h3:=h2 (aZ c x (-1)) (fun y hy=>by
    rcases fb hy with hy|rfl
    ·exact hc y hy
    ·have:=gz hc x; simp only[be]; omega) YU (fun e=>by
    have:(aZ c x (-1)).getD x 0=c.getD x 0:=by rw[e]
    rw[nJ,ba ⟨by simp,hx'⟩] at this; omega)
   rw[h3]; simp
theorem bad_law{q:Prop'}{n vals:Nat}:cO (xZ q n vals (4^n))=zA q n vals:=by
 have nn: ∀ {u:Nat},∀ x∈pG n u,0<=x:=fun {u} x hx=>(Gy x hx).1
 refine D8 (sZ _).1 YV fun e=>?_
 rw[(sZ _).2,Ld];constructor
 ·rintro⟨⟨u,w,h1,h2,h3,rfl⟩,h4⟩;refine ck.2 ⟨w,cL.2 h2,bA.2 ⟨u,eA.2 ⟨cL.2 h1,?_⟩,rfl⟩⟩;refine(Xv nn).2 ⟨h3,fun a ha hl hne=>?_⟩;cases hd:Fz q a with
  |false=>rfl
  |true =>
   exfalso;have hal:a.length=n:=by rw[(sQ.1 hl).1,jD]
   obtain⟨u',g1,rfl⟩:=ad1 hal fun x hx=>by
    refine⟨ha x hx,?_⟩;obtain⟨i,hi,rfl⟩:=List.mem_iff_getElem.1 hx;have e1:=RN hl i;rw[show a.getD i 0=a[i] by simp[hi]] at e1;have hi2:i<(pG n u).length:=by rw[jD]; omega
    rw[show(pG n u).getD i 0=(pG n u)[i] by simp[hi2]] at e1;have:=Gy _ (bR hi2);omega
   rw[dv] at h4;refine h4 ⟨(w:Int),pG n u'⟩ (Ld.2 ⟨u',w,g1,h2,hd,rfl⟩) (zU.2 ⟨?_,fun e=>hne (eK Elem.counts e)⟩);simp only[uP,BEq.rfl,cj]; exact hl
 ·intro h;obtain⟨w,h1,h2⟩:=ck.1 h;obtain⟨u,h3,rfl⟩:=bA.1 h2;obtain⟨h4,h5⟩:=eA.1 h3;obtain⟨s1,s2⟩:=(Xv nn).1 h5;refine⟨⟨u,w,cL.1 h4,cL.1 h1,s1,rfl⟩,?_⟩;rw[dv];intro y hy hab;obtain⟨u',w',g1,g2,g3,rfl⟩:=Ld.1 hy;obtain⟨hl,hne⟩:=zU.1 hab;simp only[uP,aD,bo] at hl;have:=s2 (pG n u') nn hl.2 (fun e=>hne (by rw[hl.1,e]));rw[g3] at this; cases this
def lg(p:aB)(q:Prop'):List Elem:=bif gq p q !=0 then [] else zA q p.states.length (max 1 p.values.length)
theorem JB(p:aB)(q:Prop')(_hp:dJ p):(lg p q).length<2^30/\eG (lg p q):=by
 unfold lg;cases h1:(gq p q !=0) with
 |true=>exact⟨by show([]:List Elem).length<_; decide,fun x hx=>by cases hx⟩
 |false =>
  obtain⟨b1,b2,b3,b4⟩:=Qh (EP h1);have hv:=CP b3;have v2:=hv.states; have v3:=hv.values;have h46:4^p.states.length<=4^6:=Nat.pow_le_pow_right (by decide) v2;have h47:(4:Nat)^6=4096:=by decide
  have h1:=Vw (q:=q) (n:=p.states.length) (v:=max 1 p.values.length);have h2:max 1 p.values.length*4^p.states.length<=3*4096:=eT (by omega) (by omega);refine⟨by show(zA _ _ _).length<_; omega,fun x hx=>?_⟩;obtain⟨w,_,h3⟩:=ck.1 hx;obtain⟨u,_,rfl⟩:=bA.1 h3;show(pG _ _).length<_;rw[jD]; omega
end Go.Proofs.YtbdbmfccbpfeoaaGreatDoor
