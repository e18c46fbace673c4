/-
 A part of the proof. No condition.
-/
import Derived.Test.YtbdbmfccbpfeoabGreatDoorFa
import Derived.Test.YtbdbmfccbpfeoabGreatDoorHb
import Derived.Test.YtbdbmfccbpfeoabGreatDoorLg
namespace Go.Proofs.YtbdbmfccbpfeoabGreatDoor
open Go.Ab Go.Proofs
set_option maxRecDepth 100000
def BN(st c:List Int):Int:=(st.map fun x=>c.getD x.toNat 0).sum
def wz(q:Prop')(c:List Int):Bool:=q.bad.all fun k=>decide (k.least<=BN k.states c)
structure YF(n:Nat)(q:Prop'):Prop where
 place: ∀ k∈q.bad,qY n k.states
 least: ∀ k∈q.bad,1<=k.least/\k.least<=3
 some: ∀ k∈q.bad,k.states≠[]
def few(c:List Int):Prop:= ∀ x∈c,0<=x/\x<=4
theorem few.get{c:List Int}(h:few c)(i:Nat):0<=c.getD i 0/\c.getD i 0<=4:=by
 by_cases hi:i<c.length
 ·rw[show c.getD i 0=c[i] by simp[hi]]; exact h _ (be hi)
 ·rw[show c.getD i 0=0 by simp[List.getD_eq_getElem?_getD,List.getElem?_eq_none (by omega:c.length<=i)]]; omega
theorem Ou{st c:List Int}{i:Nat}(hi:i<st.length):BN (st.take (i+1)) c=BN (st.take i) c+c.getD (st.getD i 0).toNat 0:=by
 unfold BN;rw[cR,cm,List.sum_append]; simp[hi]
theorem RP{st c:List Int}(h:few c):0<=BN st c/\BN st c<=4*st.length:=by
 unfold BN;induction st with
 |nil=>simp
 |cons x r ih =>
  have:=h.get x.toNat;simp only[cG,eW,bL]; omega
theorem getD_mem{α:Type}{l:List α}{i:Nat}{d:α}(hi:i<l.length):l.getD i d∈l:=by
 rw[show l.getD i d=l[i] by simp[hi]]; exact be hi
theorem S.nI(q:Prop')(c:List Int)(f:Bool)(hq:jm q)(hb:YF c.length q)(hc:few c)(_hl:c.length<2^30):aj Tryz.prog 50 [.dat (.prop q),.row 0 f (.ints c)] (.bool (wz q c)):=by
 have q2:=hq.bad;refine aj.of Bd.nI (by simp) rfl rfl ?_;refine aA.same [1,11,12] (fun i:Nat=>[(13,.int i)]) (fun i=>i<=q.bad.length/\(q.bad.take i).all (fun k=>decide (k.least<=BN k.states c))=true) (fun i=>q.bad.length-i) 0 rfl (by decide) rfl (fun _=>rfl) ⟨by omega,by simp⟩ ⟨⟨_,rfl,rfl⟩,trivial⟩ ?_;refine⟨rfl,?_⟩;rintro i ⟨hi,hall⟩;refine⟨fun h3=>?_,fun h3=>?_⟩
 ·have hi':i<q.bad.length:=by simpa using h3
  have hk:=getD_mem (d:=default) hi';have hpl:=hb.place _ hk;have hsz:=hq.cnt i;refine .mk (by simp only[Rw.rng] at *; omega) ?_;refine aA.same [1,6,11,12,13,18,19] (fun j:Nat=>[(20,.int j),(7,.int (BN ((q.bad.getD i default).states.take j) c))]) (fun j=>j<=(q.bad.getD i default).states.length) (fun j=>(q.bad.getD i default).states.length-j) 0 rfl (by decide) rfl (fun _=>rfl) (ab _) ⟨⟨_,rfl,rfl⟩,⟨_,rfl,rfl⟩,trivial⟩ ?_;refine⟨rfl,?_⟩;rintro j hj;have hs1:=RP (st:=(q.bad.getD i default).states.take j) hc;have hl1:((q.bad.getD i default).states.take j).length<=(q.bad.getD i default).states.length:=by rw[bE]; omega
  refine⟨fun h4=>?_,fun h4=>?_⟩
  ·have hj':j<(q.bad.getD i default).states.length:=by simpa using h4
   have hst:=Ou (c:=c) hj';have hg:=hc.get ((q.bad.getD i default).states.getD j 0).toNat;obtain⟨p1,p2⟩:=hpl _ (getD_mem (d:=0) hj');repeat(refine VC.mk (by first|(simp only[Rw.rng,ap]; omega)|(simp only[okI,ap] at *; omega)) ?_)
   refine⟨j+1,by omega,by omega,⟨⟨_,rfl,rfl⟩,⟨_,rfl,?_⟩,trivial⟩,?_,rfl⟩
   ·rw[hst]; rfl
   ·repeat' (first|exact trivial|exact⟨_,rfl,rfl⟩|constructor)
  ·have hj':(q.bad.getD i default).states.length<=j:=by simpa using h4
   rw[bB hj'];refine⟨fun h5=>?_,fun h5=>?_⟩
   ·conv=>whnf
    refine ak.bool ?_
    have: ¬ (q.bad.getD i default).least<=BN (q.bad.getD i default).states c:=by
     simp only[ap] at h5;have:=ai h5; omega
    exact xw (p:=fun k=>decide (k.least<=BN k.states c)) (d:=default) hi' (cF this)
   ·conv=>whnf
    refine .mk (by simp only[okI] at *; omega) ?_;conv=>whnf
    have:(q.bad.getD i default).least<=BN (q.bad.getD i default).states c:=by
     simp only[ap] at h5;have:=aL h5; omega
    refine⟨i+1,⟨by omega,?_⟩,by omega,⟨⟨_,rfl,rfl⟩,trivial⟩,?_,rfl⟩
    ·rw[zD (d:=default) hi' hall]; exact cJ this
    ·repeat' (first|exact trivial|exact⟨_,rfl,rfl⟩|constructor)
 ·have hi':q.bad.length<=i:=by simpa using h3
  rw[bB hi'] at hall;exact ak.bool hall
theorem S.qg(q:Prop')(c:List Int)(f:Bool)(hq:jm q)(hb:YF c.length q)(hc:few c)(_hl:c.length<2^30):aj Tryz.prog 93 [.dat (.prop q),.row 0 f (.ints c)] (.bool (wz q c)):=by
 have q2:=hq.bad;refine aj.of Bd.qg (by simp) rfl rfl ?_;refine aA.same [1,2] (fun i:Nat=>[(5,.int i)]) (fun i=>i<=q.bad.length/\(q.bad.take i).all (fun k=>decide (k.least<=BN k.states c))=true) (fun i=>q.bad.length-i) 0 rfl (by decide) rfl (fun _=>rfl) ⟨by omega,by simp⟩ ⟨⟨_,rfl,rfl⟩,trivial⟩ ?_;refine⟨rfl,?_⟩;rintro i ⟨hi,hall⟩;refine⟨fun h3=>?_,fun h3=>?_⟩
 ·have hi':i<q.bad.length:=by simpa using h3
  have hk:=getD_mem (d:=default) hi';have hpl:=hb.place _ hk;have hsz:=hq.cnt i;refine aA.same [1,2,5] (fun j:Nat=>[(7,.int j),(6,.int (BN ((q.bad.getD i default).states.take j) c))]) (fun j=>j<=(q.bad.getD i default).states.length) (fun j=>(q.bad.getD i default).states.length-j) 0 rfl (by decide) rfl (fun _=>rfl) (ab _) ⟨⟨_,rfl,rfl⟩,⟨_,rfl,rfl⟩,trivial⟩ ?_;refine⟨rfl,?_⟩;rintro j hj;have hs1:=RP (st:=(q.bad.getD i default).states.take j) hc;have hl1:((q.bad.getD i default).states.take j).length<=(q.bad.getD i default).states.length:=by rw[bE]; omega
  refine .mk (by simp only[Rw.rng] at *; omega) ?_;refine⟨fun h4=>?_,fun h4=>?_⟩
  ·have hj':j<(q.bad.getD i default).states.length:=by simpa using h4
   have hst:=Ou (c:=c) hj';have hg:=hc.get ((q.bad.getD i default).states.getD j 0).toNat;obtain⟨p1,p2⟩:=hpl _ (getD_mem (d:=0) hj');repeat(refine VC.mk (by first|(simp only[Rw.rng,ap]; omega)|(simp only[okI,ap] at *; omega)) ?_)
   refine⟨j+1,by omega,by omega,⟨⟨_,rfl,rfl⟩,⟨_,rfl,?_⟩,trivial⟩,?_,rfl⟩
   ·rw[hst]; rfl
   ·repeat' (first|exact trivial|exact⟨_,rfl,rfl⟩|constructor)
  ·have hj':(q.bad.getD i default).states.length<=j:=by simpa using h4
   rw[bB hj'];refine .mk (by simp only[Rw.rng] at *; omega) ?_;refine⟨fun h5=>?_,fun h5=>?_⟩
   ·conv=>whnf
    refine ak.bool ?_
    have: ¬ (q.bad.getD i default).least<=BN (q.bad.getD i default).states c:=by
     simp only[ap] at h5;have:=ai h5; omega
    exact xw (p:=fun k=>decide (k.least<=BN k.states c)) (d:=default) hi' (cF this)
   ·conv=>whnf
    refine .mk (by simp only[okI] at *; omega) ?_;conv=>whnf
    have:(q.bad.getD i default).least<=BN (q.bad.getD i default).states c:=by
     simp only[ap] at h5;have:=aL h5; omega
    refine⟨i+1,⟨by omega,?_⟩,by omega,⟨⟨_,rfl,rfl⟩,trivial⟩,?_,rfl⟩
    ·rw[zD (d:=default) hi' hall]; exact cJ this
    ·repeat' (first|exact trivial|exact⟨_,rfl,rfl⟩|constructor)
 ·have hi':q.bad.length<=i:=by simpa using h3
  rw[bB hi'] at hall;exact ak.bool hall
theorem Iw{p:aI}{q:Prop'}(h:cZ p q=0):q.kind=1/\YF p.states.length q/\bJ p=0/\(kT p).cover=true:=by
 have hp:=Aq h;have hv:=KZ hp;have hc:=h;unfold cZ at hc;obtain⟨_,hc⟩:=bz nz hc;have hc':=Iz hc (by decide);rw[bm,du] at hc';have hk:q.kind=1:=by simpa using hc'.2
 unfold jJ at hp;obtain⟨_,hp⟩:=bz nz hp;obtain⟨_,hp⟩:=bz (fun _=>by decide) hp;obtain⟨_,hp⟩:=bz (fun _=>by decide) hp;obtain⟨_,hp⟩:=bz (fun _=>by decide) hp;obtain⟨_,hp⟩:=bz nz hp;obtain⟨_,hp⟩:=bz (fun _=>by decide) hp;rw[show(!(q.kind==1))=false by simp[hk]] at hp;have hcn:=lg hp (wo q.bad p.states.length) (by simp);have hall: ∀ k∈q.bad,NS p.states.length k=0:=fun k hk=>lg hcn _ (av.2 ⟨k,hk,rfl⟩)
 have hlb: ∀ k∈q.bad,qL k=false:=fun k hk=>Iz (lg (hall k hk) (dR (qL k) 1) (by simp)) (by decide)
 refine⟨hk,⟨fun k hk=>Iy (lg (hall k hk) (jf k.states p.states.length) (by simp)),fun k hk=>?_,fun k hk e=>?_⟩,hv,hc'.1⟩
 ·have:=hlb k hk;simp only[qL,bm,am] at this; omega
 ·have:=hlb k hk;rw[qL,e] at this; simp at this
def mM:Nat->Nat->List Int
 |0,_=>[]
 |n+1,v=>mM n (v / 4)++[((v % 4:Nat):Int)]
theorem iG: ∀ {n v:Nat},(mM n v).length=n:=by
 intro n;induction n with
 |zero=>intro v; rfl
 |succ n ih=>intro v; simp[mM,ih]
theorem Gf: ∀ {n v:Nat},∀ x∈mM n v,0<=x/\x<=3:=by
 intro n;induction n with
 |zero=>intro v x h; cases h
 |succ n ih =>
  intro v x h;rcases cH.1 h with h|h
  ·exact ih x h
  ·rw[bl] at h; subst h; omega
theorem Xq{n v:Nat}:few (mM n v):=fun x h=>by have:=Gf x h; omega
theorem Ov{n u:Nat}: ∀ {k:Nat},mM (n+k) (u*4^k)=mM n u++List.replicate k 0:=by
 intro k;induction k with
 |zero=>simp
 |succ k ih =>
  rw[<- gP];simp only[mM];rw[fq,<- Nat.mul_assoc,Nat.mul_div_cancel _ (by decide:0<4),ih,Nat.mul_mod_left,ax,List.replicate_succ'];rfl
theorem aaN{n:Nat}:mM n 0=List.replicate n 0:=by
 have:=@Ov 0 0 n;simpa [mM] using this
def Cc(q:Prop')(n vals v:Nat):List Elem:=bif wz q (mM n v) then(List.range vals).map (fun(w:Nat)=>⟨(w:Int),mM n v⟩) else []
def xA(q:Prop')(n vals u:Nat):List Elem:=(List.range u).flatMap (Cc q n vals)
theorem IC{q:Prop'}{n vals u:Nat}:xA q n vals (u+1)=xA q n vals u++Cc q n vals u:=by
 unfold xA;rw[ck,cv]; simp
theorem La{q:Prop'}{n vals u:Nat}:(xA q n vals u).length<=u*vals:=by
 induction u with
 |zero=>simp[xA]
 |succ u ih =>
  rw[IC,aM,eK]
  have:(Cc q n vals u).length<=vals:=by
   unfold Cc;cases wz q (mM n u)<;>simp
  omega
theorem YG{q:Prop'}{n vals v:Nat}{e:Elem}(h:e∈Cc q n vals v):e.counts=mM n v:=by
 unfold Cc at h;cases hd:wz q (mM n v) with
 |false=>rw[hd] at h; cases h
 |true =>
  rw[hd] at h;obtain⟨w,_,rfl⟩:=av.1 h;rfl
theorem Ox{q:Prop'}{n vals u:Nat}(hn:n<=6): ∀ e∈xA q n vals u,Ce e:=by
 intro e h;obtain⟨v,_,h2⟩:=ci.1 h;rw[show e=⟨e.value,e.counts⟩ from rfl,YG h2];exact⟨by rw[iG]; exact hn,fun x hx=>by have:=Gf x hx; omega⟩
theorem ah.zF{h:Hz}{i n:Nat}{l:List Elem}{K:V->Hz->Prop}{KW:Nat->V->Hz->Prop}(hi:h.get i=some (aZ l))(hn:h.get n=none)(hl:l.length<2^29)(hg: ∀ e∈l,Ce e)
  (h1:K (.own n) ((n,some (aZ (aK l)))::(i,none)::h)) (h2: ∀ m,K (.pU n 0 (aK l).length) ((n,some (.row 50 3 (.elems (aK l)) (List.replicate m zeroV)))::(i,none)::h)):ah Tryz.prog false none 27 [.own i] h n K KW:=by
 refine ah.KY (ts:=[.own 0]) (S.zF l 1 (by decide) hl hg) rfl rfl rfl rfl hi hn ?_;rintro t hp (⟨rfl,rfl⟩|⟨m,rfl,rfl⟩)
 ·exact .inr ⟨.own n,aZ (aK l),rfl,rfl,rfl,h1⟩
 ·exact .inr ⟨.pU n 0 _,.row 50 3 (.elems (aK l)) (List.replicate m zeroV),rfl,F8 _ _,rfl,h2 m⟩
theorem aib{Z:Nat->Prop}{h:Hz}{j:Nat}{v:Int}{l:List Int}(hz:Z j)(q:h.get j=some (je l)):T.sub Z h.ay (gB ⟨v,l⟩) (.agg [.int v,.own j]):=by
 have:=BA hz q;show T.sub Z h.ay (.agg [.int v,.sl 0 false (l.map T.int)]) (.agg [.int v,.own j]);replace this:T.sub Z h.ay (.sl 0 false (l.map T.int)) (.own j):=this;simp only[T.sub] at this;simp only[T.sub,T.dF];exact⟨trivial,this,trivial⟩
theorem Lc{Z:Nat->Prop}{h:Hz}{i j:Nat}{l:List Elem}{e:Elem}(q:h.get i=some (.row 50 3 (.elems l) [.agg [.int e.value,.own j]]))(hi: ¬ Z i)(hz:Z j)(qj:h.get j=some (je e.counts)) :
  ∃ o',h.get i=some o'/\ ¬ Z i/\o'.au.ty=(aZ (l++[e])).au.ty/\o'.au.k=(aZ (l++[e])).au.k/\T.dF Z h.ay (aZ (l++[e])).au.l o'.au.l/\(aZ (l++[e])).au.l.map T.kd=o'.au.l.map T.kd/\(aZ (l++[e])).au.l.map gG=o'.au.l.map gG:=by
 have e1:(aZ (l++[e])).au.l=l.map gB++[gB e]:=by simp[OV.au,Rw.aU,V.aU]
 refine⟨_,q,hi,rfl,rfl,?_,?_,?_⟩
 ·rw[e1];exact yO (dK _) ⟨aib hz qj,trivial⟩
 ·rw[e1]; show _=List.map T.kd (l.map gB++[.agg [.int e.value,.own j]]);rw[cm,cm]; rfl
 ·rw[e1]; show _=List.map gG (l.map gB++[.agg [.int e.value,.own j]]);rw[cm,cm]; rfl
def back(n v k:Nat):List Int:=mM (n-k) (v / 4^k)++List.replicate k 0
theorem RQ{n v k:Nat}(h:k<=n):(back n v k).length=n:=by simp[back,iG]; omega
theorem Oy{n v:Nat}:back n v 0=mM n v:=by simp[back]
theorem uG{n v k:Nat}(h:k<n):back n v k=mM (n-k-1) (v / 4^k / 4)++(((v / 4^k % 4:Nat):Int)::List.replicate k 0):=by
 unfold back;obtain⟨j,hj⟩: ∃ j,n-k=j+1:=⟨n-k-1,by omega⟩
 rw[hj,mM,ax]; rfl
theorem Oz{n v k:Nat}(_h:k<n):back n v (k+1)=mM (n-k-1) (v / 4^k / 4)++((0:Int)::List.replicate k 0):=by
 unfold back;rw[fq,<- Nat.div_div_eq_div_mul,Nat.sub_add_eq,em]
theorem RU{n v k:Nat}(h:k<n)(h3:v / 4^k % 4≠3)(hv:v+1=(v / 4^k+1)*4^k):mM (n-k-1) (v / 4^k / 4)++((((v / 4^k % 4:Nat):Int)+1)::List.replicate k 0)=mM n (v+1):=by
 have e:mM n (v+1)=mM ((n-k-1+1)+k) ((v / 4^k+1)*4^k):=by rw[<- hv]; congr 1; omega
 rw[e,Ov,mM,ax]
 congr 1
 ·congr 1; omega
 ·show _=(((v / 4^k+1) % 4:Nat):Int)::List.replicate k 0
  congr 1; omega
theorem OA{v k:Nat}(h3:v / 4^k % 4=3)(hv:v+1=(v / 4^k+1)*4^k):v+1=(v / 4^(k+1)+1)*4^(k+1):=by
 have e:v / 4^(k+1)=v / 4^k / 4:=by rw[fq,<- Nat.div_div_eq_div_mul]
 rw[e,fq,ft (4^k) 4,<- Nat.mul_assoc]
 have:(v / 4^k / 4+1)*4=v / 4^k+1:=by omega
 rw[this]; exact hv
theorem aaO{n v k:Nat}(h:k<n)(hlt:v<4^n)(h3:v / 4^k % 4≠3)(hv:v+1=(v / 4^k+1)*4^k):v+1<4^n:=by
 have e:4^n=4^(n-k-1)*4*4^k:=by
  rw[<- fq,<- Nat.pow_add]; congr 1; omega
 have h1:v / 4^k<4^(n-k-1)*4:=by
  rw[Nat.div_lt_iff_lt_mul (Nat.pow_pos (by decide))]; omega
 have h2:v / 4^k+1<4^(n-k-1)*4:=by omega
 rw[hv,e];exact Nat.mul_lt_mul_of_pos_right h2 (Nat.pow_pos (by decide))
theorem Xr{n v:Nat}(hlt:v<4^n)(hv:v+1=(v / 4^n+1)*4^n):v+1=4^n:=by
 rw[Nat.div_eq_of_lt hlt] at hv; omega
set_option maxHeartbeats 1000000 in
theorem S.jB(p:aI)(q:Prop')(n vals:Nat)(_hp:dU p)(hq:jm q)(hn:p.states.length=n)(hn0:0<n)(hn6:n<=6)(hvs:max 1 p.values.length=vals)(Xt:vals<=3)(hb:YF n q) :
  aj Tryz.prog 24 [.dat (.fQ p),.dat (.prop q)] (.row 3 false (.elems (aK (xA q n vals (4^n))))):=by
 refine aj.of Bd.jB (by simp) rfl rfl ?_;conv=>whnf
 have hm:=BZ (n:=p.states.length) (by omega);rw[hm];refine .mk (by omega) ?_;refine aA.nil 5 50 3 (by rfl) rfl rfl rfl ?_;refine aA.objs 4 [2,3] (fun v:Nat=>[(5,.own 2),(6,.own 3)]) (fun v=>[(0,.box 27 11 (.dat (.fQ p))),(1,.box 30 7 (.dat (.prop q))),(2,aZ (xA q n vals v)),(3,je (mM n v))]) (fun v=>v<4^n) (fun v=>4^n-v) 0 [0,1,9,7] rfl (by decide) (fun _=>rfl) (Nat.pow_pos (by decide)) ?_ ?_ ?_
 ·exact(sR rfl)
 ·refine⟨dA rfl rfl,dA rfl rfl,dA rfl rfl,⟨rfl,nofun,rfl,rfl,rfl,_,rfl,rfl,rfl,dJ.of_eq ?_⟩,trivial⟩;rw[aaN,hn]
 refine⟨(sR rfl),rfl,?_⟩;rintro v hv;have hbn:=@IC q n vals v;have hbl:=La (q:=q) (n:=n) (vals:=vals) (u:=v);have hbm:v*vals<=4096*3:=f8 (ez (gb hv) (fu (by decide) (show n<=6 from hn6))) Xt;refine ah.lend (S.nI q (mM n v) false hq (by rw[iG]; exact hb) Xq (by rw[iG]; omega)) (And.intro (aC _) (And.intro (BA trivial rfl) trivial)) rfl rfl ?_;refine⟨fun h3=>?_,fun h3=>?_⟩
 ·have hat:Cc q n vals v=(List.range vals).map (fun(w:Nat)=>⟨(w:Int),mM n v⟩):=by rw[Cc,h3]; rfl
  refine aA.Ld 4 [2,3,6,19] (fun w:Nat=>[(20,.int w),(5,.own 2)]) (fun w=>[(0,.box 27 11 (.dat (.fQ p))),(1,.box 30 7 (.dat (.prop q))),(2,aZ (xA q n vals v++(List.range w).map (fun(w:Nat)=>⟨(w:Int),mM n v⟩))),(3,je (mM n v))]) (fun w=>w<=vals) (fun w=>vals-w) 0 [0,1,2,3] [(0,some (.box 27 11 (.dat (.fQ p)))),(1,some (.box 30 7 (.dat (.prop q)))),(2,some (aZ (xA q n vals v))),(3,some (je (mM n v)))] rfl (by decide) (fun _=>rfl) (ab _) ?_ ?_ ?_ ?_
  ·exact(sR rfl)
  ·exact⟨fun _=>False,dM (Z:=fun _=>False) rfl (fun q=>q),dM (Z:=fun _=>False) rfl (fun q=>q),dM (Z:=fun _=>False) rfl (fun q=>q),dM (Z:=fun _=>False) rfl (fun q=>q),trivial⟩
  ·exact⟨FY rfl rfl,FY rfl rfl,okF rfl nofun rfl rfl rfl ⟨rfl,rfl⟩ (by simp),FY rfl rfl,trivial⟩
  refine⟨(sR rfl),rfl,?_⟩;rintro w hw;have hcl:(xA q n vals v++(List.range w).map (fun(w:Nat)=>(⟨(w:Int),mM n v⟩:Elem))).length<=12288+3:=by simp; omega
  refine⟨fun h4=>?_,fun h4=>?_⟩
  ·have hw':w<vals:=by
    have:(w:Int)<max 1 (p.values.length:Int):=ai h4
    omega
   repeat(refine VC.mk (by first|(first|(simp only[jy,jK,Rw.len,bL,cD,iG]; omega)|(show((xA q n vals v++(List.range w).map (fun(w:Nat)=>(⟨(w:Int),mM n v⟩:Elem))).length+(0+1))*32<=140737488355328/\(xA q n vals v++(List.range w).map (fun(w:Nat)=>(⟨(w:Int),mM n v⟩:Elem))).length+(0+1)<=1152921504606846976; omega))|(simp only[okI] at *; first|omega|(simp_all; omega))) ?_)
   refine⟨[(0,some (.box 27 11 (.dat (.fQ p)))),(1,some (.box 30 7 (.dat (.prop q)))),(13,some (aZ ((xA q n vals v++(List.range w).map (fun(w:Nat)=>⟨(w:Int),mM n v⟩))++[⟨(w:Int),mM n v⟩]))),(3,some (je (mM n v)))],w+1,[0,1,13,3],⟨fun i=>i=10,dM (Z:=fun i=>i=10) (i:=0) rfl (by decide),dM (Z:=fun i=>i=10) (i:=1) rfl (by decide),Lc (Z:=fun i=>i=10) (i:=13) (j:=10) rfl (by decide) rfl rfl,dM (Z:=fun i=>i=10) (i:=3) rfl (by decide),trivial⟩,by omega,by omega,(sR rfl),(sR rfl),FY rfl rfl,FY rfl rfl,okF rfl nofun rfl rfl rfl ⟨rfl,rfl⟩ ?_,FY rfl rfl,trivial⟩;rw[ck,cm,<- ax]; rfl
  ·have hw':w=vals:=by
    have: ¬ (w:Int)<max 1 (p.values.length:Int):=aL h4
    omega
   rw[hw',<- hat,<- hbn];refine .mk (by first|(simp only[okI,iG]; omega)|omega) ?_;refine aA.objs 4 [2,3] (fun k:Nat=>[(8,.int ((n:Int)-1-k)),(5,.own 2),(6,.own 3)]) (fun k=>[(0,.box 27 11 (.dat (.fQ p))),(1,.box 30 7 (.dat (.prop q))),(2,aZ (xA q n vals (v+1))),(3,je (back n v k))]) (fun k=>k<=n/\v+1=(v / 4^k+1)*4^k) (fun k=>n-k) 0 [0,1,2,3] rfl (by decide) (fun _=>rfl) ⟨ab _,by simp⟩ ?_ ?_ ?_
   ·refine⟨⟨_,rfl,.eq ?_⟩,⟨_,rfl,.eq rfl⟩,⟨_,rfl,.eq rfl⟩,trivial⟩;show T.int ((n:Int)-1-((0:Nat):Int))=T.int (((mM n v).length:Int)-1);rw[iG]; exact dt T.int (by omega)
   ·refine⟨dA rfl rfl,dA rfl rfl,dA rfl rfl,⟨rfl,nofun,rfl,rfl,rfl,_,rfl,rfl,rfl,dJ.of_eq ?_⟩,trivial⟩;rw[Oy]
   refine⟨(sR rfl),rfl,?_⟩;rintro k ⟨hk,hvk⟩;have hbl:=RQ (v:=v) hk;have hcell:k<n->(back n v k).getD (n-1-k) 0=((v / 4^k % 4:Nat):Int):=fun hkn=>by
    rw[uG hkn]; exact get_at (by rw[iG]; omega)
   have hti:((n:Int)-1-k).toNat=n-1-k:=by omega
   repeat(refine VC.mk (by first|exact id|(intro h; (repeat' apply And.intro)<;>first|exact h|omega|(simp only[Rw.qM]; omega)|(simp only[Rw.rng]; omega))|(simp only[Rw.rng] at *; first|omega|(simp_all; omega))) ?_)
   refine⟨fun h6=>?_,fun h6=>?_⟩
   ·rw[aD] at h6;have hkn:k<n:=by have:=ai h6.1; omega
    have h3:v / 4^k % 4=3:=by
     have:=bv.1 h6.2;rw[hti,hcell hkn] at this; omega
    repeat(refine VC.mk (by first|(simp only[okI]; omega)|(simp only[Rw.rng,hbl]; omega)) ?_)
    refine⟨k+1,[0,1,2,3],⟨by omega,OA h3 hvk⟩,by omega,⟨⟨_,rfl,.eq ?_⟩,⟨_,rfl,.eq rfl⟩,⟨_,rfl,.eq rfl⟩,trivial⟩,(sR rfl),dA rfl rfl,dA rfl rfl,dA rfl rfl,⟨rfl,nofun,rfl,rfl,rfl,_,rfl,rfl,rfl,dJ.of_eq ?_⟩,trivial⟩
    ·show T.int ((n:Int)-1-((k+1:Nat):Int))=T.int ((n:Int)-1-(k:Int)-1);exact dt T.int (by omega)
    ·rw[hti,Oz hkn,uG hkn,uH (by rw[iG]; omega)]
   refine⟨fun h7=>?_,fun h7=>?_⟩
   ·have hkn:k=n:=by have:=ai h7; omega
    subst hkn;rw[Xr hv hvk];refine ah.zF rfl rfl (by have:=La (q:=q) (n:=k) (vals:=vals) (u:=4^k); have h4:4^k*vals<=4096*3:=f8 (fu (by decide) (show k<=6 from hn6)) Xt; omega) (Ox hn6) ?_ (fun m=>?_)
    ·conv=>whnf
     exact ak.aaP rfl
    ·conv=>whnf
     exact ak.adz rfl
   ·have hkn:k<n:=by have:=aL h7; omega
    have h3:v / 4^k % 4≠3:=by
     rw[cC] at h6;rcases h6 with h6|h6
     ·have:=aL h6; omega
     ·intro e
      have:((back n v k).getD ((n:Int)-1-k).toNat 0==3)=false:=h6
      rw[hti,hcell hkn,e] at this; exact absurd this (by decide)
    have hlt4:v / 4^k % 4<4:=Nat.mod_lt _ (by decide);have hc0:=hcell hkn;repeat(refine VC.mk (by first|(simp only[okI,hti,hc0]; omega)|(simp only[Rw.rng,hbl]; omega)) ?_)
    refine⟨v+1,[0,1,2,3],aaO hkn hv h3 hvk,by omega,(sR rfl),(sR rfl),dA rfl rfl,dA rfl rfl,dA rfl rfl,⟨rfl,nofun,rfl,rfl,rfl,_,rfl,rfl,rfl,dJ.of_eq ?_⟩,trivial⟩;rw[hti,hc0,<- RU hkn h3 hvk,uG hkn,uH (by rw[iG]; omega)]
 ·have hat:xA q n vals v=xA q n vals (v+1):=by rw[IC,Cc,h3]; simp
  rw[hat];refine .mk (by first|(simp only[okI,iG]; omega)|omega) ?_;refine aA.objs 4 [2,3] (fun k:Nat=>[(8,.int ((n:Int)-1-k)),(5,.own 2),(6,.own 3)]) (fun k=>[(0,.box 27 11 (.dat (.fQ p))),(1,.box 30 7 (.dat (.prop q))),(2,aZ (xA q n vals (v+1))),(3,je (back n v k))]) (fun k=>k<=n/\v+1=(v / 4^k+1)*4^k) (fun k=>n-k) 0 [0,1,2,3] rfl (by decide) (fun _=>rfl) ⟨ab _,by simp⟩ ?_ ?_ ?_
  ·refine⟨⟨_,rfl,.eq ?_⟩,⟨_,rfl,.eq rfl⟩,⟨_,rfl,.eq rfl⟩,trivial⟩;show T.int ((n:Int)-1-((0:Nat):Int))=T.int (((mM n v).length:Int)-1);rw[iG]; exact dt T.int (by omega)
  ·refine⟨dA rfl rfl,dA rfl rfl,dA rfl rfl,⟨rfl,nofun,rfl,rfl,rfl,_,rfl,rfl,rfl,dJ.of_eq ?_⟩,trivial⟩;rw[Oy]
  refine⟨(sR rfl),rfl,?_⟩;rintro k ⟨hk,hvk⟩;have hbl:=RQ (v:=v) hk;have hcell:k<n->(back n v k).getD (n-1-k) 0=((v / 4^k % 4:Nat):Int):=fun hkn=>by
   rw[uG hkn]; exact get_at (by rw[iG]; omega)
  have hti:((n:Int)-1-k).toNat=n-1-k:=by omega
  repeat(refine VC.mk (by first|exact id|(intro h; (repeat' apply And.intro)<;>first|exact h|omega|(simp only[Rw.qM]; omega)|(simp only[Rw.rng]; omega))|(simp only[Rw.rng] at *; first|omega|(simp_all; omega))) ?_)
  refine⟨fun h6=>?_,fun h6=>?_⟩
  ·rw[aD] at h6;have hkn:k<n:=by have:=ai h6.1; omega
   have h3:v / 4^k % 4=3:=by
    have:=bv.1 h6.2;rw[hti,hcell hkn] at this; omega
   repeat(refine VC.mk (by first|(simp only[okI]; omega)|(simp only[Rw.rng,hbl]; omega)) ?_)
   refine⟨k+1,[0,1,2,3],⟨by omega,OA h3 hvk⟩,by omega,⟨⟨_,rfl,.eq ?_⟩,⟨_,rfl,.eq rfl⟩,⟨_,rfl,.eq rfl⟩,trivial⟩,(sR rfl),dA rfl rfl,dA rfl rfl,dA rfl rfl,⟨rfl,nofun,rfl,rfl,rfl,_,rfl,rfl,rfl,dJ.of_eq ?_⟩,trivial⟩
   ·show T.int ((n:Int)-1-((k+1:Nat):Int))=T.int ((n:Int)-1-(k:Int)-1);exact dt T.int (by omega)
   ·rw[hti,Oz hkn,uG hkn,uH (by rw[iG]; omega)]
  refine⟨fun h7=>?_,fun h7=>?_⟩
  ·have hkn:k=n:=by have:=ai h7; omega
   subst hkn;rw[Xr hv hvk];refine ah.zF rfl rfl (by have:=La (q:=q) (n:=k) (vals:=vals) (u:=4^k); have h4:4^k*vals<=4096*3:=f8 (fu (by decide) (show k<=6 from hn6)) Xt; omega) (Ox hn6) ?_ (fun m=>?_)
   ·conv=>whnf
    exact ak.aaP rfl
   ·conv=>whnf
    exact ak.adz rfl
  ·have hkn:k<n:=by have:=aL h7; omega
   have h3:v / 4^k % 4≠3:=by
    rw[cC] at h6;rcases h6 with h6|h6
    ·have:=aL h6; omega
    ·intro e
     have:((back n v k).getD ((n:Int)-1-k).toNat 0==3)=false:=h6
     rw[hti,hcell hkn,e] at this; exact absurd this (by decide)
   have hlt4:v / 4^k % 4<4:=Nat.mod_lt _ (by decide);have hc0:=hcell hkn;repeat(refine VC.mk (by first|(simp only[okI,hti,hc0]; omega)|(simp only[Rw.rng,hbl]; omega)) ?_)
   refine⟨v+1,[0,1,2,3],aaO hkn hv h3 hvk,by omega,(sR rfl),(sR rfl),dA rfl rfl,dA rfl rfl,dA rfl rfl,⟨rfl,nofun,rfl,rfl,rfl,_,rfl,rfl,rfl,dJ.of_eq ?_⟩,trivial⟩;rw[hti,hc0,<- RU hkn h3 hvk,uG hkn,uH (by rw[iG]; omega)]
def smB(q:Prop')(c:List Int):Bool:=wz q c&&(List.range c.length).all fun x=>c.getD x 0==0|| !(wz q (aS c x (-1)))
theorem aaQ{c:List Int}{i:Nat}(hi:i<c.length):(c.set i (c.getD i 0-1)).set i ((c.set i (c.getD i 0-1)).getD i 0+1)=c:=by
 have e:(c.set i (c.getD i 0-1)).getD i 0=c.getD i 0-1:=by simp[List.getD_eq_getElem?_getD,hi]
 rw[e,List.set_set,show c.getD i 0-1+1=c[i] by simp[hi],gL]
theorem adA{c:List Int}{i:Nat}(h:few c)(h0:c.getD i 0≠0):few (c.set i (c.getD i 0-1)):=by
 intro x hx;rcases fk hx with hx|rfl
 ·exact h x hx
 ·have:=h.get i; omega
theorem S.sS(q:Prop')(c:List Int)(f:Bool)(hq:jm q)(hb:YF c.length q)(hc:few c)(hl:c.length<2^30):aj Tryz.prog 64 [.dat (.prop q),.row 0 f (.ints c)] (.bool (smB q c)):=by
 refine aj.of Bd.sS (by simp) rfl rfl ?_;refine ah.pure (S.qg q c f hq hb hc hl) rfl ?_;refine⟨fun h1=>?_,fun h1=>?_⟩
 ·conv=>whnf
  exact ak.bool (by rw[smB,show wz q c=false by simpa using h1]; rfl)
 have hd:wz q c=true:=by simpa using h1
 refine .mk (by simp only[jy,jK,Rw.len]; omega) ?_;refine aA.objs 2 [2] (fun x:Nat=>[(6,.int x),(5,.own 1)]) (fun x=>[(0,.box 30 7 (.dat (.prop q))),(1,je c)]) (fun x=>x<=c.length/\(List.range x).all (fun x=>c.getD x 0==0|| !(wz q (aS c x (-1))))=true) (fun x=>c.length-x) 0 [0,8] rfl (by decide) (fun _=>rfl) ⟨ab _,rfl⟩ ?_ ?_ ?_
 ·exact(sR rfl)
 ·exact⟨dA rfl rfl,dA rfl rfl,trivial⟩
 refine⟨(sR rfl),rfl,?_⟩;rintro x ⟨hx,hall⟩;have hnext: ∀ b:Bool,(c.getD x 0==0|| !(wz q (aS c x (-1))))=b->(List.range (x+1)).all (fun x=>c.getD x 0==0|| !(wz q (aS c x (-1))))=b:=by
  intro b hb;rw[ck,List.all_append,hall];simp only[gR,List.all_nil,Bool.and_true,cw]; exact hb
 refine⟨fun h3=>?_,fun h3=>?_⟩
 ·have hx':x<c.length:=by simpa using h3
  repeat(refine VC.mk (by simp only[Rw.rng] at *; omega) ?_)
  refine⟨fun h4=>?_,fun h4=>?_⟩
  ·conv=>whnf
   refine .mk (by simp only[okI] at *; omega) ?_;refine⟨x+1,[0,1],⟨by omega,hnext true (by rw[show(c.getD x 0==0)=true from h4]; rfl)⟩,by omega,(sR rfl),(sR rfl),dA rfl rfl,dA rfl rfl,trivial⟩
  ·have h0:c.getD x 0≠0:=by
    have:(c.getD x 0==0)=false:=h4
    simpa using this
   have hg:=hc.get x;have hf:=adA hc h0;have hlen:(c.set x (c.getD x 0-1)).length=c.length:=by simp
   repeat(refine VC.mk (by first|(simp only[okI,ap]; omega)|(simp only[Rw.rng]; omega)) ?_)
   refine ah.lend (S.qg q (c.set x (c.getD x 0-1)) false hq (by rw[hlen]; exact hb) hf (by rw[hlen]; exact hl)) (And.intro (aC _) (And.intro (BA trivial rfl) trivial)) rfl rfl ?_;refine⟨fun h5=>?_,fun h5=>?_⟩
   ·conv=>whnf
    refine ak.bool ?_;have e1:(c.getD x 0==0|| !(wz q (aS c x (-1))))=false:=by
     rw[show(c.getD x 0==0)=false from h4,show wz q (aS c x (-1))=true from h5]; rfl
    rw[smB,hd,cw,ek];intro hc2;rw[bu] at hc2;have:=hc2 x (cL.2 hx');rw[e1] at this; cases this
   ·have hg2:(c.set x (c.getD x 0-1)).getD x 0=c.getD x 0-1:=by simp[List.getD_eq_getElem?_getD,hx']
    repeat(refine VC.mk (by first|(simp only[okI,ap,hg2]; omega)|(simp only[Rw.rng,cx]; omega)) ?_)
    refine⟨x+1,[0,1],⟨by omega,hnext true (by rw[show wz q (aS c x (-1))=false from h5]; simp)⟩,by omega,(sR rfl),(sR rfl),dA rfl rfl,⟨rfl,nofun,rfl,rfl,rfl,_,rfl,rfl,rfl,dJ.of_eq ?_⟩,trivial⟩;have:=aaQ hx';show(je c).au.l=(je ((c.set x (c.getD x 0-1)).set x ((c.set x (c.getD x 0-1)).getD x 0+1))).au.l;rw[this]
 ·have hx':x=c.length:=by
   have: ¬ ((x:Int)<(c.length:Int)):=aL h3
   omega
  subst hx';exact ak.bool (by rw[smB,hd,hall]; rfl)
abbrev fG(l:List (List Int)):OV:=.row 24 0 (.bI l) []
theorem OB(l:List (List Int)):T.bW (l.map Go.Ab.ints)=true:=by
 rw[gq]; intro t ht; obtain⟨x,_,rfl⟩:=av.1 ht; rfl
theorem aaR{h:Hz}{j:Nat}{Z:Nat->Prop}{l:List (List Int)}(hz:Z j)(q:h.get j=some (fG l)):T.sub Z h.ay (V.row 0 false (.bI l)).aH (V.own j).aH:=by
 show T.sub Z h.ay (.sl 0 false (l.map Go.Ab.ints)) (.own j);simp only[T.sub];refine⟨trivial,hz,OB l,by decide,24,?_⟩;have:=aO q; simpa [OV.au,Rw.aU,V.aU] using this
theorem ak.aaS{h:Hz}{j:Nat}{l:List (List Int)}(q:h.get j=some (fG l)):ak (.row 0 false (.bI l)) (.own j) h:=⟨aaR trivial q⟩
theorem DY{Z:Nat->Prop}{h:Hz}{i j:Nat}{r:Rw}{l:List (List Int)}{c:List Int}(q:h.get i=some (.row 24 0 r [.own j]))(hr:r.aU=l.map Go.Ab.ints)(hi: ¬ Z i)(hz:Z j)(qj:h.get j=some (je c)) :
  ∃ o',h.get i=some o'/\ ¬ Z i/\o'.au.ty=(fG (l++[c])).au.ty/\o'.au.k=(fG (l++[c])).au.k/\T.dF Z h.ay (fG (l++[c])).au.l o'.au.l/\(fG (l++[c])).au.l.map T.kd=o'.au.l.map T.kd/\(fG (l++[c])).au.l.map gG=o'.au.l.map gG:=by
 have e1:(fG (l++[c])).au.l=r.aU++[Go.Ab.ints c]:=by rw[hr]; simp[OV.au,Rw.aU,V.aU]
 refine⟨_,q,hi,rfl,rfl,?_,?_,?_⟩
 ·rw[e1];exact yO (dK _) ⟨BA hz qj,trivial⟩
 ·rw[e1]; show _=List.map T.kd (r.aU++[.own j]);rw[cm,cm]; rfl
 ·rw[e1]; show _=List.map gG (r.aU++[.own j]);rw[cm,cm]; rfl
theorem Gg{k:Nat}(hk:k<4): ∀ {m u:Nat},u<4^m->mM (m+1) (k*4^m+u)=(k:Int)::mM m u:=by
 intro m;induction m with
 |zero =>
  intro u hu;have h:u=0:=(by simpa using hu)
  subst h;simp only[mM,Nat.pow_zero,Nat.mul_one,gE,gH];rw[Nat.mod_eq_of_lt hk]
 |succ m ih =>
  intro u hu;rw[fq] at hu;have e:k*4^(m+1)=k*4^m*4:=by rw[fq,Nat.mul_assoc]
  rw[e,mM];rw[show(k*4^m*4+u) / 4=k*4^m+u / 4 by omega,show(k*4^m*4+u) % 4=u % 4 by omega,ih (show u / 4<4^m by omega),mM];rfl
theorem YH{α:Type}{M:Nat}{f:Nat->α}: ∀ {a:Nat},(List.range (a*M)).map f=(List.range a).flatMap fun k=>(List.range M).map fun u=>f (k*M+u):=by
 intro a;induction a with
 |zero=>simp
 |succ a ih =>
  rw[eK,List.range_add,cm,ih,ck,cv];simp
def JU(n:Nat):List (List Int):=(List.range (4^n)).map (mM n)
def outs(n j:Nat):List (List Int):=(List.range (4^(n-j))).map fun u=>List.replicate j 0++mM (n-j) u
def nextK(n j k:Nat):List (List Int):=(List.range k).flatMap fun k=>(outs n (j+1)).map fun c=>c.set j (k:Int)
theorem Le{n j k:Nat}:nextK n j (k+1)=nextK n j k++(outs n (j+1)).map fun c=>c.set j (k:Int):=by
 unfold nextK;rw[ck,cv]; simp
theorem RX{n j:Nat}(hn:n<=6):(outs n j).length<=4096:=by
 simp only[outs,bc,ef]
 have:4^(n-j)<=4^6:=fu (by decide) (by omega)
 exact this
theorem YI{n j k:Nat}(hn:n<=6):(nextK n j k).length<=k*4096:=by
 induction k with
 |zero=>simp[nextK]
 |succ k ih =>
  rw[Le,aM,bc,eK];have:=@RX n (j+1) hn;omega
theorem Vu{n j:Nat}(hj:j<n):nextK n j 4=outs n j:=by
 have e:n-j=(n-(j+1))+1:=by omega
 unfold nextK outs;rw[e,fq,ft,YH];refine dt List.flatten (cM fun k hk=>?_);rw[cT];refine cM fun u hu=>?_
 rw[Gg (cL.1 hk) (cL.1 hu)];show(List.replicate (j+1) 0++mM (n-(j+1)) u).set j (k:Int)=_;rw[List.replicate_succ',ax];exact uH (by simp)
theorem aaT{n:Nat}:outs n 0=JU n:=by simp[outs,JU]
theorem aaU{n j:Nat}(hj:j<=n){c:List Int}(h:c∈outs n j):c.length=n:=by
 obtain⟨u,_,rfl⟩:=av.1 h;simp[iG]; omega
set_option maxHeartbeats 1000000 in
theorem S.Gh(n:Nat)(hn0:0<n)(hn6:n<=6):aj Tryz.prog 63 [.int n,.int 3] (.row 0 false (.bI (JU n))):=by
 refine aj.of Bd.Gh (by simp) rfl rfl ?_;conv=>whnf
 have hm:=BZ (n:=n) hn0;rw[hm];repeat(refine VC.mk (by first|(omega)|(simp only[okI] at *; omega)) ?_)
 refine aA.Ld 1 [0,1] (fun j:Nat=>[(6,.int ((j:Int)-1)),(5,.own 0)]) (fun j=>[(0,fG (outs n j))]) (fun j=>j<=n) (fun j=>j) n [3] [(3,some (fG ([]++[List.replicate n 0])))] rfl (by decide) (fun _=>rfl) (ba _) ?_ ?_ ?_ ?_
 ·exact(sR rfl)
 ·exact⟨fun i=>i=2,DY (Z:=fun i=>i=2) (i:=3) (j:=2) rfl rfl (by decide) rfl rfl,trivial⟩
 ·exact⟨okF rfl nofun rfl rfl rfl ⟨rfl,rfl⟩ (by simp[outs,mM]),trivial⟩
 refine⟨(sR rfl),rfl,?_⟩;rintro j hj;refine⟨fun h3=>?_,fun h3=>?_⟩
 ·obtain⟨j,rfl⟩: ∃ i,j=i+1:=⟨j-1,by have:=ai h3; omega⟩
  have ej:(((j+1:Nat):Int)-1)=(j:Int):=by omega
  rw[ej];refine aA.nil 7 24 0 (by rfl) rfl rfl rfl ?_;refine aA.objs 2 [0,1,5,6] (fun k:Nat=>[(8,.int k),(7,.own 1)]) (fun k=>[(0,fG (outs n (j+1))),(1,fG (nextK n j k))]) (fun k=>k<=4) (fun k=>4-k) 0 [0,5] rfl (by decide) (fun _=>rfl) (ab _) ?_ ?_ ?_
  ·exact(sR rfl)
  ·exact⟨dA rfl rfl,dA rfl rfl,trivial⟩
  refine⟨(sR rfl),rfl,?_⟩;rintro k hk;have hkl:=@YI n j k hn6;have hol:=@RX n (j+1) hn6;refine⟨fun h4=>?_,fun h4=>?_⟩
  ·have hk3:k<=3:=by have:=ai h4; omega
   refine aA.Ld 2 [0,1,5,6,8] (fun i:Nat=>[(9,.int i),(7,.own 1)]) (fun i=>[(0,fG (outs n (j+1))),(1,fG (nextK n j k++((outs n (j+1)).take i).map fun c=>c.set j (k:Int)))]) (fun i=>i<=(outs n (j+1)).length) (fun i=>(outs n (j+1)).length-i) 0 [0,1] [(0,some (fG (outs n (j+1)))),(1,some (fG (nextK n j k)))] rfl (by decide) (fun _=>rfl) (ab _) ?_ ?_ ?_ ?_
   ·exact(sR rfl)
   ·exact⟨fun _=>False,dM (Z:=fun _=>False) rfl (fun q=>q),dM (Z:=fun _=>False) rfl (fun q=>q),trivial⟩
   ·exact⟨FY rfl rfl,okF rfl nofun rfl rfl rfl ⟨rfl,rfl⟩ (by simp),trivial⟩
   refine⟨(sR rfl),rfl,?_⟩;rintro i hi;have hal:(nextK n j k++((outs n (j+1)).take i).map fun c=>c.set j (k:Int)).length<=5*4096:=by
    rw[aM,bc,bE]; omega
   refine⟨fun h5=>?_,fun h5=>?_⟩
   ·have hi':i<(outs n (j+1)).length:=by simpa using h5
    have hcl:((outs n (j+1)).getD i []).length=n:=aaU hj (getD_mem hi');repeat(refine VC.mk (by first|(first|(simp only[jy,jK,Rw.len,ap,hcl]; omega)|(simp only[Rw.rng,ap,hcl]; omega)|(show((nextK n j k++((outs n (j+1)).take i).map fun c=>c.set j (k:Int)).length+(0+1))*24<=140737488355328/\(nextK n j k++((outs n (j+1)).take i).map fun c=>c.set j (k:Int)).length+(0+1)<=1152921504606846976; omega))|(simp only[okI] at *; omega)) ?_)
    refine⟨[(0,some (fG (outs n (j+1)))),(21,some (fG ((nextK n j k++((outs n (j+1)).take i).map fun c=>c.set j (k:Int))++[((outs n (j+1)).getD i []).set j (k:Int)])))],i+1,[0,21],⟨fun i=>i=11,dM (Z:=fun i=>i=11) (i:=0) rfl (by decide),DY (Z:=fun i=>i=11) (i:=21) (j:=11) rfl rfl (by decide) rfl rfl,trivial⟩,by omega,by omega,(sR rfl),(sR rfl),FY rfl rfl,okF rfl nofun rfl rfl rfl ⟨rfl,rfl⟩ ?_,trivial⟩;have ht:(outs n (j+1)).take (i+1)=(outs n (j+1)).take i++[(outs n (j+1)).getD i []]:=by rw[cR]; simp[hi']
    rw[ht,cm,<- ax]; rfl
   ·have hi':i=(outs n (j+1)).length:=by
     have: ¬ ((i:Int)<((outs n (j+1)).length:Int)):=aL h5
     omega
    subst hi';rw[bp,<- Le];refine .mk (by first|(simp only[okI]; omega)|omega) ?_;refine⟨k+1,[0,1],by omega,by omega,(sR rfl),(sR rfl),dA rfl rfl,dA rfl rfl,trivial⟩
  ·have hk4:k=4:=by have:=aL h4; omega
   subst hk4;rw[Vu (by omega)];refine .mk (by first|(simp only[okI]; omega)|omega) ?_;refine⟨[(1,some (fG (outs n j)))],j,[1],⟨fun _=>False,dM (Z:=fun _=>False) rfl (fun q=>q),trivial⟩,by omega,by omega,(sR rfl),(sR rfl),FY rfl rfl,trivial⟩
 ·have hj0:j=0:=by have:=aL h3; omega
  subst hj0;rw[aaT];exact ak.aaS rfl
def smA(q:Prop')(n:Nat)(w i:Nat):List Elem:=((List.range i).filter fun u=>smB q (mM n u)).map fun u=>⟨(w:Int),mM n u⟩
def lJ(q:Prop')(n vals:Nat):List Elem:=(List.range vals).flatMap fun w=>smA q n w (4^n)
theorem aaV{q:Prop'}{n w i:Nat}:smA q n w (i+1)=smA q n w i++bif smB q (mM n i) then [⟨(w:Int),mM n i⟩] else []:=by
 unfold smA;rw[ck,List.filter_append,cm]
 congr 1
 cases h:smB q (mM n i)<;>simp[h]
theorem Xu{q:Prop'}{n w i:Nat}:(smA q n w i).length<=i:=by
 unfold smA;rw[bc];have:=gN (fun u=>smB q (mM n u)) (List.range i);simpa using this
theorem Ci{q:Prop'}{n v:Nat}:lJ q n (v+1)=lJ q n v++smA q n v (4^n):=by
 unfold lJ;rw[ck,cv]; simp
theorem Lh{q:Prop'}{n v:Nat}:(lJ q n v).length<=v*4^n:=by
 induction v with
 |zero=>simp[lJ]
 |succ v ih =>
  rw[Ci,aM,eK];have:=@Xu q n v (4^n); omega
theorem aaW{n i:Nat}(hi:i<4^n):(JU n).getD i []=mM n i:=by
 unfold JU; simp[List.getD_eq_getElem?_getD,hi]
set_option maxHeartbeats 1000000 in
theorem S.Gi(p:aI)(q:Prop')(n vals:Nat)(_hp:dU p)(hq:jm q)(hn:p.states.length=n)(hn0:0<n)(hn6:n<=6)(hvs:max 1 p.values.length=vals)(Xt:vals<=3)(hb:YF n q) :
  aj Tryz.prog 35 [.dat (.fQ p),.dat (.prop q)] (.row 3 false (.elems (lJ q n vals))):=by
 have h46:4^n<=4096:=fu (by decide) (show n<=6 from hn6);have hAl:(JU n).length=4^n:=by simp[JU]
 have hA:=S.Gh n hn0 hn6;rw[<- hn] at hA;refine aj.of Bd.Gi (by simp) rfl rfl ?_;refine ah.pure (hA) rfl ?_;conv=>whnf
 rw[hn];refine aA.nil 6 50 3 (by rfl) rfl rfl rfl ?_;refine aA.objs 3 [2,3,5] (fun v:Nat=>[(7,.int v),(6,.own 2)]) (fun v=>[(0,.box 27 11 (.dat (.fQ p))),(1,.box 30 7 (.dat (.prop q))),(2,aZ (lJ q n v))]) (fun v=>v<=vals) (fun v=>vals-v) 0 [0,1,10] rfl (by decide) (fun _=>rfl) (ab _) ?_ ?_ ?_
 ·exact(sR rfl)
 ·exact⟨dA rfl rfl,dA rfl rfl,dA rfl rfl,trivial⟩
 refine⟨(sR rfl),rfl,?_⟩;rintro v hv;have hrl:=Lh (q:=q) (n:=n) (v:=v);have hr2:v*4^n<=3*4096:=f8 (by omega) h46;refine⟨fun h3=>?_,fun h3=>?_⟩
 ·have hv':v<vals:=by
   have:(v:Int)<max 1 (p.values.length:Int):=ai h3
   omega
  refine aA.Ld 3 [2,3,5,7] (fun i:Nat=>[(8,.int i),(6,.own 2)]) (fun i=>[(0,.box 27 11 (.dat (.fQ p))),(1,.box 30 7 (.dat (.prop q))),(2,aZ (lJ q n v++smA q n v i))]) (fun i=>i<=4^n) (fun i=>4^n-i) 0 [0,1,2] [(0,some (.box 27 11 (.dat (.fQ p)))),(1,some (.box 30 7 (.dat (.prop q)))),(2,some (aZ (lJ q n v)))] rfl (by decide) (fun _=>rfl) (ab _) ?_ ?_ ?_ ?_
  ·exact(sR rfl)
  ·exact⟨fun _=>False,dM (Z:=fun _=>False) rfl (fun q=>q),dM (Z:=fun _=>False) rfl (fun q=>q),dM (Z:=fun _=>False) rfl (fun q=>q),trivial⟩
  ·exact⟨FY rfl rfl,FY rfl rfl,okF rfl nofun rfl rfl rfl ⟨rfl,rfl⟩ (by simp[smA]),trivial⟩
  refine⟨(sR rfl),rfl,?_⟩;rintro i hi;have hsl:=@Xu q n v i;have hal:(lJ q n v++smA q n v i).length<=4*4096:=by rw[aM]; omega
  refine⟨fun h4=>?_,fun h4=>?_⟩
  ·have hi':i<4^n:=by
    have:(i:Int)<((JU n).length:Int):=ai h4
    omega
   have hget:=aaW hi';have hss:=@aaV q n v i;refine .mk (by simp only[Rw.rng,hAl]; omega) ?_;conv=>whnf
   rw[show(JU n).getD (i:Int).toNat []=mM n i from hget];refine ah.pure (S.sS q (mM n i) false hq (by rw[iG]; exact hb) Xq (by rw[iG]; omega)) rfl ?_;refine⟨fun h5=>?_,fun h5=>?_⟩
   ·rw[h5] at hss;repeat(refine VC.mk (by first|(first|(simp only[Rw.rng,ap,hAl]; omega)|(simp only[jy,jK,Rw.len,ap]; rw[hget,iG]; omega)|(show((lJ q n v++smA q n v i).length+(0+1))*32<=140737488355328/\(lJ q n v++smA q n v i).length+(0+1)<=1152921504606846976; omega))|(simp only[okI] at *; omega)) ?_)
    refine⟨[(0,some (.box 27 11 (.dat (.fQ p)))),(1,some (.box 30 7 (.dat (.prop q)))),(23,some (aZ ((lJ q n v++smA q n v i)++[⟨(v:Int),(JU n).getD (i:Int).toNat []⟩])))],i+1,[0,1,23],⟨fun i=>i=20,dM (Z:=fun i=>i=20) (i:=0) rfl (by decide),dM (Z:=fun i=>i=20) (i:=1) rfl (by decide),Lc (Z:=fun i=>i=20) (i:=23) (j:=20) rfl (by decide) rfl rfl,trivial⟩,by omega,by omega,(sR rfl),(sR rfl),FY rfl rfl,FY rfl rfl,okF rfl nofun rfl rfl rfl ⟨rfl,rfl⟩ ?_,trivial⟩;rw[hss,<- ax,show(JU n).getD (i:Int).toNat []=mM n i from hget]; rfl
   ·rw[h5] at hss;refine .mk (by simp only[okI] at *; omega) ?_;refine⟨[(0,some (.box 27 11 (.dat (.fQ p)))),(1,some (.box 30 7 (.dat (.prop q)))),(2,some (aZ (lJ q n v++smA q n v i)))],i+1,[0,1,2],⟨fun _=>False,dM (Z:=fun _=>False) rfl (fun q=>q),dM (Z:=fun _=>False) rfl (fun q=>q),dM (Z:=fun _=>False) rfl (fun q=>q),trivial⟩,by omega,by omega,(sR rfl),(sR rfl),FY rfl rfl,FY rfl rfl,okF rfl nofun rfl rfl rfl ⟨rfl,rfl⟩ (by rw[hss]; simp),trivial⟩
  ·have hi':i=4^n:=by
    have: ¬ ((i:Int)<((JU n).length:Int)):=aL h4
    omega
   rw[hi',<- Ci];refine .mk (by simp only[okI] at *; omega) ?_;refine⟨v+1,[0,1,2],by omega,by omega,(sR rfl),(sR rfl),dA rfl rfl,dA rfl rfl,dA rfl rfl,trivial⟩
 ·have hv':v=vals:=by
   have: ¬ (v:Int)<max 1 (p.values.length:Int):=aL h3
   omega
  rw[hv'];exact ak.aaP rfl
theorem YJ{a b:List Int}(h:ny a b=true)(hne:a≠b): ∃ x,x<b.length/\a.getD x 0<b.getD x 0:=by
 refine Classical.byContradiction fun hc=>hne ?_
 obtain⟨h1,h2⟩:=nC.1 h;refine de h1 fun i hi hj=>?_
 have e1:=h2 i hi;have e2: ¬ a.getD i 0<b.getD i 0:=fun q=>hc ⟨i,hj,q⟩
 rw[show a.getD i 0=a[i] by simp[hi],show b.getD i 0=b[i] by simp[hj]] at e1 e2;omega
theorem aaX{q:Prop'}{a b:List Int}(h:ny a b=true)(hd:wz q a=true):wz q b=true:=by
 unfold wz at hd ⊢;rw[bu] at hd ⊢;intro k hk;have:=ai (hd k hk);refine cJ (Int.le_trans this ?_);unfold BN;generalize k.states=st;induction st with
 |nil=>exact gk _
 |cons x r ih =>
  simp only[cG,eW];have:=RI h x.toNat;omega
theorem YK{a b:List Int}{x:Nat}(h:ny a b=true)(hx:a.getD x 0<b.getD x 0):ny a (aS b x (-1))=true:=by
 obtain⟨h1,h2⟩:=nC.1 h;refine nC.2 ⟨by rw[zA,h1],fun i hi=>?_⟩;rw[IB];split
 ·rename_i hc
  have:i=x:=by have:=hc.1; simpa using this
  subst this; omega
 ·exact h2 i hi
theorem YL{b:List Int}{x:Nat}:ny (aS b x (-1)) b=true:=by
 refine nC.2 ⟨zA,fun i hi=>?_⟩;rw[IB];split<;>omega
theorem adB{n:Nat}: ∀ {c:List Int},c.length=n->(∀ x∈c,0<=x/\x<=3)-> ∃ u,u<4^n/\mM n u=c:=by
 induction n with
 |zero=>intro c h _; exact⟨0,by decide,by rw[ao h]; rfl⟩
 |succ n ih =>
  intro c h hc;cases c with
  |nil=>simp at h
  |cons k c =>
   simp only[bL] at h;obtain⟨u,h1,h2⟩:=ih (c:=c) (by omega) fun x hx=>hc x (by simp[hx])
   have hk:=hc k (by simp);obtain⟨j,rfl⟩: ∃ j:Nat,k=j:=⟨k.toNat,by omega⟩
   refine⟨j*4^n+u,?_,?_⟩
   ·rw[fq]
    have:j*4^n<=3*4^n:=cp _ (by omega)
    omega
   ·rw[Gg (by omega) h1,h2]
theorem afO: ∀ {n u v:Nat},u<v->v<4^n->cmpL (mM n u) (mM n v)<0:=by
 intro n;induction n with
 |zero=>intro u v h1 h2; simp at h2; omega
 |succ n ih =>
  intro u v h1 h2;have hp:0<4^n:=Nat.pow_pos (by decide);rw[fq] at h2;have eu:u=u / 4^n*4^n+u % 4^n:=(Nat.div_add_mod' u (4^n)).symm;have ev:v=v / 4^n*4^n+v % 4^n:=(Nat.div_add_mod' v (4^n)).symm;have lv:v / 4^n<4:=(Nat.div_lt_iff_lt_mul hp).2 (by omega);have le:u / 4^n<=v / 4^n:=Nat.div_le_div_right (by omega);have d1:mM (n+1) u=((u / 4^n:Nat):Int)::mM n (u % 4^n):=by
   conv=>lhs; rw[eu]
   exact Gg (by omega) (Nat.mod_lt _ hp)
  have d2:mM (n+1) v=((v / 4^n:Nat):Int)::mM n (v % 4^n):=by
   conv=>lhs; rw[ev]
   exact Gg lv (Nat.mod_lt _ hp)
  rw[d1,d2];simp only[cmpL];by_cases e:u / 4^n=v / 4^n
  ·rw[bX (by omega),bX (by omega)];refine ih ?_ (Nat.mod_lt _ hp);rw[e] at eu; omega
  ·rw[bk (by omega)]; decide
theorem YM{q:Prop'}{n vals:Nat}:SS (lJ q n vals):=by
 induction vals with
 |zero=>simp[lJ,SS]
 |succ v ih =>
  rw[Ci];simp only[SS,eT];refine⟨ih,?_,fun x hx y hy=>?_⟩
  ·unfold smA;rw[ee];refine List.Pairwise.filter _ ?_;refine List.Pairwise.imp_of_mem (R:=fun a b=>a<b) (fun {a b} ha hb h=>?_) List.pairwise_lt_range;show gY ⟨(v:Int),mM n a⟩ ⟨(v:Int),mM n b⟩<0;simp only[gY];rw[bX (by omega),bX (by omega)];exact afO h (cL.1 hb)
  ·obtain⟨w,h1,h2⟩:=ci.1 hx;obtain⟨u,_,rfl⟩:=av.1 h2;obtain⟨u',_,rfl⟩:=av.1 hy;have:=cL.1 h1;simp only[gY];rw[bk (by omega)]; decide
theorem Lj{q:Prop'}{n vals:Nat}{e:Elem}:e∈xA q n vals (4^n)↔ ∃ u w,u<4^n/\w<vals/\wz q (mM n u)=true/\e=⟨((w:Nat):Int),mM n u⟩:=by
 unfold xA;rw[ci];constructor
 ·rintro⟨u,h1,h2⟩;unfold Cc at h2;cases hd:wz q (mM n u) with
  |false=>rw[hd] at h2; cases h2
  |true =>
   rw[hd] at h2;obtain⟨w,h3,rfl⟩:=av.1 h2;exact⟨u,w,cL.1 h1,cL.1 h3,hd,rfl⟩
 ·rintro⟨u,w,h1,h2,h3,rfl⟩;refine⟨u,cL.2 h1,?_⟩;unfold Cc;rw[h3];exact av.2 ⟨w,cL.2 h2,rfl⟩
theorem Xv{q:Prop'}{c:List Int}(hc: ∀ x∈c,0<=x):smB q c=true↔wz q c=true/\ ∀ a,(∀ x∈a,0<=x)->ny a c=true->a≠c->wz q a=false:=by
 have gz: ∀ {l:List Int},(∀ x∈l,0<=x)-> ∀ i,0<=l.getD i 0:=fun {l} h i=>by
  by_cases hi:i<l.length
  ·rw[show l.getD i 0=l[i] by simp[hi]]; exact h _ (be hi)
  ·rw[show l.getD i 0=0 by simp[List.getD_eq_getElem?_getD,List.getElem?_eq_none (by omega:l.length<=i)]]; omega
 unfold smB;rw[aD,bu];constructor
 ·rintro⟨h1,h2⟩;refine⟨h1,fun a ha hl hne=>?_⟩;obtain⟨x,hx,hlt⟩:=YJ hl hne;have h3:=h2 x (cL.2 hx);have h4:c.getD x 0≠0:=by have:=gz ha x; omega
  rw[show(c.getD x 0==0)=false by simpa using h4,cr,bo] at h3;cases hd:wz q a with
  |false=>rfl
  |true=>rw[aaX (YK hl hlt) hd] at h3; cases h3
 ·rintro⟨h1,h2⟩;refine⟨h1,fun x hx=>?_⟩;have hx':=cL.1 hx;by_cases h0:c.getD x 0=0
  ·rw[show(c.getD x 0==0)=true by simpa using h0]; rfl
  ·have h3:=h2 (aS c x (-1)) (fun y hy=>by
    rcases fk hy with hy|rfl
    ·exact hc y hy
    ·have:=gz hc x; simp only[ap]; omega) YL (fun e=>by
    have:(aS c x (-1)).getD x 0=c.getD x 0:=by rw[e]
    rw[IB,bk ⟨by simp,hx'⟩] at this; omega)
   rw[h3]; simp
theorem bad_law{q:Prop'}{n vals:Nat}:aK (xA q n vals (4^n))=lJ q n vals:=by
 have nn: ∀ {u:Nat},∀ x∈mM n u,0<=x:=fun {u} x hx=>(Gf x hx).1
 refine zG (bZ _).1 YM fun e=>?_
 rw[(bZ _).2,Lj];constructor
 ·rintro⟨⟨u,w,h1,h2,h3,rfl⟩,h4⟩;refine ci.2 ⟨w,cL.2 h2,av.2 ⟨u,eQ.2 ⟨cL.2 h1,?_⟩,rfl⟩⟩;refine(Xv nn).2 ⟨h3,fun a ha hl hne=>?_⟩;cases hd:wz q a with
  |false=>rfl
  |true =>
   exfalso;have hal:a.length=n:=by rw[(nC.1 hl).1,iG]
   obtain⟨u',g1,rfl⟩:=adB hal fun x hx=>by
    refine⟨ha x hx,?_⟩;obtain⟨i,hi,rfl⟩:=List.mem_iff_getElem.1 hx;have e1:=RI hl i;rw[show a.getD i 0=a[i] by simp[hi]] at e1;have hi2:i<(mM n u).length:=by rw[iG]; omega
    rw[show(mM n u).getD i 0=(mM n u)[i] by simp[hi2]] at e1;have:=Gf _ (be hi2);omega
   rw[co] at h4;refine h4 ⟨(w:Int),mM n u'⟩ (Lj.2 ⟨u',w,g1,h2,hd,rfl⟩) (nJ.2 ⟨?_,fun e=>hne (dt Elem.counts e)⟩);simp only[kL,BEq.rfl,cw]; exact hl
 ·intro h;obtain⟨w,h1,h2⟩:=ci.1 h;obtain⟨u,h3,rfl⟩:=av.1 h2;obtain⟨h4,h5⟩:=eQ.1 h3;obtain⟨s1,s2⟩:=(Xv nn).1 h5;refine⟨⟨u,w,cL.1 h4,cL.1 h1,s1,rfl⟩,?_⟩;rw[co];intro y hy hab;obtain⟨u',w',g1,g2,g3,rfl⟩:=Lj.1 hy;obtain⟨hl,hne⟩:=nJ.1 hab;simp only[kL,aD,bv] at hl;have:=s2 (mM n u') nn hl.2 (fun e=>hne (by rw[hl.1,e]));rw[g3] at this; cases this
def iR(p:aI)(q:Prop'):List Elem:=bif cZ p q !=0 then [] else lJ q p.states.length (max 1 p.values.length)
theorem Cj(p:aI)(q:Prop')(_hp:dU p):(iR p q).length<2^30/\dS (iR p q):=by
 unfold iR;cases h1:(cZ p q !=0) with
 |true=>exact⟨by show([]:List Elem).length<_; decide,fun x hx=>by cases hx⟩
 |false =>
  obtain⟨b1,b2,b3,b4⟩:=Iw (BM h1);have hv:=KX b3;have v2:=hv.states; have v3:=hv.values;have h46:4^p.states.length<=4^6:=fu (by decide) v2;have h47:(4:Nat)^6=4096:=by decide
  have h1:=Lh (q:=q) (n:=p.states.length) (v:=max 1 p.values.length);have h2:max 1 p.values.length*4^p.states.length<=3*4096:=f8 (by omega) (by omega);refine⟨by show(lJ _ _ _).length<_; omega,fun x hx=>?_⟩;obtain⟨w,_,h3⟩:=ci.1 hx;obtain⟨u,_,rfl⟩:=av.1 h3;show(mM _ _).length<_;rw[iG]; omega
end Go.Proofs.YtbdbmfccbpfeoabGreatDoor
