/-
 A part of the proof. No condition.
-/
import Derived.Test.YtkmldgihhaooaaaGreatDoorFa
import Derived.Test.YtkmldgihhaooaaaGreatDoorHb
import Derived.Test.YtkmldgihhaooaaaGreatDoorLg
namespace Go.Proofs.YtkmldgihhaooaaaGreatDoor
open Go.Ab Go.Proofs
set_option maxRecDepth 100000
def G9(st c:List Int):Int:=(st.map fun x=>c.getD x.toNat 0).sum
def Eb(q:Prop')(c:List Int):Bool:=q.bad.all fun k=>decide (k.least<=G9 k.states c)
structure aeJ(n:Nat)(q:Prop'):Prop where
 place: ∀ k∈q.bad,qy n k.states
 least: ∀ k∈q.bad,1<=k.least/\k.least<=3
 some: ∀ k∈q.bad,k.states≠[]
def few(c:List Int):Prop:= ∀ x∈c,0<=x/\x<=4
theorem few.get{c:List Int}(h:few c)(i:Nat):0<=c.getD i 0/\c.getD i 0<=4:=by
 by_cases hi:i<c.length
 ·rw[show c.getD i 0=c[i] by simp[hi]]; exact h _ (List.getElem_mem hi)
 ·rw[show c.getD i 0=0 by simp[List.getD_eq_getElem?_getD,List.getElem?_eq_none (by omega:c.length<=i)]]; omega
theorem Xv{st c:List Int}{i:Nat}(hi:i<st.length):G9 (st.take (i+1)) c=G9 (st.take i) c+c.getD (st.getD i 0).toNat 0:=by
 unfold G9
 rw[List.take_add_one,List.map_append,List.sum_append]; simp[hi]
theorem ZG{st c:List Int}(h:few c):0<=G9 st c/\G9 st c<=4*st.length:=by
 unfold G9
 induction st with
 |nil=>simp
 |cons x r ih =>
  have:=h.get x.toNat
  simp only[List.map_cons,List.sum_cons,List.length_cons]; omega
theorem getD_mem{α:Type}{l:List α}{i:Nat}{d:α}(hi:i<l.length):l.getD i d∈l:=by
 rw[show l.getD i d=l[i] by simp[hi]]; exact List.getElem_mem hi
theorem S.ng(q:Prop')(c:List Int)(f:Bool)(hq:uU q)(hb:aeJ c.length q)(hc:few c)(_hl:c.length<2^30):aj Tryz.prog 74 [.dat (.prop q),.row 0 f (.ints c)] (.bool (Eb q c)):=by
 have q2:=hq.bad
 refine aj.of Bd.ng (by simp) rfl rfl ?_
 refine aC.same [1,11,12] (fun i:Nat=>[(13,.int i)]) (fun i=>i<=q.bad.length/\(q.bad.take i).all (fun k=>decide (k.least<=G9 k.states c))=true) (fun i=>q.bad.length-i) 0 rfl (by decide) rfl (fun _=>rfl) ⟨by omega,by simp⟩ ⟨⟨_,rfl,rfl⟩,trivial⟩ ?_
 refine⟨rfl,?_⟩
 rintro i ⟨hi,hall⟩
 refine⟨fun h3=>?_,fun h3=>?_⟩
 ·have hi':i<q.bad.length:=by simpa using h3
  have hk:=getD_mem (d:=default) hi'
  have hpl:=hb.place _ hk
  have hsz:=hq.cnt i
  refine .mk (by simp only[Rw.rng] at *; omega) ?_
  refine aC.same [1,6,11,12,13,18,19] (fun j:Nat=>[(20,.int j),(7,.int (G9 ((q.bad.getD i default).states.take j) c))]) (fun j=>j<=(q.bad.getD i default).states.length) (fun j=>(q.bad.getD i default).states.length-j) 0 rfl (by decide) rfl (fun _=>rfl) (Nat.zero_le _) ⟨⟨_,rfl,rfl⟩,⟨_,rfl,rfl⟩,trivial⟩ ?_
  refine⟨rfl,?_⟩
  rintro j hj
  have hs1:=ZG (st:=(q.bad.getD i default).states.take j) hc
  have hl1:((q.bad.getD i default).states.take j).length<=(q.bad.getD i default).states.length:=by rw[List.length_take]; omega
  refine⟨fun h4=>?_,fun h4=>?_⟩
  ·have hj':j<(q.bad.getD i default).states.length:=by simpa using h4
   have hst:=Xv (c:=c) hj'
   have hg:=hc.get ((q.bad.getD i default).states.getD j 0).toNat
   obtain⟨p1,p2⟩:=hpl _ (getD_mem (d:=0) hj')
   repeat(refine VC.mk (by first|(simp only[Rw.rng,Int.toNat_natCast]; omega)|(simp only[okI,Int.toNat_natCast] at *; omega)) ?_)
   refine⟨j+1,by omega,by omega,⟨⟨_,rfl,rfl⟩,⟨_,rfl,?_⟩,trivial⟩,?_,rfl⟩
   ·rw[hst]; rfl
   ·repeat' (first|exact trivial|exact⟨_,rfl,rfl⟩|constructor)
  ·have hj':(q.bad.getD i default).states.length<=j:=by simpa using h4
   rw[List.take_of_length_le hj']
   refine⟨fun h5=>?_,fun h5=>?_⟩
   ·conv=>whnf
    refine ak.bool ?_
    have: ¬ (q.bad.getD i default).least<=G9 (q.bad.getD i default).states c:=by
     simp only[Int.toNat_natCast] at h5
     have:=of_decide_eq_true h5; omega
    exact Ec (p:=fun k=>decide (k.least<=G9 k.states c)) (d:=default) hi' (decide_eq_false this)
   ·conv=>whnf
    refine .mk (by simp only[okI] at *; omega) ?_
    conv=>whnf
    have:(q.bad.getD i default).least<=G9 (q.bad.getD i default).states c:=by
     simp only[Int.toNat_natCast] at h5
     have:=of_decide_eq_false h5; omega
    refine⟨i+1,⟨by omega,?_⟩,by omega,⟨⟨_,rfl,rfl⟩,trivial⟩,?_,rfl⟩
    ·rw[He (d:=default) hi' hall]; exact decide_eq_true this
    ·repeat' (first|exact trivial|exact⟨_,rfl,rfl⟩|constructor)
 ·have hi':q.bad.length<=i:=by simpa using h3
  rw[List.take_of_length_le hi'] at hall
  exact ak.bool hall
theorem O6{p:aO}{q:Prop'}(h:fV p q=0):q.kind=1/\aeJ p.states.length q/\bn p=0/\(fK p).cover=true:=by
 have hp:=Ea h
 have hv:=J3 hp
 have hc:=h
 unfold fV at hc
 obtain⟨_,hc⟩:=bz nz hc
 have hc':=G7 hc (by decide)
 rw[Bool.or_eq_false_iff,Bool.not_eq_false'] at hc'
 have hk:q.kind=1:=by simpa using hc'.2
 unfold qM at hp
 obtain⟨_,hp⟩:=bz nz hp
 obtain⟨_,hp⟩:=bz (fun _=>by decide) hp
 obtain⟨_,hp⟩:=bz (fun _=>by decide) hp
 obtain⟨_,hp⟩:=bz (fun _=>by decide) hp
 obtain⟨_,hp⟩:=bz nz hp
 obtain⟨_,hp⟩:=bz (fun _=>by decide) hp
 rw[show(!(q.kind==1))=false by simp[hk]] at hp
 have hcn:=kV hp (CW q.bad p.states.length) (by simp)
 have hall: ∀ k∈q.bad,ZE p.states.length k=0:=fun k hk=>kV hcn _ (List.mem_map.2 ⟨k,hk,rfl⟩)
 have hlb: ∀ k∈q.bad,wG k=false:=fun k hk=>G7 (kV (hall k hk) (dP (wG k) 1) (by simp)) (by decide)
 refine⟨hk,⟨fun k hk=>G6 (kV (hall k hk) (jA k.states p.states.length) (by simp)),fun k hk=>?_,fun k hk e=>?_⟩,hv,hc'.1⟩
 ·have:=hlb k hk
  simp only[wG,Bool.or_eq_false_iff,decide_eq_false_iff_not] at this; omega
 ·have:=hlb k hk
  rw[wG,e] at this; simp at this
def oZ:Nat->Nat->List Int
 |0,_=>[]
 |n+1,v=>oZ n (v / 4)++[((v % 4:Nat):Int)]
theorem jD: ∀ {n v:Nat},(oZ n v).length=n:=by
 intro n
 induction n with
 |zero=>intro v; rfl
 |succ n ih=>intro v; simp[oZ,ih]
theorem Fh: ∀ {n v:Nat},∀ x∈oZ n v,0<=x/\x<=3:=by
 intro n
 induction n with
 |zero=>intro v x h; cases h
 |succ n ih =>
  intro v x h
  rcases List.mem_append.1 h with h|h
  ·exact ih x h
  ·rw[List.mem_singleton] at h; subst h; omega
theorem acs{n v:Nat}:few (oZ n v):=fun x h=>by have:=Fh x h; omega
theorem Nv{n u:Nat}: ∀ {k:Nat},oZ (n+k) (u*4^k)=oZ n u++List.replicate k 0:=by
 intro k
 induction k with
 |zero=>simp
 |succ k ih =>
  rw[<- Nat.add_assoc]
  simp only[oZ]
  rw[Nat.pow_succ,<- Nat.mul_assoc,Nat.mul_div_cancel _ (by decide:0<4),ih,Nat.mul_mod_left,List.append_assoc,List.replicate_succ']
  rfl
theorem ZH{n:Nat}:oZ n 0=List.replicate n 0:=by
 have:=@Nv 0 0 n
 simpa [oZ] using this
def A8(q:Prop')(n vals v:Nat):List Elem:=bif Eb q (oZ n v) then(List.range vals).map (fun(w:Nat)=>⟨(w:Int),oZ n v⟩) else []
def wH(q:Prop')(n vals u:Nat):List Elem:=(List.range u).flatMap (A8 q n vals)
theorem Hf{q:Prop'}{n vals u:Nat}:wH q n vals (u+1)=wH q n vals u++A8 q n vals u:=by
 unfold wH
 rw[List.range_succ,List.flatMap_append]; simp
theorem J4{q:Prop'}{n vals u:Nat}:(wH q n vals u).length<=u*vals:=by
 induction u with
 |zero=>simp[wH]
 |succ u ih =>
  rw[Hf,List.length_append,Nat.succ_mul]
  have:(A8 q n vals u).length<=vals:=by
   unfold A8
   cases Eb q (oZ n u)<;>simp
  omega
theorem Xw{q:Prop'}{n vals v:Nat}{e:Elem}(h:e∈A8 q n vals v):e.counts=oZ n v:=by
 unfold A8 at h
 cases hd:Eb q (oZ n v) with
 |false=>rw[hd] at h; cases h
 |true =>
  rw[hd] at h
  obtain⟨w,_,rfl⟩:=List.mem_map.1 h
  rfl
theorem Nw{q:Prop'}{n vals u:Nat}(hn:n<=6): ∀ e∈wH q n vals u,Ba e:=by
 intro e h
 obtain⟨v,_,h2⟩:=List.mem_flatMap.1 h
 rw[show e=⟨e.value,e.counts⟩ from rfl,Xw h2]
 exact⟨by rw[jD]; exact hn,fun x hx=>by have:=Fh x hx; omega⟩
theorem ah.yR{h:Hz}{i n:Nat}{l:List Elem}{K:V->Hz->Prop}{KW:Nat->V->Hz->Prop}(hi:h.get i=some (bT l))(hn:h.get n=none)(hl:l.length<2^29)(hg: ∀ e∈l,Ba e)
  (h1:K (.own n) ((n,some (bT (aX l)))::(i,none)::h)) (h2: ∀ m,K (.pK n 0 (aX l).length) ((n,some (.row 35 3 (.elems (aX l)) (List.replicate m zeroV)))::(i,none)::h)):ah Tryz.prog false none 75 [.own i] h n K KW:=by
 refine ah.O5 (ts:=[.own 0]) (S.yR l 1 (by decide) hl hg) rfl rfl rfl rfl hi hn ?_
 rintro t hp (⟨rfl,rfl⟩|⟨m,rfl,rfl⟩)
 ·exact .inr ⟨.own n,bT (aX l),rfl,rfl,rfl,h1⟩
 ·exact .inr ⟨.pK n 0 _,.row 35 3 (.elems (aX l)) (List.replicate m zeroV),rfl,Fb _ _,rfl,h2 m⟩
theorem ahh{Z:Nat->Prop}{h:Hz}{j:Nat}{v:Int}{l:List Int}(hz:Z j)(q:h.get j=some (jm l)):T.sub Z h.ay (gQ ⟨v,l⟩) (.agg [.int v,.own j]):=by
 have:=AY hz q
 show T.sub Z h.ay (.agg [.int v,.sl 0 false (l.map T.int)]) (.agg [.int v,.own j])
 replace this:T.sub Z h.ay (.sl 0 false (l.map T.int)) (.own j):=this
 simp only[T.sub] at this
 simp only[T.sub,T.dH]
 exact⟨trivial,this,trivial⟩
theorem QE{Z:Nat->Prop}{h:Hz}{i j:Nat}{l:List Elem}{e:Elem}(q:h.get i=some (.row 35 3 (.elems l) [.agg [.int e.value,.own j]]))(hi: ¬ Z i)(hz:Z j)(qj:h.get j=some (jm e.counts)) :
  ∃ o',h.get i=some o'/\ ¬ Z i/\o'.au.ty=(bT (l++[e])).au.ty/\o'.au.k=(bT (l++[e])).au.k/\T.dH Z h.ay (bT (l++[e])).au.l o'.au.l/\(bT (l++[e])).au.l.map T.kd=o'.au.l.map T.kd/\(bT (l++[e])).au.l.map fZ=o'.au.l.map fZ:=by
 have e1:(bT (l++[e])).au.l=l.map gQ++[gQ e]:=by simp[OV.au,Rw.aU,V.aU]
 refine⟨_,q,hi,rfl,rfl,?_,?_,?_⟩
 ·rw[e1]
  exact xZ (dJ _) ⟨ahh hz qj,trivial⟩
 ·rw[e1]; show _=List.map T.kd (l.map gQ++[.agg [.int e.value,.own j]])
  rw[List.map_append,List.map_append]; rfl
 ·rw[e1]; show _=List.map fZ (l.map gQ++[.agg [.int e.value,.own j]])
  rw[List.map_append,List.map_append]; rfl
def back(n v k:Nat):List Int:=oZ (n-k) (v / 4^k)++List.replicate k 0
theorem QF{n v k:Nat}(h:k<=n):(back n v k).length=n:=by simp[back,jD]; omega
theorem Ny{n v:Nat}:back n v 0=oZ n v:=by simp[back]
theorem tJ{n v k:Nat}(h:k<n):back n v k=oZ (n-k-1) (v / 4^k / 4)++(((v / 4^k % 4:Nat):Int)::List.replicate k 0):=by
 unfold back
 obtain⟨j,hj⟩: ∃ j,n-k=j+1:=⟨n-k-1,by omega⟩
 rw[hj,oZ,List.append_assoc]; rfl
theorem Nz{n v k:Nat}(_h:k<n):back n v (k+1)=oZ (n-k-1) (v / 4^k / 4)++((0:Int)::List.replicate k 0):=by
 unfold back
 rw[Nat.pow_succ,<- Nat.div_div_eq_div_mul,Nat.sub_add_eq,List.replicate_succ]
theorem QG{n v k:Nat}(h:k<n)(h3:v / 4^k % 4≠3)(hv:v+1=(v / 4^k+1)*4^k):oZ (n-k-1) (v / 4^k / 4)++((((v / 4^k % 4:Nat):Int)+1)::List.replicate k 0)=oZ n (v+1):=by
 have e:oZ n (v+1)=oZ ((n-k-1+1)+k) ((v / 4^k+1)*4^k):=by rw[<- hv]; congr 1; omega
 rw[e,Nv,oZ,List.append_assoc]
 congr 1
 ·congr 1; omega
 ·show _=(((v / 4^k+1) % 4:Nat):Int)::List.replicate k 0
  congr 1; omega
theorem NC{v k:Nat}(h3:v / 4^k % 4=3)(hv:v+1=(v / 4^k+1)*4^k):v+1=(v / 4^(k+1)+1)*4^(k+1):=by
 have e:v / 4^(k+1)=v / 4^k / 4:=by rw[Nat.pow_succ,<- Nat.div_div_eq_div_mul]
 rw[e,Nat.pow_succ,Nat.mul_comm (4^k) 4,<- Nat.mul_assoc]
 have:(v / 4^k / 4+1)*4=v / 4^k+1:=by omega
 rw[this]; exact hv
theorem ZI{n v k:Nat}(h:k<n)(hlt:v<4^n)(h3:v / 4^k % 4≠3)(hv:v+1=(v / 4^k+1)*4^k):v+1<4^n:=by
 have e:4^n=4^(n-k-1)*4*4^k:=by
  rw[<- Nat.pow_succ,<- Nat.pow_add]; congr 1; omega
 have h1:v / 4^k<4^(n-k-1)*4:=by
  rw[Nat.div_lt_iff_lt_mul (Nat.pow_pos (by decide))]; omega
 have h2:v / 4^k+1<4^(n-k-1)*4:=by omega
 rw[hv,e]
 exact Nat.mul_lt_mul_of_pos_right h2 (Nat.pow_pos (by decide))
theorem VN{n v:Nat}(hlt:v<4^n)(hv:v+1=(v / 4^n+1)*4^n):v+1=4^n:=by
 rw[Nat.div_eq_of_lt hlt] at hv; omega
set_option maxHeartbeats 1000000 in
theorem S.jf(p:aO)(q:Prop')(n vals:Nat)(_hp:fE p)(hq:uU q)(hn:p.states.length=n)(hn0:0<n)(hn6:n<=6)(hvs:max 1 p.values.length=vals)(ZJ:vals<=3)(hb:aeJ n q) :
  aj Tryz.prog 46 [.dat (.iI p),.dat (.prop q)] (.row 3 false (.elems (aX (wH q n vals (4^n))))):=by
 refine aj.of Bd.jf (by simp) rfl rfl ?_
 conv=>whnf
 have hm:=E9 (n:=p.states.length) (by omega)
 rw[hm]
 refine .mk (by omega) ?_
 refine aC.nil 5 35 3 (by rfl) rfl rfl rfl ?_
 refine aC.objs 4 [2,3] (fun v:Nat=>[(5,.own 2),(6,.own 3)]) (fun v=>[(0,.box 27 11 (.dat (.iI p))),(1,.box 30 7 (.dat (.prop q))),(2,bT (wH q n vals v)),(3,jm (oZ n v))]) (fun v=>v<4^n) (fun v=>4^n-v) 0 [0,1,9,7] rfl (by decide) (fun _=>rfl) (Nat.pow_pos (by decide)) ?_ ?_ ?_
 ·exact(sR rfl)
 ·refine⟨fC rfl rfl,fC rfl rfl,fC rfl rfl,⟨rfl,nofun,rfl,rfl,rfl,_,rfl,rfl,rfl,dR.of_eq ?_⟩,trivial⟩
  rw[ZH,hn]
 refine⟨(sR rfl),rfl,?_⟩
 rintro v hv
 have hbn:=@Hf q n vals v
 have hbl:=J4 (q:=q) (n:=n) (vals:=vals) (u:=v)
 have hbm:v*vals<=4096*3:=Nat.mul_le_mul (Nat.le_trans (Nat.le_of_lt hv) (Nat.pow_le_pow_right (by decide) (show n<=6 from hn6))) ZJ
 refine ah.lend (S.ng q (oZ n v) false hq (by rw[jD]; exact hb) acs (by rw[jD]; omega)) (And.intro (aG _) (And.intro (AY trivial rfl) trivial)) rfl rfl ?_
 refine⟨fun h3=>?_,fun h3=>?_⟩
 ·have hat:A8 q n vals v=(List.range vals).map (fun(w:Nat)=>⟨(w:Int),oZ n v⟩):=by rw[A8,h3]; rfl
  refine aC.VO 4 [2,3,6,19] (fun w:Nat=>[(20,.int w),(5,.own 2)]) (fun w=>[(0,.box 27 11 (.dat (.iI p))),(1,.box 30 7 (.dat (.prop q))),(2,bT (wH q n vals v++(List.range w).map (fun(w:Nat)=>⟨(w:Int),oZ n v⟩))),(3,jm (oZ n v))]) (fun w=>w<=vals) (fun w=>vals-w) 0 [0,1,2,3] [(0,some (.box 27 11 (.dat (.iI p)))),(1,some (.box 30 7 (.dat (.prop q)))),(2,some (bT (wH q n vals v))),(3,some (jm (oZ n v)))] rfl (by decide) (fun _=>rfl) (Nat.zero_le _) ?_ ?_ ?_ ?_
  ·exact(sR rfl)
  ·exact⟨fun _=>False,iW (Z:=fun _=>False) rfl (fun q=>q),iW (Z:=fun _=>False) rfl (fun q=>q),iW (Z:=fun _=>False) rfl (fun q=>q),iW (Z:=fun _=>False) rfl (fun q=>q),trivial⟩
  ·exact⟨MO rfl rfl,MO rfl rfl,okF rfl nofun rfl rfl rfl ⟨rfl,rfl⟩ (by simp),MO rfl rfl,trivial⟩
  refine⟨(sR rfl),rfl,?_⟩
  rintro w hw
  have hcl:(wH q n vals v++(List.range w).map (fun(w:Nat)=>(⟨(w:Int),oZ n v⟩:Elem))).length<=12288+3:=by simp; omega
  refine⟨fun h4=>?_,fun h4=>?_⟩
  ·have hw':w<vals:=by
    have:(w:Int)<max 1 (p.values.length:Int):=of_decide_eq_true h4
    omega
   repeat(refine VC.mk (by first|(first|(simp only[kH,kQ,Rw.len,List.length_cons,List.length_nil,jD]; omega)|(show((wH q n vals v++(List.range w).map (fun(w:Nat)=>(⟨(w:Int),oZ n v⟩:Elem))).length+(0+1))*32<=140737488355328/\(wH q n vals v++(List.range w).map (fun(w:Nat)=>(⟨(w:Int),oZ n v⟩:Elem))).length+(0+1)<=1152921504606846976; omega))|(simp only[okI] at *; first|omega|(simp_all; omega))) ?_)
   refine⟨[(0,some (.box 27 11 (.dat (.iI p)))),(1,some (.box 30 7 (.dat (.prop q)))),(13,some (bT ((wH q n vals v++(List.range w).map (fun(w:Nat)=>⟨(w:Int),oZ n v⟩))++[⟨(w:Int),oZ n v⟩]))),(3,some (jm (oZ n v)))],w+1,[0,1,13,3],⟨fun i=>i=10,iW (Z:=fun i=>i=10) (i:=0) rfl (by decide),iW (Z:=fun i=>i=10) (i:=1) rfl (by decide),QE (Z:=fun i=>i=10) (i:=13) (j:=10) rfl (by decide) rfl rfl,iW (Z:=fun i=>i=10) (i:=3) rfl (by decide),trivial⟩,by omega,by omega,(sR rfl),(sR rfl),MO rfl rfl,MO rfl rfl,okF rfl nofun rfl rfl rfl ⟨rfl,rfl⟩ ?_,MO rfl rfl,trivial⟩
   rw[List.range_succ,List.map_append,<- List.append_assoc]; rfl
  ·have hw':w=vals:=by
    have: ¬ (w:Int)<max 1 (p.values.length:Int):=of_decide_eq_false h4
    omega
   rw[hw',<- hat,<- hbn]
   refine .mk (by first|(simp only[okI,jD]; omega)|omega) ?_
   refine aC.objs 4 [2,3] (fun k:Nat=>[(8,.int ((n:Int)-1-k)),(5,.own 2),(6,.own 3)]) (fun k=>[(0,.box 27 11 (.dat (.iI p))),(1,.box 30 7 (.dat (.prop q))),(2,bT (wH q n vals (v+1))),(3,jm (back n v k))]) (fun k=>k<=n/\v+1=(v / 4^k+1)*4^k) (fun k=>n-k) 0 [0,1,2,3] rfl (by decide) (fun _=>rfl) ⟨Nat.zero_le _,by simp⟩ ?_ ?_ ?_
   ·refine⟨⟨_,rfl,.eq ?_⟩,⟨_,rfl,.eq rfl⟩,⟨_,rfl,.eq rfl⟩,trivial⟩
    show T.int ((n:Int)-1-((0:Nat):Int))=T.int (((oZ n v).length:Int)-1)
    rw[jD]; exact congrArg T.int (by omega)
   ·refine⟨fC rfl rfl,fC rfl rfl,fC rfl rfl,⟨rfl,nofun,rfl,rfl,rfl,_,rfl,rfl,rfl,dR.of_eq ?_⟩,trivial⟩
    rw[Ny]
   refine⟨(sR rfl),rfl,?_⟩
   rintro k ⟨hk,hvk⟩
   have hbl:=QF (v:=v) hk
   have hcell:k<n->(back n v k).getD (n-1-k) 0=((v / 4^k % 4:Nat):Int):=fun hkn=>by
    rw[tJ hkn]; exact get_at (by rw[jD]; omega)
   have hti:((n:Int)-1-k).toNat=n-1-k:=by omega
   repeat(refine VC.mk (by first|exact id|(intro h; (repeat' apply And.intro)<;>first|exact h|omega|(simp only[Rw.qY]; omega)|(simp only[Rw.rng]; omega))|(simp only[Rw.rng] at *; first|omega|(simp_all; omega))) ?_)
   refine⟨fun h6=>?_,fun h6=>?_⟩
   ·rw[Bool.and_eq_true] at h6
    have hkn:k<n:=by have:=of_decide_eq_true h6.1; omega
    have h3:v / 4^k % 4=3:=by
     have:=beq_iff_eq.1 h6.2
     rw[hti,hcell hkn] at this; omega
    repeat(refine VC.mk (by first|(simp only[okI]; omega)|(simp only[Rw.rng,hbl]; omega)) ?_)
    refine⟨k+1,[0,1,2,3],⟨by omega,NC h3 hvk⟩,by omega,⟨⟨_,rfl,.eq ?_⟩,⟨_,rfl,.eq rfl⟩,⟨_,rfl,.eq rfl⟩,trivial⟩,(sR rfl),fC rfl rfl,fC rfl rfl,fC rfl rfl,⟨rfl,nofun,rfl,rfl,rfl,_,rfl,rfl,rfl,dR.of_eq ?_⟩,trivial⟩
    ·show T.int ((n:Int)-1-((k+1:Nat):Int))=T.int ((n:Int)-1-(k:Int)-1)
     exact congrArg T.int (by omega)
    ·rw[hti,Nz hkn,tJ hkn,uV (by rw[jD]; omega)]
   refine⟨fun h7=>?_,fun h7=>?_⟩
   ·have hkn:k=n:=by have:=of_decide_eq_true h7; omega
    subst hkn
    rw[VN hv hvk]
    refine ah.yR rfl rfl (by have:=J4 (q:=q) (n:=k) (vals:=vals) (u:=4^k); have h4:4^k*vals<=4096*3:=Nat.mul_le_mul (Nat.pow_le_pow_right (by decide) (show k<=6 from hn6)) ZJ; omega) (Nw hn6) ?_ (fun m=>?_)
    ·conv=>whnf
     exact ak.acu rfl
    ·conv=>whnf
     exact ak.acv rfl
   ·have hkn:k<n:=by have:=of_decide_eq_false h7; omega
    have h3:v / 4^k % 4≠3:=by
     rw[Bool.and_eq_false_iff] at h6
     rcases h6 with h6|h6
     ·have:=of_decide_eq_false h6; omega
     ·intro e
      have:((back n v k).getD ((n:Int)-1-k).toNat 0==3)=false:=h6
      rw[hti,hcell hkn,e] at this; exact absurd this (by decide)
    have hlt4:v / 4^k % 4<4:=Nat.mod_lt _ (by decide)
    have hc0:=hcell hkn
    repeat(refine VC.mk (by first|(simp only[okI,hti,hc0]; omega)|(simp only[Rw.rng,hbl]; omega)) ?_)
    refine⟨v+1,[0,1,2,3],ZI hkn hv h3 hvk,by omega,(sR rfl),(sR rfl),fC rfl rfl,fC rfl rfl,fC rfl rfl,⟨rfl,nofun,rfl,rfl,rfl,_,rfl,rfl,rfl,dR.of_eq ?_⟩,trivial⟩
    rw[hti,hc0,<- QG hkn h3 hvk,tJ hkn,uV (by rw[jD]; omega)]
 ·have hat:wH q n vals v=wH q n vals (v+1):=by rw[Hf,A8,h3]; simp
  rw[hat]
  refine .mk (by first|(simp only[okI,jD]; omega)|omega) ?_
  refine aC.objs 4 [2,3] (fun k:Nat=>[(8,.int ((n:Int)-1-k)),(5,.own 2),(6,.own 3)]) (fun k=>[(0,.box 27 11 (.dat (.iI p))),(1,.box 30 7 (.dat (.prop q))),(2,bT (wH q n vals (v+1))),(3,jm (back n v k))]) (fun k=>k<=n/\v+1=(v / 4^k+1)*4^k) (fun k=>n-k) 0 [0,1,2,3] rfl (by decide) (fun _=>rfl) ⟨Nat.zero_le _,by simp⟩ ?_ ?_ ?_
  ·refine⟨⟨_,rfl,.eq ?_⟩,⟨_,rfl,.eq rfl⟩,⟨_,rfl,.eq rfl⟩,trivial⟩
   show T.int ((n:Int)-1-((0:Nat):Int))=T.int (((oZ n v).length:Int)-1)
   rw[jD]; exact congrArg T.int (by omega)
  ·refine⟨fC rfl rfl,fC rfl rfl,fC rfl rfl,⟨rfl,nofun,rfl,rfl,rfl,_,rfl,rfl,rfl,dR.of_eq ?_⟩,trivial⟩
   rw[Ny]
  refine⟨(sR rfl),rfl,?_⟩
  rintro k ⟨hk,hvk⟩
  have hbl:=QF (v:=v) hk
  have hcell:k<n->(back n v k).getD (n-1-k) 0=((v / 4^k % 4:Nat):Int):=fun hkn=>by
   rw[tJ hkn]; exact get_at (by rw[jD]; omega)
  have hti:((n:Int)-1-k).toNat=n-1-k:=by omega
  repeat(refine VC.mk (by first|exact id|(intro h; (repeat' apply And.intro)<;>first|exact h|omega|(simp only[Rw.qY]; omega)|(simp only[Rw.rng]; omega))|(simp only[Rw.rng] at *; first|omega|(simp_all; omega))) ?_)
  refine⟨fun h6=>?_,fun h6=>?_⟩
  ·rw[Bool.and_eq_true] at h6
   have hkn:k<n:=by have:=of_decide_eq_true h6.1; omega
   have h3:v / 4^k % 4=3:=by
    have:=beq_iff_eq.1 h6.2
    rw[hti,hcell hkn] at this; omega
   repeat(refine VC.mk (by first|(simp only[okI]; omega)|(simp only[Rw.rng,hbl]; omega)) ?_)
   refine⟨k+1,[0,1,2,3],⟨by omega,NC h3 hvk⟩,by omega,⟨⟨_,rfl,.eq ?_⟩,⟨_,rfl,.eq rfl⟩,⟨_,rfl,.eq rfl⟩,trivial⟩,(sR rfl),fC rfl rfl,fC rfl rfl,fC rfl rfl,⟨rfl,nofun,rfl,rfl,rfl,_,rfl,rfl,rfl,dR.of_eq ?_⟩,trivial⟩
   ·show T.int ((n:Int)-1-((k+1:Nat):Int))=T.int ((n:Int)-1-(k:Int)-1)
    exact congrArg T.int (by omega)
   ·rw[hti,Nz hkn,tJ hkn,uV (by rw[jD]; omega)]
  refine⟨fun h7=>?_,fun h7=>?_⟩
  ·have hkn:k=n:=by have:=of_decide_eq_true h7; omega
   subst hkn
   rw[VN hv hvk]
   refine ah.yR rfl rfl (by have:=J4 (q:=q) (n:=k) (vals:=vals) (u:=4^k); have h4:4^k*vals<=4096*3:=Nat.mul_le_mul (Nat.pow_le_pow_right (by decide) (show k<=6 from hn6)) ZJ; omega) (Nw hn6) ?_ (fun m=>?_)
   ·conv=>whnf
    exact ak.acu rfl
   ·conv=>whnf
    exact ak.acv rfl
  ·have hkn:k<n:=by have:=of_decide_eq_false h7; omega
   have h3:v / 4^k % 4≠3:=by
    rw[Bool.and_eq_false_iff] at h6
    rcases h6 with h6|h6
    ·have:=of_decide_eq_false h6; omega
    ·intro e
     have:((back n v k).getD ((n:Int)-1-k).toNat 0==3)=false:=h6
     rw[hti,hcell hkn,e] at this; exact absurd this (by decide)
   have hlt4:v / 4^k % 4<4:=Nat.mod_lt _ (by decide)
   have hc0:=hcell hkn
   repeat(refine VC.mk (by first|(simp only[okI,hti,hc0]; omega)|(simp only[Rw.rng,hbl]; omega)) ?_)
   refine⟨v+1,[0,1,2,3],ZI hkn hv h3 hvk,by omega,(sR rfl),(sR rfl),fC rfl rfl,fC rfl rfl,fC rfl rfl,⟨rfl,nofun,rfl,rfl,rfl,_,rfl,rfl,rfl,dR.of_eq ?_⟩,trivial⟩
   rw[hti,hc0,<- QG hkn h3 hvk,tJ hkn,uV (by rw[jD]; omega)]
def smB(q:Prop')(c:List Int):Bool:=Eb q c&&(List.range c.length).all fun x=>c.getD x 0==0|| !(Eb q (aT c x (-1)))
abbrev iG(l:List (List Int)):OV:=.row 24 0 (.bG l) []
theorem ND(l:List (List Int)):T.bZ (l.map Go.Ab.ints)=true:=by
 rw[fU]; intro t ht; obtain⟨x,_,rfl⟩:=List.mem_map.1 ht; rfl
theorem ZK{h:Hz}{j:Nat}{Z:Nat->Prop}{l:List (List Int)}(hz:Z j)(q:h.get j=some (iG l)):T.sub Z h.ay (V.row 0 false (.bG l)).aH (V.own j).aH:=by
 show T.sub Z h.ay (.sl 0 false (l.map Go.Ab.ints)) (.own j)
 simp only[T.sub]
 refine⟨trivial,hz,ND l,by decide,24,?_⟩
 have:=aK q; simpa [OV.au,Rw.aU,V.aU] using this
theorem ak.ael{h:Hz}{j:Nat}{l:List (List Int)}(q:h.get j=some (iG l)):ak (.row 0 false (.bG l)) (.own j) h:=⟨ZK trivial q⟩
theorem NG{Z:Nat->Prop}{h:Hz}{i j:Nat}{r:Rw}{l:List (List Int)}{c:List Int}(q:h.get i=some (.row 24 0 r [.own j]))(hr:r.aU=l.map Go.Ab.ints)(hi: ¬ Z i)(hz:Z j)(qj:h.get j=some (jm c)) :
  ∃ o',h.get i=some o'/\ ¬ Z i/\o'.au.ty=(iG (l++[c])).au.ty/\o'.au.k=(iG (l++[c])).au.k/\T.dH Z h.ay (iG (l++[c])).au.l o'.au.l/\(iG (l++[c])).au.l.map T.kd=o'.au.l.map T.kd/\(iG (l++[c])).au.l.map fZ=o'.au.l.map fZ:=by
 have e1:(iG (l++[c])).au.l=r.aU++[Go.Ab.ints c]:=by rw[hr]; simp[OV.au,Rw.aU,V.aU]
 refine⟨_,q,hi,rfl,rfl,?_,?_,?_⟩
 ·rw[e1]
  exact xZ (dJ _) ⟨AY hz qj,trivial⟩
 ·rw[e1]; show _=List.map T.kd (r.aU++[.own j])
  rw[List.map_append,List.map_append]; rfl
 ·rw[e1]; show _=List.map fZ (r.aU++[.own j])
  rw[List.map_append,List.map_append]; rfl
theorem J5{k:Nat}(hk:k<4): ∀ {m u:Nat},u<4^m->oZ (m+1) (k*4^m+u)=(k:Int)::oZ m u:=by
 intro m
 induction m with
 |zero =>
  intro u hu
  have h:u=0:=(by simpa using hu)
  subst h
  simp only[oZ,Nat.pow_zero,Nat.mul_one,Nat.add_zero,List.nil_append]
  rw[Nat.mod_eq_of_lt hk]
 |succ m ih =>
  intro u hu
  rw[Nat.pow_succ] at hu
  have e:k*4^(m+1)=k*4^m*4:=by rw[Nat.pow_succ,Nat.mul_assoc]
  rw[e,oZ]
  rw[show(k*4^m*4+u) / 4=k*4^m+u / 4 by omega,show(k*4^m*4+u) % 4=u % 4 by omega,ih (show u / 4<4^m by omega),oZ]
  rfl
def smA(q:Prop')(n:Nat)(w i:Nat):List Elem:=((List.range i).filter fun u=>smB q (oZ n u)).map fun u=>⟨(w:Int),oZ n u⟩
def yF(q:Prop')(n vals:Nat):List Elem:=(List.range vals).flatMap fun w=>smA q n w (4^n)
theorem acw{q:Prop'}{n w i:Nat}:(smA q n w i).length<=i:=by
 unfold smA
 rw[List.length_map]
 have:=List.length_filter_le (fun u=>smB q (oZ n u)) (List.range i)
 simpa using this
theorem IW{q:Prop'}{n v:Nat}:yF q n (v+1)=yF q n v++smA q n v (4^n):=by
 unfold yF
 rw[List.range_succ,List.flatMap_append]; simp
theorem Ul{q:Prop'}{n v:Nat}:(yF q n v).length<=v*4^n:=by
 induction v with
 |zero=>simp[yF]
 |succ v ih =>
  rw[IW,List.length_append,Nat.succ_mul]
  have:=@acw q n v (4^n); omega
theorem Xx{a b:List Int}(h:mW a b=true)(hne:a≠b): ∃ x,x<b.length/\a.getD x 0<b.getD x 0:=by
 refine Classical.byContradiction fun hc=>hne ?_
 obtain⟨h1,h2⟩:=mX.1 h
 refine List.ext_getElem h1 fun i hi hj=>?_
 have e1:=h2 i hi
 have e2: ¬ a.getD i 0<b.getD i 0:=fun q=>hc ⟨i,hj,q⟩
 rw[show a.getD i 0=a[i] by simp[hi],show b.getD i 0=b[i] by simp[hj]] at e1 e2
 omega
theorem ZL{q:Prop'}{a b:List Int}(h:mW a b=true)(hd:Eb q a=true):Eb q b=true:=by
 unfold Eb at hd ⊢
 rw[List.all_eq_true] at hd ⊢
 intro k hk
 have:=of_decide_eq_true (hd k hk)
 refine decide_eq_true (Int.le_trans this ?_)
 unfold G9
 generalize k.states=st
 induction st with
 |nil=>exact Int.le_refl _
 |cons x r ih =>
  simp only[List.map_cons,List.sum_cons]
  have:=QC h x.toNat
  omega
theorem Xy{a b:List Int}{x:Nat}(h:mW a b=true)(hx:a.getD x 0<b.getD x 0):mW a (aT b x (-1))=true:=by
 obtain⟨h1,h2⟩:=mX.1 h
 refine mX.2 ⟨by rw[yQ,h1],fun i hi=>?_⟩
 rw[G8]
 split
 ·rename_i hc
  have:i=x:=by have:=hc.1; simpa using this
  subst this; omega
 ·exact h2 i hi
theorem Xz{b:List Int}{x:Nat}:mW (aT b x (-1)) b=true:=by
 refine mX.2 ⟨yQ,fun i hi=>?_⟩
 rw[G8]
 split<;>omega
theorem acy{n:Nat}: ∀ {c:List Int},c.length=n->(∀ x∈c,0<=x/\x<=3)-> ∃ u,u<4^n/\oZ n u=c:=by
 induction n with
 |zero=>intro c h _; exact⟨0,by decide,by rw[List.eq_nil_of_length_eq_zero h]; rfl⟩
 |succ n ih =>
  intro c h hc
  cases c with
  |nil=>simp at h
  |cons k c =>
   simp only[List.length_cons] at h
   obtain⟨u,h1,h2⟩:=ih (c:=c) (by omega) fun x hx=>hc x (by simp[hx])
   have hk:=hc k (by simp)
   obtain⟨j,rfl⟩: ∃ j:Nat,k=j:=⟨k.toNat,by omega⟩
   refine⟨j*4^n+u,?_,?_⟩
   ·rw[Nat.pow_succ]
    have:j*4^n<=3*4^n:=Nat.mul_le_mul_right _ (by omega)
    omega
   ·rw[J5 (by omega) h1,h2]
theorem aeK: ∀ {n u v:Nat},u<v->v<4^n->cmpL (oZ n u) (oZ n v)<0:=by
 intro n
 induction n with
 |zero=>intro u v h1 h2; simp at h2; omega
 |succ n ih =>
  intro u v h1 h2
  have hp:0<4^n:=Nat.pow_pos (by decide)
  rw[Nat.pow_succ] at h2
  have eu:u=u / 4^n*4^n+u % 4^n:=(Nat.div_add_mod' u (4^n)).symm
  have ev:v=v / 4^n*4^n+v % 4^n:=(Nat.div_add_mod' v (4^n)).symm
  have lv:v / 4^n<4:=(Nat.div_lt_iff_lt_mul hp).2 (by omega)
  have le:u / 4^n<=v / 4^n:=Nat.div_le_div_right (by omega)
  have d1:oZ (n+1) u=((u / 4^n:Nat):Int)::oZ n (u % 4^n):=by
   conv=>lhs; rw[eu]
   exact J5 (by omega) (Nat.mod_lt _ hp)
  have d2:oZ (n+1) v=((v / 4^n:Nat):Int)::oZ n (v % 4^n):=by
   conv=>lhs; rw[ev]
   exact J5 lv (Nat.mod_lt _ hp)
  rw[d1,d2]
  simp only[cmpL]
  by_cases e:u / 4^n=v / 4^n
  ·rw[if_neg (by omega),if_neg (by omega)]
   refine ih ?_ (Nat.mod_lt _ hp)
   rw[e] at eu; omega
  ·rw[if_pos (by omega)]; decide
theorem XA{q:Prop'}{n vals:Nat}:SS (yF q n vals):=by
 induction vals with
 |zero=>simp[yF,SS]
 |succ v ih =>
  rw[IW]
  simp only[SS,List.pairwise_append]
  refine⟨ih,?_,fun x hx y hy=>?_⟩
  ·unfold smA
   rw[List.pairwise_map]
   refine List.Pairwise.filter _ ?_
   refine List.Pairwise.imp_of_mem (R:=fun a b=>a<b) (fun {a b} ha hb h=>?_) List.pairwise_lt_range
   show gU ⟨(v:Int),oZ n a⟩ ⟨(v:Int),oZ n b⟩<0
   simp only[gU]
   rw[if_neg (by omega),if_neg (by omega)]
   exact aeK h (List.mem_range.1 hb)
  ·obtain⟨w,h1,h2⟩:=List.mem_flatMap.1 hx
   obtain⟨u,_,rfl⟩:=List.mem_map.1 h2
   obtain⟨u',_,rfl⟩:=List.mem_map.1 hy
   have:=List.mem_range.1 h1
   simp only[gU]
   rw[if_pos (by omega)]; decide
theorem J6{q:Prop'}{n vals:Nat}{e:Elem}:e∈wH q n vals (4^n)↔ ∃ u w,u<4^n/\w<vals/\Eb q (oZ n u)=true/\e=⟨((w:Nat):Int),oZ n u⟩:=by
 unfold wH
 rw[List.mem_flatMap]
 constructor
 ·rintro⟨u,h1,h2⟩
  unfold A8 at h2
  cases hd:Eb q (oZ n u) with
  |false=>rw[hd] at h2; cases h2
  |true =>
   rw[hd] at h2
   obtain⟨w,h3,rfl⟩:=List.mem_map.1 h2
   exact⟨u,w,List.mem_range.1 h1,List.mem_range.1 h3,hd,rfl⟩
 ·rintro⟨u,w,h1,h2,h3,rfl⟩
  refine⟨u,List.mem_range.2 h1,?_⟩
  unfold A8
  rw[h3]
  exact List.mem_map.2 ⟨w,List.mem_range.2 h2,rfl⟩
theorem VP{q:Prop'}{c:List Int}(hc: ∀ x∈c,0<=x):smB q c=true↔Eb q c=true/\ ∀ a,(∀ x∈a,0<=x)->mW a c=true->a≠c->Eb q a=false:=by
 have gz: ∀ {l:List Int},(∀ x∈l,0<=x)-> ∀ i,0<=l.getD i 0:=fun {l} h i=>by
  by_cases hi:i<l.length
  ·rw[show l.getD i 0=l[i] by simp[hi]]; exact h _ (List.getElem_mem hi)
  ·rw[show l.getD i 0=0 by simp[List.getD_eq_getElem?_getD,List.getElem?_eq_none (by omega:l.length<=i)]]; omega
 unfold smB
 rw[Bool.and_eq_true,List.all_eq_true]
 constructor
 ·rintro⟨h1,h2⟩
  refine⟨h1,fun a ha hl hne=>?_⟩
  obtain⟨x,hx,hlt⟩:=Xx hl hne
  have h3:=h2 x (List.mem_range.2 hx)
  have h4:c.getD x 0≠0:=by have:=gz ha x; omega
  rw[show(c.getD x 0==0)=false by simpa using h4,Bool.false_or,Bool.not_eq_true'] at h3
  cases hd:Eb q a with
  |false=>rfl
  |true=>rw[ZL (Xy hl hlt) hd] at h3; cases h3
 ·rintro⟨h1,h2⟩
  refine⟨h1,fun x hx=>?_⟩
  have hx':=List.mem_range.1 hx
  by_cases h0:c.getD x 0=0
  ·rw[show(c.getD x 0==0)=true by simpa using h0]; rfl
  ·have h3:=h2 (aT c x (-1)) (fun y hy=>by
    rcases List.mem_or_eq_of_mem_set hy with hy|rfl
    ·exact hc y hy
    ·have:=gz hc x; simp only[Int.toNat_natCast]; omega) Xz (fun e=>by
    have:(aT c x (-1)).getD x 0=c.getD x 0:=by rw[e]
    rw[G8,if_pos ⟨by simp,hx'⟩] at this; omega)
   rw[h3]; simp
theorem bad_law{q:Prop'}{n vals:Nat}:aX (wH q n vals (4^n))=yF q n vals:=by
 have nn: ∀ {u:Nat},∀ x∈oZ n u,0<=x:=fun {u} x hx=>(Fh x hx).1
 refine Hg (mD _).1 XA fun e=>?_
 rw[(mD _).2,J6]
 constructor
 ·rintro⟨⟨u,w,h1,h2,h3,rfl⟩,h4⟩
  refine List.mem_flatMap.2 ⟨w,List.mem_range.2 h2,List.mem_map.2 ⟨u,List.mem_filter.2 ⟨List.mem_range.2 h1,?_⟩,rfl⟩⟩
  refine(VP nn).2 ⟨h3,fun a ha hl hne=>?_⟩
  cases hd:Eb q a with
  |false=>rfl
  |true =>
   exfalso
   have hal:a.length=n:=by rw[(mX.1 hl).1,jD]
   obtain⟨u',g1,rfl⟩:=acy hal fun x hx=>by
    refine⟨ha x hx,?_⟩
    obtain⟨i,hi,rfl⟩:=List.mem_iff_getElem.1 hx
    have e1:=QC hl i
    rw[show a.getD i 0=a[i] by simp[hi]] at e1
    have hi2:i<(oZ n u).length:=by rw[jD]; omega
    rw[show(oZ n u).getD i 0=(oZ n u)[i] by simp[hi2]] at e1
    have:=Fh _ (List.getElem_mem hi2)
    omega
   rw[List.any_eq_false] at h4
   refine h4 ⟨(w:Int),oZ n u'⟩ (J6.2 ⟨u',w,g1,h2,hd,rfl⟩) (rH.2 ⟨?_,fun e=>hne (congrArg Elem.counts e)⟩)
   simp only[mF,BEq.rfl,Bool.true_and]; exact hl
 ·intro h
  obtain⟨w,h1,h2⟩:=List.mem_flatMap.1 h
  obtain⟨u,h3,rfl⟩:=List.mem_map.1 h2
  obtain⟨h4,h5⟩:=List.mem_filter.1 h3
  obtain⟨s1,s2⟩:=(VP nn).1 h5
  refine⟨⟨u,w,List.mem_range.1 h4,List.mem_range.1 h1,s1,rfl⟩,?_⟩
  rw[List.any_eq_false]
  intro y hy hab
  obtain⟨u',w',g1,g2,g3,rfl⟩:=J6.1 hy
  obtain⟨hl,hne⟩:=rH.1 hab
  simp only[mF,Bool.and_eq_true,beq_iff_eq] at hl
  have:=s2 (oZ n u') nn hl.2 (fun e=>hne (by rw[hl.1,e]))
  rw[g3] at this; cases this
def kZ(p:aO)(q:Prop'):List Elem:=bif fV p q !=0 then [] else yF q p.states.length (max 1 p.values.length)
theorem IX(p:aO)(q:Prop')(_hp:fE p):(kZ p q).length<2^30/\dK (kZ p q):=by
 unfold kZ
 cases h1:(fV p q !=0) with
 |true=>exact⟨by show([]:List Elem).length<_; decide,fun x hx=>by cases hx⟩
 |false =>
  obtain⟨b1,b2,b3,b4⟩:=O6 (DJ h1)
  have hv:=O4 b3
  have v2:=hv.states; have v3:=hv.values
  have h46:4^p.states.length<=4^6:=Nat.pow_le_pow_right (by decide) v2
  have h47:(4:Nat)^6=4096:=by decide
  have h1:=Ul (q:=q) (n:=p.states.length) (v:=max 1 p.values.length)
  have h2:max 1 p.values.length*4^p.states.length<=3*4096:=Nat.mul_le_mul (by omega) (by omega)
  refine⟨by show(yF _ _ _).length<_; omega,fun x hx=>?_⟩
  obtain⟨w,_,h3⟩:=List.mem_flatMap.1 hx
  obtain⟨u,_,rfl⟩:=List.mem_map.1 h3
  show(oZ _ _).length<_
  rw[jD]; omega
end Go.Proofs.YtkmldgihhaooaaaGreatDoor
