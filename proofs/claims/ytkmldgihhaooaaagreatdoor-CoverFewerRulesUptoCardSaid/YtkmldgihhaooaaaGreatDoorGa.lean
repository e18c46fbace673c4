/-
 A part of the proof. No condition.
-/
import Derived.Test.YtkmldgihhaooaaaGreatDoorFa
import Derived.Test.YtkmldgihhaooaaaGreatDoorHb
import Derived.Test.YtkmldgihhaooaaaGreatDoorLg
namespace Go.Proofs.YtkmldgihhaooaaaGreatDoor
open Go.Ab Go.Proofs
set_option maxRecDepth 100000
def F5(st c:List Int):Int:=(st.map fun x=>c.getD x.toNat 0).sum
def Dv(q:Prop')(c:List Int):Bool:=q.bad.all fun k=>decide (k.least<=F5 k.states c)
structure ac2(n:Nat)(q:Prop'):Prop where
 place: ∀ k∈q.bad,y5 n k.states
 least: ∀ k∈q.bad,1<=k.least/\k.least<=3
 some: ∀ k∈q.bad,k.states≠[]
def few(c:List Int):Prop:= ∀ x∈c,0<=x/\x<=4
theorem few.get{c:List Int}(h:few c)(i:Nat):0<=c.getD i 0/\c.getD i 0<=4:=by
 by_cases hi:i<c.length
 ·rw[show c.getD i 0=c[i] by simp[hi]]; exact h _ (List.getElem_mem hi)
 ·rw[show c.getD i 0=0 by simp[List.getD_eq_getElem?_getD,List.getElem?_eq_none (by omega:c.length<=i)]]; omega
theorem Wp{st c:List Int}{i:Nat}(hi:i<st.length):F5 (st.take (i+1)) c=F5 (st.take i) c+c.getD (st.getD i 0).toNat 0:=by
 unfold F5
 rw[List.take_add_one,List.map_append,List.sum_append]; simp[hi]
theorem Yy{st c:List Int}(h:few c):0<=F5 st c/\F5 st c<=4*st.length:=by
 unfold F5
 induction st with
 |nil=>simp
 |cons x r ih =>
  have:=h.get x.toNat
  simp only[List.map_cons,List.sum_cons,List.length_cons]; omega
theorem getD_mem{α:Type}{l:List α}{i:Nat}{d:α}(hi:i<l.length):l.getD i d∈l:=by
 rw[show l.getD i d=l[i] by simp[hi]]; exact List.getElem_mem hi
theorem S.mJ(q:Prop')(c:List Int)(f:Bool)(hq:jK q)(hb:ac2 c.length q)(hc:few c)(_hl:c.length<2^30):aj Tryz.prog 74 [.dat (.prop q),.row 0 f (.ints c)] (.bool (Dv q c)):=by
 have q2:=hq.bad
 refine aj.of Bd.mJ (by simp) rfl rfl ?_
 conv=>whnf
 refine aH.same [1,11,12] (fun i:Nat=>[(13,.int i)]) (fun i=>i<=q.bad.length/\(q.bad.take i).all (fun k=>decide (k.least<=F5 k.states c))=true) (fun i=>q.bad.length-i) 0 rfl (by decide) rfl (fun _=>rfl) ⟨by omega,by simp⟩ ⟨⟨_,rfl,rfl⟩,trivial⟩ ?_
 conv=>whnf
 refine⟨rfl,?_⟩
 rintro i ⟨hi,hall⟩
 conv=>whnf
 refine⟨fun h3=>?_,fun h3=>?_⟩
 ·have hi':i<q.bad.length:=by simpa using h3
  have hk:=getD_mem (d:=default) hi'
  have hpl:=hb.place _ hk
  have hsz:=hq.cnt i
  conv=>whnf
  refine .mk (by simp only[Rw.rng] at *; first|omega|(simp_all; done)|(simp_all; omega)) ?_
  conv=>whnf
  refine aH.same [1,6,11,12,13,18,19] (fun j:Nat=>[(20,.int j),(7,.int (F5 ((q.bad.getD i default).states.take j) c))]) (fun j=>j<=(q.bad.getD i default).states.length) (fun j=>(q.bad.getD i default).states.length-j) 0 rfl (by decide) rfl (fun _=>rfl) (Nat.zero_le _) ⟨⟨_,rfl,rfl⟩,⟨_,rfl,rfl⟩,trivial⟩ ?_
  conv=>whnf
  refine⟨rfl,?_⟩
  rintro j hj
  have hs1:=Yy (st:=(q.bad.getD i default).states.take j) hc
  have hl1:((q.bad.getD i default).states.take j).length<=(q.bad.getD i default).states.length:=by rw[List.length_take]; omega
  conv=>whnf
  refine⟨fun h4=>?_,fun h4=>?_⟩
  ·have hj':j<(q.bad.getD i default).states.length:=by simpa using h4
   have hst:=Wp (c:=c) hj'
   have hg:=hc.get ((q.bad.getD i default).states.getD j 0).toNat
   obtain⟨p1,p2⟩:=hpl _ (getD_mem (d:=0) hj')
   conv=>whnf
   repeat(refine VC.mk (by first|(simp only[Rw.rng,Int.toNat_natCast]; omega)|(simp only[okI,Int.toNat_natCast] at *; omega)) ?_; conv=>whnf)
   refine⟨j+1,by omega,by omega,⟨⟨_,rfl,rfl⟩,⟨_,rfl,?_⟩,trivial⟩,?_,rfl⟩
   ·rw[hst]; rfl
   ·repeat' (first|exact trivial|exact⟨_,rfl,rfl⟩|constructor)
  ·have hj':(q.bad.getD i default).states.length<=j:=by simpa using h4
   rw[List.take_of_length_le hj']
   conv=>whnf
   refine⟨fun h5=>?_,fun h5=>?_⟩
   ·conv=>whnf
    refine ak.bool ?_
    have: ¬ (q.bad.getD i default).least<=F5 (q.bad.getD i default).states c:=by
     simp only[Int.toNat_natCast] at h5
     have:=of_decide_eq_true h5; omega
    exact I9 (p:=fun k=>decide (k.least<=F5 k.states c)) (d:=default) hi' (decide_eq_false this)
   ·conv=>whnf
    refine .mk (by simp only[okI] at *; first|omega|(simp_all; done)|(simp_all; omega)) ?_
    conv=>whnf
    have:(q.bad.getD i default).least<=F5 (q.bad.getD i default).states c:=by
     simp only[Int.toNat_natCast] at h5
     have:=of_decide_eq_false h5; omega
    refine⟨i+1,⟨by omega,?_⟩,by omega,⟨⟨_,rfl,rfl⟩,trivial⟩,?_,rfl⟩
    ·rw[LY (d:=default) hi' hall]; exact decide_eq_true this
    ·repeat' (first|exact trivial|exact⟨_,rfl,rfl⟩|constructor)
 ·have hi':q.bad.length<=i:=by simpa using h3
  rw[List.take_of_length_le hi'] at hall
  conv=>whnf
  exact ak.bool hall
theorem Dk{p:aI}{q:Prop'}(h:bK p q=0):q.kind=1/\ac2 p.states.length q/\bF p=0/\(jA p).cover=true:=by
 have hp:=vS h
 have hv:=Dn hp
 have hc:=h
 unfold bK at hc
 obtain⟨_,hc⟩:=bz nz hc
 have hc':=FY hc (by decide)
 rw[Bool.or_eq_false_iff,Bool.not_eq_false'] at hc'
 have hk:q.kind=1:=by simpa using hc'.2
 unfold fF at hp
 obtain⟨_,hp⟩:=bz nz hp
 obtain⟨_,hp⟩:=bz (fun _=>by decide) hp
 obtain⟨_,hp⟩:=bz (fun _=>by decide) hp
 obtain⟨_,hp⟩:=bz (fun _=>by decide) hp
 obtain⟨_,hp⟩:=bz nz hp
 obtain⟨_,hp⟩:=bz (fun _=>by decide) hp
 rw[show(!(q.kind==1))=false by simp[hk]] at hp
 have hcn:=jl hp (uT q.bad p.states.length) (by simp)
 have hall: ∀ k∈q.bad,KY p.states.length k=0:=fun k hk=>jl hcn _ (List.mem_map.2 ⟨k,hk,rfl⟩)
 have hlb: ∀ k∈q.bad,pq k=false:=fun k hk=>FY (jl (hall k hk) (dB (pq k) 1) (by simp)) (by decide)
 refine⟨hk,⟨fun k hk=>FX (jl (hall k hk) (fV k.states p.states.length) (by simp)),fun k hk=>?_,fun k hk e=>?_⟩,hv,hc'.1⟩
 ·have:=hlb k hk
  simp only[pq,Bool.or_eq_false_iff,decide_eq_false_iff_not] at this; omega
 ·have:=hlb k hk
  rw[pq,e] at this; simp at this
def oH:Nat->Nat->List Int
 |0,_=>[]
 |n+1,v=>oH n (v / 4)++[((v % 4:Nat):Int)]
theorem jB: ∀ {n v:Nat},(oH n v).length=n:=by
 intro n
 induction n with
 |zero=>intro v; rfl
 |succ n ih=>intro v; simp[oH,ih]
theorem Et: ∀ {n v:Nat},∀ x∈oH n v,0<=x/\x<=3:=by
 intro n
 induction n with
 |zero=>intro v x h; cases h
 |succ n ih =>
  intro v x h
  rcases List.mem_append.1 h with h|h
  ·exact ih x h
  ·rw[List.mem_singleton] at h; subst h; omega
theorem aaV{n v:Nat}:few (oH n v):=fun x h=>by have:=Et x h; omega
theorem LZ{n u:Nat}: ∀ {k:Nat},oH (n+k) (u*4^k)=oH n u++List.replicate k 0:=by
 intro k
 induction k with
 |zero=>simp
 |succ k ih =>
  rw[<- Nat.add_assoc]
  simp only[oH]
  rw[Nat.pow_succ,<- Nat.mul_assoc,Nat.mul_div_cancel _ (by decide:0<4),ih,Nat.mul_mod_left,List.append_assoc,List.replicate_succ']
  rfl
theorem Yz{n:Nat}:oH n 0=List.replicate n 0:=by
 have:=@LZ 0 0 n
 simpa [oH] using this
def Ad(q:Prop')(n vals v:Nat):List Elem:=bif Dv q (oH n v) then(List.range vals).map (fun(w:Nat)=>⟨(w:Int),oH n v⟩) else []
def vY(q:Prop')(n vals u:Nat):List Elem:=(List.range u).flatMap (Ad q n vals)
theorem F6{q:Prop'}{n vals u:Nat}:vY q n vals (u+1)=vY q n vals u++Ad q n vals u:=by
 unfold vY
 rw[List.range_succ,List.flatMap_append]; simp
theorem Ja{q:Prop'}{n vals u:Nat}:(vY q n vals u).length<=u*vals:=by
 induction u with
 |zero=>simp[vY]
 |succ u ih =>
  rw[F6,List.length_append,Nat.succ_mul]
  have:(Ad q n vals u).length<=vals:=by
   unfold Ad
   cases Dv q (oH n u)<;>simp
  omega
theorem Wq{q:Prop'}{n vals v:Nat}{e:Elem}(h:e∈Ad q n vals v):e.counts=oH n v:=by
 unfold Ad at h
 cases hd:Dv q (oH n v) with
 |false=>rw[hd] at h; cases h
 |true =>
  rw[hd] at h
  obtain⟨w,_,rfl⟩:=List.mem_map.1 h
  rfl
theorem L6{q:Prop'}{n vals u:Nat}(hn:n<=6): ∀ e∈vY q n vals u,Ae e:=by
 intro e h
 obtain⟨v,_,h2⟩:=List.mem_flatMap.1 h
 rw[show e=⟨e.value,e.counts⟩ from rfl,Wq h2]
 exact⟨by rw[jB]; exact hn,fun x hx=>by have:=Et x hx; omega⟩
theorem ah.yw{h:Hz}{i n:Nat}{l:List Elem}{K:V->Hz->Prop}{KW:Nat->V->Hz->Prop}(hi:h.get i=some (dG l))(hn:h.get n=none)(hl:l.length<2^29)(hg: ∀ e∈l,Ae e)
  (h1:K (.own n) ((n,some (dG (bC l)))::(i,none)::h)) (h2: ∀ m,K (.oV n 0 (bC l).length) ((n,some (.row 35 3 (.elems (bC l)) (List.replicate m zeroV)))::(i,none)::h)):ah Tryz.prog false none 75 [.own i] h n K KW:=by
 refine ah.Yv (ts:=[.own 0]) (S.yw l 1 (by decide) hl hg) rfl rfl rfl rfl hi hn ?_
 rintro t hp (⟨rfl,rfl⟩|⟨m,rfl,rfl⟩)
 ·exact .inr ⟨.own n,dG (bC l),rfl,rfl,rfl,h1⟩
 ·exact .inr ⟨.oV n 0 _,.row 35 3 (.elems (bC l)) (List.replicate m zeroV),rfl,Ep _ _,rfl,h2 m⟩
theorem afC{Z:Nat->Prop}{h:Hz}{j:Nat}{v:Int}{l:List Int}(hz:Z j)(q:h.get j=some (nP l)):T.sub Z h.au (iJ ⟨v,l⟩) (.agg [.int v,.own j]):=by
 have:=I8 hz q
 show T.sub Z h.au (.agg [.int v,.sl 0 false (l.map T.int)]) (.agg [.int v,.own j])
 replace this:T.sub Z h.au (.sl 0 false (l.map T.int)) (.own j):=this
 simp only[T.sub] at this
 simp only[T.sub,T.dN]
 exact⟨trivial,this,trivial⟩
theorem PS{Z:Nat->Prop}{h:Hz}{i j:Nat}{l:List Elem}{e:Elem}(q:h.get i=some (.row 35 3 (.elems l) [.agg [.int e.value,.own j]]))(hi: ¬ Z i)(hz:Z j)(qj:h.get j=some (nP e.counts)) :
  ∃ o',h.get i=some o'/\ ¬ Z i/\o'.aA.ty=(dG (l++[e])).aA.ty/\o'.aA.k=(dG (l++[e])).aA.k/\T.dN Z h.au (dG (l++[e])).aA.l o'.aA.l/\(dG (l++[e])).aA.l.map T.kd=o'.aA.l.map T.kd/\(dG (l++[e])).aA.l.map iK=o'.aA.l.map iK:=by
 have e1:(dG (l++[e])).aA.l=l.map iJ++[iJ e]:=by simp[OV.aA,Rw.aV,V.aV]
 refine⟨_,q,hi,rfl,rfl,?_,?_,?_⟩
 ·rw[e1]
  exact PU (eU _) ⟨afC hz qj,trivial⟩
 ·rw[e1]; show _=List.map T.kd (l.map iJ++[.agg [.int e.value,.own j]])
  rw[List.map_append,List.map_append]; rfl
 ·rw[e1]; show _=List.map iK (l.map iJ++[.agg [.int e.value,.own j]])
  rw[List.map_append,List.map_append]; rfl
def back(n v k:Nat):List Int:=oH (n-k) (v / 4^k)++List.replicate k 0
theorem PV{n v k:Nat}(h:k<=n):(back n v k).length=n:=by simp[back,jB]; omega
theorem L8{n v:Nat}:back n v 0=oH n v:=by simp[back]
theorem sO{n v k:Nat}(h:k<n):back n v k=oH (n-k-1) (v / 4^k / 4)++(((v / 4^k % 4:Nat):Int)::List.replicate k 0):=by
 unfold back
 obtain⟨j,hj⟩: ∃ j,n-k=j+1:=⟨n-k-1,by omega⟩
 rw[hj,oH,List.append_assoc]; rfl
theorem L9{n v k:Nat}(_h:k<n):back n v (k+1)=oH (n-k-1) (v / 4^k / 4)++((0:Int)::List.replicate k 0):=by
 unfold back
 rw[Nat.pow_succ,<- Nat.div_div_eq_div_mul,Nat.sub_add_eq,List.replicate_succ]
theorem PW{n v k:Nat}(h:k<n)(h3:v / 4^k % 4≠3)(hv:v+1=(v / 4^k+1)*4^k):oH (n-k-1) (v / 4^k / 4)++((((v / 4^k % 4:Nat):Int)+1)::List.replicate k 0)=oH n (v+1):=by
 have e:oH n (v+1)=oH ((n-k-1+1)+k) ((v / 4^k+1)*4^k):=by rw[<- hv]; congr 1; omega
 rw[e,LZ,oH,List.append_assoc]
 congr 1
 ·congr 1; omega
 ·show _=(((v / 4^k+1) % 4:Nat):Int)::List.replicate k 0
  congr 1; omega
theorem Mc{v k:Nat}(h3:v / 4^k % 4=3)(hv:v+1=(v / 4^k+1)*4^k):v+1=(v / 4^(k+1)+1)*4^(k+1):=by
 have e:v / 4^(k+1)=v / 4^k / 4:=by rw[Nat.pow_succ,<- Nat.div_div_eq_div_mul]
 rw[e,Nat.pow_succ,Nat.mul_comm (4^k) 4,<- Nat.mul_assoc]
 have:(v / 4^k / 4+1)*4=v / 4^k+1:=by omega
 rw[this]; exact hv
theorem YA{n v k:Nat}(h:k<n)(hlt:v<4^n)(h3:v / 4^k % 4≠3)(hv:v+1=(v / 4^k+1)*4^k):v+1<4^n:=by
 have e:4^n=4^(n-k-1)*4*4^k:=by
  rw[<- Nat.pow_succ,<- Nat.pow_add]; congr 1; omega
 have h1:v / 4^k<4^(n-k-1)*4:=by
  rw[Nat.div_lt_iff_lt_mul (Nat.pow_pos (by decide))]; omega
 have h2:v / 4^k+1<4^(n-k-1)*4:=by omega
 rw[hv,e]
 exact Nat.mul_lt_mul_of_pos_right h2 (Nat.pow_pos (by decide))
theorem U4{n v:Nat}(hlt:v<4^n)(hv:v+1=(v / 4^n+1)*4^n):v+1=4^n:=by
 rw[Nat.div_eq_of_lt hlt] at hv; omega
set_option maxHeartbeats 1000000 in
theorem S.iq(p:aI)(q:Prop')(n vals:Nat)(_hp:fA p)(hq:jK q)(hn:p.states.length=n)(hn0:0<n)(hn6:n<=6)(hvs:max 1 p.values.length=vals)(YB:vals<=3)(hb:ac2 n q) :
  aj Tryz.prog 46 [.dat (.iF p),.dat (.prop q)] (.row 3 false (.elems (bC (vY q n vals (4^n))))):=by
 refine aj.of Bd.iq (by simp) rfl rfl ?_
 conv=>whnf
 have hm:=PL (n:=p.states.length) (by omega)
 rw[hm]
 conv=>whnf
 refine .mk (by omega) ?_
 conv=>whnf
 refine aH.nil 5 35 3 (by rfl) rfl rfl rfl ?_
 refine aH.objs 4 [2,3] (fun v:Nat=>[(5,.own 2),(6,.own 3)]) (fun v=>[(0,.box 27 11 (.dat (.iF p))),(1,.box 30 7 (.dat (.prop q))),(2,dG (vY q n vals v)),(3,nP (oH n v))]) (fun v=>v<4^n) (fun v=>4^n-v) 0 [0,1,9,7] rfl (by decide) (fun _=>rfl) (Nat.pow_pos (by decide)) ?_ ?_ ?_
 ·exact(sR rfl)
 ·refine⟨⟨rfl,nofun,rfl,rfl,rfl,_,rfl,rfl,rfl,aQ.of_eq rfl⟩,⟨rfl,nofun,rfl,rfl,rfl,_,rfl,rfl,rfl,aQ.of_eq rfl⟩,⟨rfl,nofun,rfl,rfl,rfl,_,rfl,rfl,rfl,aQ.of_eq rfl⟩,⟨rfl,nofun,rfl,rfl,rfl,_,rfl,rfl,rfl,aQ.of_eq ?_⟩,trivial⟩
  rw[Yz,hn]
 conv=>whnf
 refine⟨(sR rfl),rfl,?_⟩
 rintro v hv
 have hbn:=@F6 q n vals v
 have hbl:=Ja (q:=q) (n:=n) (vals:=vals) (u:=v)
 have hbm:v*vals<=4096*3:=Nat.mul_le_mul (Nat.le_trans (Nat.le_of_lt hv) (Nat.pow_le_pow_right (by decide) (show n<=6 from hn6))) YB
 conv=>whnf
 refine ah.lend (S.mJ q (oH n v) false hq (by rw[jB]; exact hb) aaV (by rw[jB]; omega)) (And.intro (aC _) (And.intro (I8 trivial rfl) trivial)) rfl rfl ?_
 conv=>whnf
 refine⟨fun h3=>?_,fun h3=>?_⟩
 ·have hat:Ad q n vals v=(List.range vals).map (fun(w:Nat)=>⟨(w:Int),oH n v⟩):=by rw[Ad,h3]; rfl
  conv=>whnf
  refine aH.acH 4 [2,3,6,19] (fun w:Nat=>[(20,.int w),(5,.own 2)]) (fun w=>[(0,.box 27 11 (.dat (.iF p))),(1,.box 30 7 (.dat (.prop q))),(2,dG (vY q n vals v++(List.range w).map (fun(w:Nat)=>⟨(w:Int),oH n v⟩))),(3,nP (oH n v))]) (fun w=>w<=vals) (fun w=>vals-w) 0 [0,1,2,3] [(0,some (.box 27 11 (.dat (.iF p)))),(1,some (.box 30 7 (.dat (.prop q)))),(2,some (dG (vY q n vals v))),(3,some (nP (oH n v)))] rfl (by decide) (fun _=>rfl) (Nat.zero_le _) ?_ ?_ ?_ ?_
  ·exact(sR rfl)
  ·exact⟨fun _=>False,qX (Z:=fun _=>False) rfl (fun q=>q),qX (Z:=fun _=>False) rfl (fun q=>q),qX (Z:=fun _=>False) rfl (fun q=>q),qX (Z:=fun _=>False) rfl (fun q=>q),trivial⟩
  ·exact⟨okH rfl rfl,okH rfl rfl,okF rfl nofun rfl rfl rfl ⟨rfl,rfl⟩ (by simp),okH rfl rfl,trivial⟩
  conv=>whnf
  refine⟨(sR rfl),rfl,?_⟩
  rintro w hw
  have hcl:(vY q n vals v++(List.range w).map (fun(w:Nat)=>(⟨(w:Int),oH n v⟩:Elem))).length<=12288+3:=by simp; omega
  conv=>whnf
  refine⟨fun h4=>?_,fun h4=>?_⟩
  ·have hw':w<vals:=by
    have:(w:Int)<max 1 (p.values.length:Int):=of_decide_eq_true h4
    omega
   conv=>whnf
   repeat(refine VC.mk (by first|(first|(simp only[nI,nU,Rw.len,List.length_cons,List.length_nil,jB]; omega)|(show((vY q n vals v++(List.range w).map (fun(w:Nat)=>(⟨(w:Int),oH n v⟩:Elem))).length+(0+1))*32<=140737488355328/\(vY q n vals v++(List.range w).map (fun(w:Nat)=>(⟨(w:Int),oH n v⟩:Elem))).length+(0+1)<=1152921504606846976; omega))|(simp only[okI] at *; first|omega|(simp_all; done)|(simp_all; omega))) ?_; conv=>whnf)
   refine⟨[(0,some (.box 27 11 (.dat (.iF p)))),(1,some (.box 30 7 (.dat (.prop q)))),(13,some (dG ((vY q n vals v++(List.range w).map (fun(w:Nat)=>⟨(w:Int),oH n v⟩))++[⟨(w:Int),oH n v⟩]))),(3,some (nP (oH n v)))],w+1,[0,1,13,3],⟨fun i=>i=10,qX (Z:=fun i=>i=10) (i:=0) rfl (by decide),qX (Z:=fun i=>i=10) (i:=1) rfl (by decide),PS (Z:=fun i=>i=10) (i:=13) (j:=10) rfl (by decide) rfl rfl,qX (Z:=fun i=>i=10) (i:=3) rfl (by decide),trivial⟩,by omega,by omega,(sR rfl),(sR rfl),okH rfl rfl,okH rfl rfl,okF rfl nofun rfl rfl rfl ⟨rfl,rfl⟩ ?_,okH rfl rfl,trivial⟩
   rw[List.range_succ,List.map_append,<- List.append_assoc]; rfl
  ·have hw':w=vals:=by
    have: ¬ (w:Int)<max 1 (p.values.length:Int):=of_decide_eq_false h4
    omega
   rw[hw',<- hat,<- hbn]
   conv=>whnf
   refine .mk (by first|(simp only[okI,jB]; omega)|omega) ?_
   conv=>whnf
   refine aH.objs 4 [2,3] (fun k:Nat=>[(8,.int ((n:Int)-1-k)),(5,.own 2),(6,.own 3)]) (fun k=>[(0,.box 27 11 (.dat (.iF p))),(1,.box 30 7 (.dat (.prop q))),(2,dG (vY q n vals (v+1))),(3,nP (back n v k))]) (fun k=>k<=n/\v+1=(v / 4^k+1)*4^k) (fun k=>n-k) 0 [0,1,2,3] rfl (by decide) (fun _=>rfl) ⟨Nat.zero_le _,by simp⟩ ?_ ?_ ?_
   ·refine⟨⟨_,rfl,.eq ?_⟩,⟨_,rfl,.eq rfl⟩,⟨_,rfl,.eq rfl⟩,trivial⟩
    show T.int ((n:Int)-1-((0:Nat):Int))=T.int (((oH n v).length:Int)-1)
    rw[jB]; exact congrArg T.int (by omega)
   ·refine⟨⟨rfl,nofun,rfl,rfl,rfl,_,rfl,rfl,rfl,aQ.of_eq rfl⟩,⟨rfl,nofun,rfl,rfl,rfl,_,rfl,rfl,rfl,aQ.of_eq rfl⟩,⟨rfl,nofun,rfl,rfl,rfl,_,rfl,rfl,rfl,aQ.of_eq rfl⟩,⟨rfl,nofun,rfl,rfl,rfl,_,rfl,rfl,rfl,aQ.of_eq ?_⟩,trivial⟩
    rw[L8]
   conv=>whnf
   refine⟨(sR rfl),rfl,?_⟩
   rintro k ⟨hk,hvk⟩
   have hbl:=PV (v:=v) hk
   have hcell:k<n->(back n v k).getD (n-1-k) 0=((v / 4^k % 4:Nat):Int):=fun hkn=>by
    rw[sO hkn]; exact get_at (by rw[jB]; omega)
   have hti:((n:Int)-1-k).toNat=n-1-k:=by omega
   conv=>whnf
   repeat(refine VC.mk (by first|exact id|(intro h; (repeat' apply And.intro)<;>first|exact h|omega|(simp only[Rw.rV]; omega)|(simp only[Rw.rng]; omega))|(simp only[Rw.rng] at *; first|omega|(simp_all; done)|(simp_all; omega))) ?_; conv=>whnf)
   refine⟨fun h6=>?_,fun h6=>?_⟩
   ·rw[Bool.and_eq_true] at h6
    have hkn:k<n:=by have:=of_decide_eq_true h6.1; omega
    have h3:v / 4^k % 4=3:=by
     have:=beq_iff_eq.1 h6.2
     rw[hti,hcell hkn] at this; omega
    conv=>whnf
    repeat(refine VC.mk (by first|(simp only[okI]; omega)|(simp only[Rw.rng,hbl]; omega)) ?_; conv=>whnf)
    refine⟨k+1,[0,1,2,3],⟨by omega,Mc h3 hvk⟩,by omega,⟨⟨_,rfl,.eq ?_⟩,⟨_,rfl,.eq rfl⟩,⟨_,rfl,.eq rfl⟩,trivial⟩,(sR rfl),⟨rfl,nofun,rfl,rfl,rfl,_,rfl,rfl,rfl,aQ.of_eq rfl⟩,⟨rfl,nofun,rfl,rfl,rfl,_,rfl,rfl,rfl,aQ.of_eq rfl⟩,⟨rfl,nofun,rfl,rfl,rfl,_,rfl,rfl,rfl,aQ.of_eq rfl⟩,⟨rfl,nofun,rfl,rfl,rfl,_,rfl,rfl,rfl,aQ.of_eq ?_⟩,trivial⟩
    ·show T.int ((n:Int)-1-((k+1:Nat):Int))=T.int ((n:Int)-1-(k:Int)-1)
     exact congrArg T.int (by omega)
    ·rw[hti,L9 hkn,sO hkn,uJ (by rw[jB]; omega)]
   conv=>whnf
   refine⟨fun h7=>?_,fun h7=>?_⟩
   ·have hkn:k=n:=by have:=of_decide_eq_true h7; omega
    subst hkn
    rw[U4 hv hvk]
    conv=>whnf
    refine ah.yw rfl rfl (by have:=Ja (q:=q) (n:=k) (vals:=vals) (u:=4^k); have h4:4^k*vals<=4096*3:=Nat.mul_le_mul (Nat.pow_le_pow_right (by decide) (show k<=6 from hn6)) YB; omega) (L6 hn6) ?_ (fun m=>?_)
    ·conv=>whnf
     exact ak.ac3 rfl
    ·conv=>whnf
     exact ak.aaW rfl
   ·have hkn:k<n:=by have:=of_decide_eq_false h7; omega
    have h3:v / 4^k % 4≠3:=by
     rw[Bool.and_eq_false_iff] at h6
     rcases h6 with h6|h6
     ·have:=of_decide_eq_false h6; omega
     ·intro e
      have:((back n v k).getD ((n:Int)-1-k).toNat 0==3)=false:=h6
      rw[hti,hcell hkn,e] at this; exact absurd this (by decide)
    have hlt4:v / 4^k % 4<4:=Nat.mod_lt _ (by decide)
    have hc0:=hcell hkn
    conv=>whnf
    repeat(refine VC.mk (by first|(simp only[okI,hti,hc0]; omega)|(simp only[Rw.rng,hbl]; omega)) ?_; conv=>whnf)
    refine⟨v+1,[0,1,2,3],YA hkn hv h3 hvk,by omega,(sR rfl),(sR rfl),⟨rfl,nofun,rfl,rfl,rfl,_,rfl,rfl,rfl,aQ.of_eq rfl⟩,⟨rfl,nofun,rfl,rfl,rfl,_,rfl,rfl,rfl,aQ.of_eq rfl⟩,⟨rfl,nofun,rfl,rfl,rfl,_,rfl,rfl,rfl,aQ.of_eq rfl⟩,⟨rfl,nofun,rfl,rfl,rfl,_,rfl,rfl,rfl,aQ.of_eq ?_⟩,trivial⟩
    rw[hti,hc0,<- PW hkn h3 hvk,sO hkn,uJ (by rw[jB]; omega)]
 ·have hat:vY q n vals v=vY q n vals (v+1):=by rw[F6,Ad,h3]; simp
  rw[hat]
  conv=>whnf
  refine .mk (by first|(simp only[okI,jB]; omega)|omega) ?_
  conv=>whnf
  refine aH.objs 4 [2,3] (fun k:Nat=>[(8,.int ((n:Int)-1-k)),(5,.own 2),(6,.own 3)]) (fun k=>[(0,.box 27 11 (.dat (.iF p))),(1,.box 30 7 (.dat (.prop q))),(2,dG (vY q n vals (v+1))),(3,nP (back n v k))]) (fun k=>k<=n/\v+1=(v / 4^k+1)*4^k) (fun k=>n-k) 0 [0,1,2,3] rfl (by decide) (fun _=>rfl) ⟨Nat.zero_le _,by simp⟩ ?_ ?_ ?_
  ·refine⟨⟨_,rfl,.eq ?_⟩,⟨_,rfl,.eq rfl⟩,⟨_,rfl,.eq rfl⟩,trivial⟩
   show T.int ((n:Int)-1-((0:Nat):Int))=T.int (((oH n v).length:Int)-1)
   rw[jB]; exact congrArg T.int (by omega)
  ·refine⟨⟨rfl,nofun,rfl,rfl,rfl,_,rfl,rfl,rfl,aQ.of_eq rfl⟩,⟨rfl,nofun,rfl,rfl,rfl,_,rfl,rfl,rfl,aQ.of_eq rfl⟩,⟨rfl,nofun,rfl,rfl,rfl,_,rfl,rfl,rfl,aQ.of_eq rfl⟩,⟨rfl,nofun,rfl,rfl,rfl,_,rfl,rfl,rfl,aQ.of_eq ?_⟩,trivial⟩
   rw[L8]
  conv=>whnf
  refine⟨(sR rfl),rfl,?_⟩
  rintro k ⟨hk,hvk⟩
  have hbl:=PV (v:=v) hk
  have hcell:k<n->(back n v k).getD (n-1-k) 0=((v / 4^k % 4:Nat):Int):=fun hkn=>by
   rw[sO hkn]; exact get_at (by rw[jB]; omega)
  have hti:((n:Int)-1-k).toNat=n-1-k:=by omega
  conv=>whnf
  repeat(refine VC.mk (by first|exact id|(intro h; (repeat' apply And.intro)<;>first|exact h|omega|(simp only[Rw.rV]; omega)|(simp only[Rw.rng]; omega))|(simp only[Rw.rng] at *; first|omega|(simp_all; done)|(simp_all; omega))) ?_; conv=>whnf)
  refine⟨fun h6=>?_,fun h6=>?_⟩
  ·rw[Bool.and_eq_true] at h6
   have hkn:k<n:=by have:=of_decide_eq_true h6.1; omega
   have h3:v / 4^k % 4=3:=by
    have:=beq_iff_eq.1 h6.2
    rw[hti,hcell hkn] at this; omega
   conv=>whnf
   repeat(refine VC.mk (by first|(simp only[okI]; omega)|(simp only[Rw.rng,hbl]; omega)) ?_; conv=>whnf)
   refine⟨k+1,[0,1,2,3],⟨by omega,Mc h3 hvk⟩,by omega,⟨⟨_,rfl,.eq ?_⟩,⟨_,rfl,.eq rfl⟩,⟨_,rfl,.eq rfl⟩,trivial⟩,(sR rfl),⟨rfl,nofun,rfl,rfl,rfl,_,rfl,rfl,rfl,aQ.of_eq rfl⟩,⟨rfl,nofun,rfl,rfl,rfl,_,rfl,rfl,rfl,aQ.of_eq rfl⟩,⟨rfl,nofun,rfl,rfl,rfl,_,rfl,rfl,rfl,aQ.of_eq rfl⟩,⟨rfl,nofun,rfl,rfl,rfl,_,rfl,rfl,rfl,aQ.of_eq ?_⟩,trivial⟩
   ·show T.int ((n:Int)-1-((k+1:Nat):Int))=T.int ((n:Int)-1-(k:Int)-1)
    exact congrArg T.int (by omega)
   ·rw[hti,L9 hkn,sO hkn,uJ (by rw[jB]; omega)]
  conv=>whnf
  refine⟨fun h7=>?_,fun h7=>?_⟩
  ·have hkn:k=n:=by have:=of_decide_eq_true h7; omega
   subst hkn
   rw[U4 hv hvk]
   conv=>whnf
   refine ah.yw rfl rfl (by have:=Ja (q:=q) (n:=k) (vals:=vals) (u:=4^k); have h4:4^k*vals<=4096*3:=Nat.mul_le_mul (Nat.pow_le_pow_right (by decide) (show k<=6 from hn6)) YB; omega) (L6 hn6) ?_ (fun m=>?_)
   ·conv=>whnf
    exact ak.ac3 rfl
   ·conv=>whnf
    exact ak.aaW rfl
  ·have hkn:k<n:=by have:=of_decide_eq_false h7; omega
   have h3:v / 4^k % 4≠3:=by
    rw[Bool.and_eq_false_iff] at h6
    rcases h6 with h6|h6
    ·have:=of_decide_eq_false h6; omega
    ·intro e
     have:((back n v k).getD ((n:Int)-1-k).toNat 0==3)=false:=h6
     rw[hti,hcell hkn,e] at this; exact absurd this (by decide)
   have hlt4:v / 4^k % 4<4:=Nat.mod_lt _ (by decide)
   have hc0:=hcell hkn
   conv=>whnf
   repeat(refine VC.mk (by first|(simp only[okI,hti,hc0]; omega)|(simp only[Rw.rng,hbl]; omega)) ?_; conv=>whnf)
   refine⟨v+1,[0,1,2,3],YA hkn hv h3 hvk,by omega,(sR rfl),(sR rfl),⟨rfl,nofun,rfl,rfl,rfl,_,rfl,rfl,rfl,aQ.of_eq rfl⟩,⟨rfl,nofun,rfl,rfl,rfl,_,rfl,rfl,rfl,aQ.of_eq rfl⟩,⟨rfl,nofun,rfl,rfl,rfl,_,rfl,rfl,rfl,aQ.of_eq rfl⟩,⟨rfl,nofun,rfl,rfl,rfl,_,rfl,rfl,rfl,aQ.of_eq ?_⟩,trivial⟩
   rw[hti,hc0,<- PW hkn h3 hvk,sO hkn,uJ (by rw[jB]; omega)]
def smB(q:Prop')(c:List Int):Bool:=Dv q c&&(List.range c.length).all fun x=>c.getD x 0==0|| !(Dv q (dI c x (-1)))
theorem Jb{k:Nat}(hk:k<4): ∀ {m u:Nat},u<4^m->oH (m+1) (k*4^m+u)=(k:Int)::oH m u:=by
 intro m
 induction m with
 |zero =>
  intro u hu
  have h:u=0:=(by simpa using hu)
  subst h
  simp only[oH,Nat.pow_zero,Nat.mul_one,Nat.add_zero,List.nil_append]
  rw[Nat.mod_eq_of_lt hk]
 |succ m ih =>
  intro u hu
  rw[Nat.pow_succ] at hu
  have e:k*4^(m+1)=k*4^m*4:=by rw[Nat.pow_succ,Nat.mul_assoc]
  rw[e,oH]
  rw[show(k*4^m*4+u) / 4=k*4^m+u / 4 by omega,show(k*4^m*4+u) % 4=u % 4 by omega,ih (show u / 4<4^m by omega),oH]
  rfl
def smA(q:Prop')(n:Nat)(w i:Nat):List Elem:=((List.range i).filter fun u=>smB q (oH n u)).map fun u=>⟨(w:Int),oH n u⟩
def vZ(q:Prop')(n vals:Nat):List Elem:=(List.range vals).flatMap fun w=>smA q n w (4^n)
theorem aaX{q:Prop'}{n w i:Nat}:(smA q n w i).length<=i:=by
 unfold smA
 rw[List.length_map]
 have:=List.length_filter_le (fun u=>smB q (oH n u)) (List.range i)
 simpa using this
theorem Hl{q:Prop'}{n v:Nat}:vZ q n (v+1)=vZ q n v++smA q n v (4^n):=by
 unfold vZ
 rw[List.range_succ,List.flatMap_append]; simp
theorem Tc{q:Prop'}{n v:Nat}:(vZ q n v).length<=v*4^n:=by
 induction v with
 |zero=>simp[vZ]
 |succ v ih =>
  rw[Hl,List.length_append,Nat.succ_mul]
  have:=@aaX q n v (4^n); omega
theorem Ws{a b:List Int}(h:o9 a b=true)(hne:a≠b): ∃ x,x<b.length/\a.getD x 0<b.getD x 0:=by
 refine Classical.byContradiction fun hc=>hne ?_
 obtain⟨h1,h2⟩:=qV.1 h
 refine List.ext_getElem h1 fun i hi hj=>?_
 have e1:=h2 i hi
 have e2: ¬ a.getD i 0<b.getD i 0:=fun q=>hc ⟨i,hj,q⟩
 rw[show a.getD i 0=a[i] by simp[hi],show b.getD i 0=b[i] by simp[hj]] at e1 e2
 omega
theorem YC{q:Prop'}{a b:List Int}(h:o9 a b=true)(hd:Dv q a=true):Dv q b=true:=by
 unfold Dv at hd ⊢
 rw[List.all_eq_true] at hd ⊢
 intro k hk
 have:=of_decide_eq_true (hd k hk)
 refine decide_eq_true (Int.le_trans this ?_)
 unfold F5
 generalize k.states=st
 induction st with
 |nil=>exact Int.le_refl _
 |cons x r ih =>
  simp only[List.map_cons,List.sum_cons]
  have:=PO h x.toNat
  omega
theorem Wu{a b:List Int}{x:Nat}(h:o9 a b=true)(hx:a.getD x 0<b.getD x 0):o9 a (dI b x (-1))=true:=by
 obtain⟨h1,h2⟩:=qV.1 h
 refine qV.2 ⟨by rw[LW,h1],fun i hi=>?_⟩
 rw[FZ]
 split
 ·rename_i hc
  have:i=x:=by have:=hc.1; simpa using this
  subst this; omega
 ·exact h2 i hi
theorem Wv{b:List Int}{x:Nat}:o9 (dI b x (-1)) b=true:=by
 refine qV.2 ⟨LW,fun i hi=>?_⟩
 rw[FZ]
 split<;>omega
theorem aaY{n:Nat}: ∀ {c:List Int},c.length=n->(∀ x∈c,0<=x/\x<=3)-> ∃ u,u<4^n/\oH n u=c:=by
 induction n with
 |zero=>intro c h _; exact⟨0,by decide,by rw[List.eq_nil_of_length_eq_zero h]; rfl⟩
 |succ n ih =>
  intro c h hc
  cases c with
  |nil=>simp at h
  |cons k c =>
   simp only[List.length_cons] at h
   obtain⟨u,h1,h2⟩:=ih (c:=c) (by omega) fun x hx=>hc x (by simp[hx])
   have hk:=hc k (by simp)
   obtain⟨j,rfl⟩: ∃ j:Nat,k=j:=⟨k.toNat,by omega⟩
   refine⟨j*4^n+u,?_,?_⟩
   ·rw[Nat.pow_succ]
    have:j*4^n<=3*4^n:=Nat.mul_le_mul_right _ (by omega)
    omega
   ·rw[Jb (by omega) h1,h2]
theorem ac4: ∀ {n u v:Nat},u<v->v<4^n->cmpL (oH n u) (oH n v)<0:=by
 intro n
 induction n with
 |zero=>intro u v h1 h2; simp at h2; omega
 |succ n ih =>
  intro u v h1 h2
  have hp:0<4^n:=Nat.pow_pos (by decide)
  rw[Nat.pow_succ] at h2
  have eu:u=u / 4^n*4^n+u % 4^n:=(Nat.div_add_mod' u (4^n)).symm
  have ev:v=v / 4^n*4^n+v % 4^n:=(Nat.div_add_mod' v (4^n)).symm
  have lv:v / 4^n<4:=(Nat.div_lt_iff_lt_mul hp).2 (by omega)
  have le:u / 4^n<=v / 4^n:=Nat.div_le_div_right (by omega)
  have d1:oH (n+1) u=((u / 4^n:Nat):Int)::oH n (u % 4^n):=by
   conv=>lhs; rw[eu]
   exact Jb (by omega) (Nat.mod_lt _ hp)
  have d2:oH (n+1) v=((v / 4^n:Nat):Int)::oH n (v % 4^n):=by
   conv=>lhs; rw[ev]
   exact Jb lv (Nat.mod_lt _ hp)
  rw[d1,d2]
  simp only[cmpL]
  by_cases e:u / 4^n=v / 4^n
  ·rw[if_neg (by omega),if_neg (by omega)]
   refine ih ?_ (Nat.mod_lt _ hp)
   rw[e] at eu; omega
  ·rw[if_pos (by omega)]; decide
theorem Wx{q:Prop'}{n vals:Nat}:SS (vZ q n vals):=by
 induction vals with
 |zero=>simp[vZ,SS]
 |succ v ih =>
  rw[Hl]
  simp only[SS,List.pairwise_append]
  refine⟨ih,?_,fun x hx y hy=>?_⟩
  ·unfold smA
   rw[List.pairwise_map]
   refine List.Pairwise.filter _ ?_
   refine List.Pairwise.imp_of_mem (R:=fun a b=>a<b) (fun {a b} ha hb h=>?_) List.pairwise_lt_range
   show kU ⟨(v:Int),oH n a⟩ ⟨(v:Int),oH n b⟩<0
   simp only[kU]
   rw[if_neg (by omega),if_neg (by omega)]
   exact ac4 h (List.mem_range.1 hb)
  ·obtain⟨w,h1,h2⟩:=List.mem_flatMap.1 hx
   obtain⟨u,_,rfl⟩:=List.mem_map.1 h2
   obtain⟨u',_,rfl⟩:=List.mem_map.1 hy
   have:=List.mem_range.1 h1
   simp only[kU]
   rw[if_pos (by omega)]; decide
theorem Jc{q:Prop'}{n vals:Nat}{e:Elem}:e∈vY q n vals (4^n)↔ ∃ u w,u<4^n/\w<vals/\Dv q (oH n u)=true/\e=⟨((w:Nat):Int),oH n u⟩:=by
 unfold vY
 rw[List.mem_flatMap]
 constructor
 ·rintro⟨u,h1,h2⟩
  unfold Ad at h2
  cases hd:Dv q (oH n u) with
  |false=>rw[hd] at h2; cases h2
  |true =>
   rw[hd] at h2
   obtain⟨w,h3,rfl⟩:=List.mem_map.1 h2
   exact⟨u,w,List.mem_range.1 h1,List.mem_range.1 h3,hd,rfl⟩
 ·rintro⟨u,w,h1,h2,h3,rfl⟩
  refine⟨u,List.mem_range.2 h1,?_⟩
  unfold Ad
  rw[h3]
  exact List.mem_map.2 ⟨w,List.mem_range.2 h2,rfl⟩
theorem U5{q:Prop'}{c:List Int}(hc: ∀ x∈c,0<=x):smB q c=true↔Dv q c=true/\ ∀ a,(∀ x∈a,0<=x)->o9 a c=true->a≠c->Dv q a=false:=by
 have gz: ∀ {l:List Int},(∀ x∈l,0<=x)-> ∀ i,0<=l.getD i 0:=fun {l} h i=>by
  by_cases hi:i<l.length
  ·rw[show l.getD i 0=l[i] by simp[hi]]; exact h _ (List.getElem_mem hi)
  ·rw[show l.getD i 0=0 by simp[List.getD_eq_getElem?_getD,List.getElem?_eq_none (by omega:l.length<=i)]]; omega
 unfold smB
 rw[Bool.and_eq_true,List.all_eq_true]
 constructor
 ·rintro⟨h1,h2⟩
  refine⟨h1,fun a ha hl hne=>?_⟩
  obtain⟨x,hx,hlt⟩:=Ws hl hne
  have h3:=h2 x (List.mem_range.2 hx)
  have h4:c.getD x 0≠0:=by have:=gz ha x; omega
  rw[show(c.getD x 0==0)=false by simpa using h4,Bool.false_or,Bool.not_eq_true'] at h3
  cases hd:Dv q a with
  |false=>rfl
  |true=>rw[YC (Wu hl hlt) hd] at h3; cases h3
 ·rintro⟨h1,h2⟩
  refine⟨h1,fun x hx=>?_⟩
  have hx':=List.mem_range.1 hx
  by_cases h0:c.getD x 0=0
  ·rw[show(c.getD x 0==0)=true by simpa using h0]; rfl
  ·have h3:=h2 (dI c x (-1)) (fun y hy=>by
    rcases List.mem_or_eq_of_mem_set hy with hy|rfl
    ·exact hc y hy
    ·have:=gz hc x; simp only[Int.toNat_natCast]; omega) Wv (fun e=>by
    have:(dI c x (-1)).getD x 0=c.getD x 0:=by rw[e]
    rw[FZ,if_pos ⟨by simp,hx'⟩] at this; omega)
   rw[h3]; simp
theorem bad_law{q:Prop'}{n vals:Nat}:bC (vY q n vals (4^n))=vZ q n vals:=by
 have nn: ∀ {u:Nat},∀ x∈oH n u,0<=x:=fun {u} x hx=>(Et x hx).1
 refine F7 (gG _).1 Wx fun e=>?_
 rw[(gG _).2,Jc]
 constructor
 ·rintro⟨⟨u,w,h1,h2,h3,rfl⟩,h4⟩
  refine List.mem_flatMap.2 ⟨w,List.mem_range.2 h2,List.mem_map.2 ⟨u,List.mem_filter.2 ⟨List.mem_range.2 h1,?_⟩,rfl⟩⟩
  refine(U5 nn).2 ⟨h3,fun a ha hl hne=>?_⟩
  cases hd:Dv q a with
  |false=>rfl
  |true =>
   exfalso
   have hal:a.length=n:=by rw[(qV.1 hl).1,jB]
   obtain⟨u',g1,rfl⟩:=aaY hal fun x hx=>by
    refine⟨ha x hx,?_⟩
    obtain⟨i,hi,rfl⟩:=List.mem_iff_getElem.1 hx
    have e1:=PO hl i
    rw[show a.getD i 0=a[i] by simp[hi]] at e1
    have hi2:i<(oH n u).length:=by rw[jB]; omega
    rw[show(oH n u).getD i 0=(oH n u)[i] by simp[hi2]] at e1
    have:=Et _ (List.getElem_mem hi2)
    omega
   rw[List.any_eq_false] at h4
   refine h4 ⟨(w:Int),oH n u'⟩ (Jc.2 ⟨u',w,g1,h2,hd,rfl⟩) (yx.2 ⟨?_,fun e=>hne (congrArg Elem.counts e)⟩)
   simp only[pR,BEq.rfl,Bool.true_and]; exact hl
 ·intro h
  obtain⟨w,h1,h2⟩:=List.mem_flatMap.1 h
  obtain⟨u,h3,rfl⟩:=List.mem_map.1 h2
  obtain⟨h4,h5⟩:=List.mem_filter.1 h3
  obtain⟨s1,s2⟩:=(U5 nn).1 h5
  refine⟨⟨u,w,List.mem_range.1 h4,List.mem_range.1 h1,s1,rfl⟩,?_⟩
  rw[List.any_eq_false]
  intro y hy hab
  obtain⟨u',w',g1,g2,g3,rfl⟩:=Jc.1 hy
  obtain⟨hl,hne⟩:=yx.1 hab
  simp only[pR,Bool.and_eq_true,beq_iff_eq] at hl
  have:=s2 (oH n u') nn hl.2 (fun e=>hne (by rw[hl.1,e]))
  rw[g3] at this; cases this
def eY(p:aI)(q:Prop'):List Elem:=bif bK p q !=0 then [] else vZ q p.states.length (max 1 p.values.length)
theorem ak.aeu{h:Hz}{k:Nat}{c:Int}{l:List Elem}(e:l=[]):ak (.dH [.row 3 false (.elems l),.int c]) (.dH [.row k true .nil,.int c]) h:=by subst e; exact ak.CO
theorem S.kL(p:aI)(q:Prop')(hp:fA p)(hq:jK q):aj Tryz.prog 32 [.dat (.iF p),.dat (.prop q)] (.dH [.row 3 false (.elems (eY p q)),.int (bK p q)]):=by
 refine aj.of Bd.kL (by simp) rfl rfl ?_
 conv=>whnf
 refine ah.pure (S.kQ p q hp hq) rfl ?_
 conv=>whnf
 refine⟨fun h1=>?_,fun h1=>?_⟩
 ·conv=>whnf
  exact ak.aeu (by rw[eY,h1]; rfl)
 have h1':=Ce h1
 obtain⟨b1,b2,b3,b4⟩:=Dk h1'
 have hv:=Dl b3
 have v1:=hv.pos; have v2:=hv.states; have v3:=hv.values
 have hB:eY p q=vZ q p.states.length (max 1 p.values.length):=by rw[eY,h1]; rfl
 rw[hB,h1',<- bad_law]
 conv=>whnf
 refine ah.pure (S.iq p q p.states.length (max 1 p.values.length) hp hq rfl v1 v2 rfl (by omega) b2) rfl ?_
 conv=>whnf
 exact ak.eqv rfl
theorem zY(p:aI)(q:Prop')(_hp:fA p):(eY p q).length<2^30/\fC (eY p q):=by
 unfold eY
 cases h1:(bK p q !=0) with
 |true=>exact⟨by show([]:List Elem).length<_; decide,fun x hx=>by cases hx⟩
 |false =>
  obtain⟨b1,b2,b3,b4⟩:=Dk (Ce h1)
  have hv:=Dl b3
  have v2:=hv.states; have v3:=hv.values
  have h46:4^p.states.length<=4^6:=Nat.pow_le_pow_right (by decide) v2
  have h47:(4:Nat)^6=4096:=by decide
  have h1:=Tc (q:=q) (n:=p.states.length) (v:=max 1 p.values.length)
  have h2:max 1 p.values.length*4^p.states.length<=3*4096:=Nat.mul_le_mul (by omega) (by omega)
  refine⟨by show(vZ _ _ _).length<_; omega,fun x hx=>?_⟩
  obtain⟨w,_,h3⟩:=List.mem_flatMap.1 hx
  obtain⟨u,_,rfl⟩:=List.mem_map.1 h3
  show(oH _ _).length<_
  rw[jB]; omega
end Go.Proofs.YtkmldgihhaooaaaGreatDoor
