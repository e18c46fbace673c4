/-
 A part of the proof. No condition.
-/
import Derived.Test.YtbfhebmdcpmfaaaGreatDoorRb
import Derived.Test.YtbfhebmdcpmfaaaGreatDoorLf
namespace Go.Proofs.YtbfhebmdcpmfaaaGreatDoor
open Go.Ab Go.Proofs
set_option maxRecDepth 100000
def CP(s:Int):List Int->Nat->Int
 |[],_=> -1
 |x::r,i=>bif s==x then(i:Int) else CP s r (i+1)
theorem Vz{s:Int}{l:List Int}:decide (0<=CP s l 0)=l.any fun x=>s==x:=by
 have: ∀ {l:List Int} {i:Nat},0<=CP s l i↔(l.any fun x=>s==x)=true:=by
  intro l
  induction l with
  |nil=>intro i; simp[CP]
  |cons x r ih =>
   intro i
   rw[List.any_cons,Bool.or_eq_true,<- ih (i:=i+1)]
   show(0:Int)<=(bif s==x then(i:Int) else CP s r (i+1))↔_
   generalize (s==x)=b
   cases b<;>simp
 rw[Bool.eq_iff_iff,decide_eq_true_eq]; exact this
theorem S.slices_Index_int(l:List Int)(s:Int)(f:Bool)(hl:l.length<2^40):ak Tryz.prog 127 [.row 0 f (.ints l),.int s] (.int (CP s l 0)):=by
 refine ak.of Bd.lY (by simp) rfl rfl ?_
 conv=>whnf
 refine aJ.same [0,1,6,7] (fun i:Nat=>[(8,.int i)]) (fun i=>i<=l.length/\CP s l 0=CP s (l.drop i) i) (fun i=>l.length-i) 0 rfl (by decide) rfl (fun _=>rfl) ⟨by omega,by simp⟩ ⟨⟨_,rfl,rfl⟩,trivial⟩ ?_
 conv=>whnf
 refine⟨rfl,?_⟩
 rintro i ⟨hi,hall⟩
 conv=>whnf
 refine⟨fun h3=>?_,fun h3=>?_⟩
 ·have hi':i<l.length:=by simpa using h3
  rw[aY 0 hi'] at hall
  simp only[CP] at hall
  conv=>whnf
  refine .mk (by simp only[Rw.rng] at *; first|omega|(simp_all; done)|(simp_all; omega)) ?_
  conv=>whnf
  refine⟨fun h4=>?_,fun h4=>?_⟩
  ·conv=>whnf
   refine au.int ?_
   have h4':(s==l.getD i 0)=true:=h4
   rw[hall,h4']; rfl
  ·conv=>whnf
   refine .mk (by simp only[okI] at *; first|omega|(simp_all; done)|(simp_all; omega)) ?_
   conv=>whnf
   refine⟨i+1,⟨by omega,?_⟩,by omega,⟨⟨_,rfl,rfl⟩,trivial⟩,?_,rfl⟩
   ·have h4':(s==l.getD i 0)=false:=h4
    rw[hall,h4']; rfl
   ·repeat' (first|exact trivial|exact⟨_,rfl,rfl⟩|constructor)
 ·conv=>whnf
  refine au.int ?_
  have hi':l.length<=i:=by simpa using h3
  rw[hall,List.drop_eq_nil_of_le hi']; rfl
def O9(l:List Int)(s:Int):Bool:=l.any fun x=>s==x
theorem S.slices_Contains_int(l:List Int)(s:Int)(f:Bool)(hl:l.length<2^40):ak Tryz.prog 103 [.row 0 f (.ints l),.int s] (.bool (O9 l s)):=by
 refine ak.of Bd.jY (by simp) rfl rfl ?_
 conv=>whnf
 refine ah.pure (S.slices_Index_int l s f hl) rfl ?_
 conv=>whnf
 exact au.bool Vz.symm
def qL(n:Nat)(l:List Int):Prop:= ∀ q∈l,0<=q/\q<n
def Yt(c l:List Int):Bool:=(List.range c.length).any fun i=>decide (c.getD i 0>0)&& !(O9 l i)
def Bj(ex c:List Int)(i:Nat):Bool:=((ex.length:Int)==0)||(List.range i).any fun j=> !(c.getD j 0==0)&&O9 ex j
def vP(al c:List Int)(i:Nat):Bool:=(List.range i).any fun j=> !(c.getD j 0==0)&&(decide ((al.length:Int)>0)&& !(O9 al j))
def vS(r:Rule)(c:List Int):Bool:= !(vP r.all c c.length)&&Bj r.ex c c.length
theorem Pg{ex c:List Int}{i:Nat}:Bj ex c (i+1)=(Bj ex c i||(!(c.getD i 0==0)&&O9 ex i)):=by
 simp only[Bj,List.range_succ,List.any_append,List.any_cons,List.any_nil,Bool.or_false,Bool.or_assoc]
theorem Ph{al c:List Int}{i:Nat}:vP al c (i+1)=(vP al c i||(!(c.getD i 0==0)&&(decide ((al.length:Int)>0)&& !(O9 al i)))):=by
 simp only[vP,List.range_succ,List.any_append,List.any_cons,List.any_nil,Bool.or_false]
theorem VA{al c:List Int}{i:Nat}(hi:i<c.length)(h0:(c.getD i 0==0)=false)(h:(decide ((al.length:Int)>0)&& !(O9 al i))=true):vP al c c.length=true :=
 Ea.2 ⟨i,hi,by rw[h0,h]; rfl⟩
structure xE(n:Nat)(r:Rule):Prop where
 src:0<=r.fr/\r.fr<n
 dst:0<=r.to/\r.to<n
 adg:0<=r.jd/\r.jd<n
 adh:0<=r.CQ/\r.CQ<n
 rsp:r.kind=3->r.response.length=n/\qL n r.response
 exs:qL n r.ex
def Bl(c:List Int):Prop:= ∀ x∈c,0<=x/\x<=1048576
def kY(c:List Int)(i d:Int):List Int:=c.set i.toNat (c.getD i.toNat 0+d)
def bH(c:List Int)(i:Int):List Int:=c.set i.toNat (c.getD i.toNat 0-1)
def wo(r:Rule)(c:List Int)(i:Nat):List Int:=(List.range i).foldl (fun a j=>kY a (r.response.getD j 0) (c.getD j 0)) (List.replicate c.length 0)
def dK(r:Rule)(e:Elem):Option Elem :=
 let c1:=bH e.counts r.fr
 let out (c:List Int):Option Elem:=some ⟨bif decide (r.write>=0) then r.write else e.value,kY c r.to 1⟩
 bif (decide (0<=r.read)&&e.value !=r.read||e.counts.getD r.fr.toNat 0==0) then none else
 bif r.kind==1 then(bif !(vS r c1) then none else out c1) else
 bif r.kind==2 then(bif c1.getD r.jd.toNat 0==0 then none else out (kY (bH c1 r.jd) r.CQ 1)) else
 bif r.kind==3 then out (wo r c1 c1.length) else out c1
theorem Bl.get{c:List Int}(h:Bl c){i:Nat}(hi:i<c.length):0<=c.getD i 0/\c.getD i 0<=1048576:=by
 rw[show c.getD i 0=c[i] by simp[hi]]; exact h _ (List.getElem_mem hi)
theorem Jo{h:Hz}{j:Nat}{Z:Nat->Prop}{l:List Int}(hz:Z j)(q:h.get j=some (.row 3 0 (.ints l) [])):T.sub Z h.aj (V.row 0 false (.ints l)).aG (V.own j).aG:=by
 show T.sub Z h.aj (.sl 0 false (l.map T.int)) (.own j)
 simp only[T.sub]
 refine⟨trivial,hz,?_,by decide,3,?_⟩
 ·rw[ig]; intro t ht; obtain⟨x,_,rfl⟩:=List.mem_map.1 ht; rfl
 ·have:=aH q
  rw[this]; simp[OV.aF,Rw.aT,V.aT]
def okB(b:Int)(c:List Int):Prop:= ∀ x∈c,-b<=x/\x<=b
theorem okB.get{b:Int}{c:List Int}(h:okB b c)(hb:0<=b)(i:Nat): -b<=c.getD i 0/\c.getD i 0<=b:=by
 by_cases hi:i<c.length
 ·rw[show c.getD i 0=c[i] by simp[hi]]; exact h _ (List.getElem_mem hi)
 ·rw[show c.getD i 0=0 by simp[List.getD_eq_getElem?_getD,List.getElem?_eq_none (by omega:c.length<=i)]]; omega
theorem okB.add{b k:Int}{c:List Int}(h:okB b c)(hb:0<=b)(i d:Int)(hd: -k<=d/\d<=k):okB (b+k) (kY c i d):=by
 intro x hx
 have hk:0<=k:=by omega
 rcases List.mem_or_eq_of_mem_set hx with hx|rfl
 ·have:=h x hx; omega
 ·have:=h.get hb i.toNat; omega
theorem okB.dec{b:Int}{c:List Int}(h:okB b c)(hb:0<=b)(i:Int):okB (b+1) (bH c i):=by
 have:=h.add hb i (-1) (k:=1) ⟨by omega,by omega⟩
 rw[show bH c i=kY c i (-1) by simp only[bH,kY]; rfl]; exact this
theorem Bl.b{c:List Int}(h:Bl c):okB 1048576 c:=fun x hx=>by have:=h x hx; omega
theorem yS{n:Nat}(h:0<n):(bif isZero (.int n) then some Rw.nil else SC (n:Int).toNat (T.int 0))=some (.ints (List.replicate n 0)):=by
 cases n with
 |zero=>omega
 |succ k=>rfl
theorem zM{r:Rule}{c:List Int}{i:Nat}:wo r c (i+1)=kY (wo r c i) (r.response.getD i 0) (c.getD i 0):=by
 simp only[wo,List.range_succ,List.foldl_append,List.foldl_cons,List.foldl_nil]
theorem CS{r:Rule}{c:List Int}{i:Nat}:(wo r c i).length=c.length:=by
 induction i with
 |zero=>simp[wo]
 |succ i ih=>rw[zM]; simp[kY,ih]
theorem aay{r:Rule}{c:List Int}{b:Int}(h:okB b c)(hb:0<=b)(i:Nat):okB (i*b) (wo r c i):=by
 induction i with
 |zero=>intro x hx; simp[wo] at hx; omega
 |succ i ih =>
  rw[zM]
  have h0:0<=(i:Int)*b:=Int.mul_nonneg (by omega) hb
  have:=ih.add h0 (r.response.getD i 0) (c.getD i 0) (k:=b) (h.get hb i)
  rw[show((i+1:Nat):Int)*b=i*b+b by rw[Int.natCast_add,Int.add_mul]; simp]; exact this
abbrev jZ(l:List Int):OV:=.row 3 0 (.ints l) []
end Go.Proofs.YtbfhebmdcpmfaaaGreatDoor
namespace Go.Proofs.YtbfhebmdcpmfaaaGreatDoor
open Go.Ab Go.Proofs
set_option maxRecDepth 100000
theorem Yu{r:Rule}{e:Elem}(hc:Bl e.counts)(h1:(decide (0<=r.read)&&e.value !=r.read||e.counts.getD r.fr.toNat 0==0)=false)(i:Nat):0<=(bH e.counts r.fr).getD i 0:=by
 have h0: ∀ j,0<=e.counts.getD j 0:=fun j=>by
  by_cases hj:j<e.counts.length
  ·exact(hc.get hj).1
  ·rw[show e.counts.getD j 0=0 by simp[List.getD_eq_getElem?_getD,List.getElem?_eq_none (by omega:e.counts.length<=j)]]; omega
 have h2:e.counts.getD r.fr.toNat 0≠0:=by
  rw[Bool.or_eq_false_iff] at h1
  have:=h1.2
  simpa using this
 have h3:=h0 r.fr.toNat
 have h4:=h0 i
 rw[bH,List.getD_eq_getElem?_getD,List.getElem?_set]
 split
 ·split
  ·simp only[Option.getD_some]; omega
  ·simp
 ·rw[<- List.getD_eq_getElem?_getD]; exact h4
theorem okF{ρ:Nat->Nat}{nx pn c n:Nat}{h:Hz}{s:List Nat}{o o':OV}(q1:Nat.blt c nx=true)(q2:Nat.blt c pn=true->n=c)(q3:Gv n s=true)(q4:(o.good nx&&o.KD)=true)(q5:h.get n=some o')
  (q6:o'.aF.ty=o.aF.ty/\o'.aF.k=o.aF.k) (q7:o.aF.l=o'.aF.l):Nat.blt c nx=true/\(Nat.blt c pn=true->n=c)/\Gv n s=true/\o.good nx=true /\
   ∃ o',h.get n=some o'/\o'.aF.ty=o.aF.ty/\o'.aF.k=o.aF.k/\bn (T.cu ρ o.aF.l) o'.aF.l:=by
 rw[Bool.and_eq_true] at q4
 exact⟨q1,q2,q3,q4.1,o',q5,q6.1,q6.2,bn.of_eq ((OV.CU q4.2 ρ).trans q7)⟩
theorem bz{c:Bool}{a b:Int}(ha:c=true->a≠0)(h:(bif c then a else b)=0):c=false/\b=0:=by
 cases c with
 |true=>exact absurd h (ha rfl)
 |false=>exact⟨rfl,h⟩
theorem nz{a:Int}(h:(a !=0)=true):a≠0:=by simpa using h
theorem gY: ∀ {l:List Int},aQ l=0-> ∀ x∈l,x=0:=by
 intro l
 induction l with
 |nil=>intro _ x h; cases h
 |cons a r ih =>
  intro h x hx
  simp only[aQ] at h
  split at h
  ·rename_i h0
   rcases List.mem_cons.1 hx with rfl|hx
   ·exact h0
   ·exact ih h x hx
  ·rename_i h0; exact absurd h h0
structure Eb(p:aU):Prop where
 pos:0<p.states.length
 states:p.states.length<=6
 values:p.values.length<=3
 adi:p.rules.length<=8
 init:dU p.initial p.states.length=0
 start:p.initial≠[]
 rule: ∀ i,i<p.rules.length->fZ p i=0
theorem aaz{p:aU}(h:dn p=0):Eb p:=by
 unfold dn at h
 obtain⟨_,h⟩:=bz (fun _=>by decide) h
 obtain⟨_,h⟩:=bz (fun _=>by decide) h
 obtain⟨h0,h⟩:=bz (fun _=>by decide) h
 obtain⟨h1,h⟩:=bz (fun _=>by decide) h
 obtain⟨_,h⟩:=bz nz h
 obtain⟨_,h⟩:=bz (fun _=>by decide) h
 obtain⟨_,h⟩:=bz (fun _=>by decide) h
 obtain⟨h2,h⟩:=bz nz h
 obtain⟨h3,h⟩:=bz nz h
 have h2':wu p=0:=by simpa using h2
 have h3':Bo p=0:=by simpa using h3
 have g:=gY h2'
 simp only[ug,Bool.or_eq_false_iff,decide_eq_false_iff_not] at h1
 refine⟨?_,by omega,by omega,by omega,g _ (by simp),?_,fun i hi=>?_⟩
 ·have:(p.states.length:Int)≠0:=by simpa using h0
  omega
 ·intro e
  have:=g (eu ((p.initial.length:Int)==0) 1) (by simp)
  rw[e] at this; exact absurd this (by decide)
 ·exact gY h3' _ (List.mem_map.2 ⟨i,by simpa using hi,rfl⟩)
theorem sS{x:Int}{n:Nat}(h:ou x n=false):0<=x/\x<n:=by
 simp only[ou,Bool.or_eq_false_iff,decide_eq_false_iff_not] at h; omega
theorem Bq{x:Int}{n:Nat}(h:bV x n=0):0<=x/\x<n:=by
 refine sS ?_
 unfold bV eu at h
 cases hb:ou x n with
 |false=>rfl
 |true=>rw[hb] at h; exact absurd h (by decide)
theorem zN{l:List Int}{n:Nat}(h:dU l n=0):qL n l:=by
 unfold dU at h
 obtain⟨h,_⟩:=bz (fun _=>by decide) h
 rw[List.any_eq_false] at h
 exact fun q hq=>sS (by simpa using h q hq)
theorem MP{n:Nat}: ∀ {l:List Int},oz l n=0->qL n l:=by
 intro l
 induction l with
 |nil=>intro _ q h; cases h
 |cons x r ih =>
  intro h q hq
  simp only[oz] at h
  split at h
  ·rename_i h0
   rcases List.mem_cons.1 hq with rfl|hq
   ·exact Bq h0
   ·exact ih h q hq
  ·rename_i h0; exact absurd h h0
theorem SE{k:Int}(h:sN k 1=true):k=1\/k=2\/k=3:=by
 unfold sN at h
 cases h1:(k==1) with
 |true=>exact .inl (beq_iff_eq.1 h1)
 |false =>
  cases h2:(k==2) with
  |true=>exact .inr (.inl (beq_iff_eq.1 h2))
  |false =>
   cases h3:(k==3) with
   |true=>exact .inr (.inr (beq_iff_eq.1 h3))
   |false=>rw[h1,h2,h3] at h; cases hb:(k==4||k==5)<;>rw[hb] at h<;>cases h
structure ZX(n:Nat)(p:aU)(r:Rule):Prop where
 place:xE n r
 kind:r.kind=1\/r.kind=2\/r.kind=3
 adT:qL n r.all
 ex1:r.kind≠1->r.ex=[]/\r.all=[]
 rd:ou r.read p.values.length=false\/r.read= -1
 wr:ou r.write p.values.length=false\/r.write= -1
theorem qM{p:aU}{v:Int}(h:jo p v=0):ou v p.values.length=false\/v= -1:=by
 unfold jo eu at h
 have h': ¬ (v< -1\/v>=(p.values.length:Int)):=by
  intro q
  have:(decide (v< -1)||decide (v>=(p.values.length:Int)))=true:=by simpa using q
  rw[this] at h; exact absurd h (by decide)
 by_cases e:v= -1
 ·exact .inr e
 ·left
  simp only[ou,Bool.or_eq_false_iff,decide_eq_false_iff_not]; omega
theorem ace{p:aU}{i:Nat}(hv:Eb p)(ht:p.topology=1)(hi:i<p.rules.length):ZX p.states.length p (p.rules.getD i default):=by
 have h:=hv.rule i hi
 have hpos:=hv.pos
 simp only[fZ,pq] at h
 generalize (p.rules.getD i default)=r at h ⊢
 obtain⟨_,h⟩:=bz (fun _=>by decide) h
 obtain⟨hb,h⟩:=bz (fun _=>by decide) h
 obtain⟨he,h⟩:=bz nz h
 rw[FQ,Bool.or_eq_false_iff] at he
 rw[ht,Bool.or_eq_false_iff] at hb
 have hk:=SE (show sN r.kind 1=true by simpa using hb.1)
 have hu:lu r 1=false:=by rw[yT (by omega)]; exact hb.2
 have hun:=Jp hu
 have hpf:r.kind≠2->r.kind≠5->r.jd=0/\r.CQ=0:=by
  intro k1 k2
  simp only[lu,QU,Bool.or_eq_false_iff] at hu
  have h3:=hu.2.2.1
  simp only[beq_eq_false_iff_ne.2 k1,beq_eq_false_iff_ne.2 k2,Bool.not_false,Bool.true_and,Bool.or_eq_false_iff] at h3
  exact⟨Pj h3.1,Pj h3.2⟩
 have h00:(0:Int)<=0/\(0:Int)<p.states.length:=⟨by omega,by omega⟩
 have pn:qL p.states.length []:=fun q hq=>by cases hq
 rcases hk with e|e|e
 ·rw[e] at h
  have g:=gY h
  have⟨a,b⟩:=hpf (by omega) (by omega)
  exact⟨⟨sS he.1,sS he.2,by rw[a]; exact h00,by rw[b]; exact h00,fun q=>by omega,zN (g (dU r.ex p.states.length) (by simp))⟩,.inl e,zN (g (dU r.all p.states.length) (by simp)),fun q=>absurd e q,qM (g (jo p r.read) (by simp)),qM (g (jo p r.write) (by simp))⟩
 ·rw[e] at h
  have g:=gY h
  obtain⟨_,u1,u2,_⟩:=hun.1 (by omega)
  exact⟨⟨sS he.1,sS he.2,Bq (g (bV r.jd p.states.length) (by simp)),Bq (g (bV r.CQ p.states.length) (by simp)),fun q=>by omega,by rw[u1]; exact pn⟩,.inr (.inl e),by rw[u2]; exact pn,fun _=>⟨u1,u2⟩,qM (g (jo p r.read) (by simp)),qM (g (jo p r.write) (by simp))⟩
 ·rw[e] at h
  have g:=gY h
  have⟨a,b⟩:=hpf (by omega) (by omega)
  obtain⟨_,u1,u2,_⟩:=hun.1 (by omega)
  have hr:=g (CV r.response p.states.length) (by simp)
  unfold CV at hr
  obtain⟨r1,r2⟩:=bz (fun _=>by decide) hr
  exact⟨⟨sS he.1,sS he.2,by rw[a]; exact h00,by rw[b]; exact h00,fun _=>⟨by have q9:(r.response.length:Int)=p.states.length:=(by simpa using r1); omega,MP r2⟩,by rw[u1]; exact pn⟩,.inr (.inr e),by rw[u2]; exact pn,fun _=>⟨u1,u2⟩,qM (g (jo p r.read) (by simp)),qM (g (jo p r.write) (by simp))⟩
theorem SG{p:aU}(h:sF p=true):p.topology=1:=by
 simp only[sF,Bool.and_eq_true,beq_iff_eq] at h; exact h.1.1.1
structure adU(p:aU)(e:Elem):Prop where
 valid:Eb p
 plain:sF p=true
 len:e.counts.length=p.states.length
 nums:Bl e.counts
 val:0<=e.value/\e.value<max 1 (p.values.length:Int)
theorem Jq{b:Bool}{n:Int}(h:eu b n=0)(hn:n≠0):b=false:=by
 cases b with
 |false=>rfl
 |true=>exact absurd h hn
theorem Yv{x:Int}:IW x=true↔0<=x/\x<=1048576:=by simp[IW]
theorem gU{α:Type}{c:Bool}{a b:Option α}{x:α}(h:(bif c then a else b)=some x):a=some x\/b=some x:=by
 cases c with
 |true=>exact .inl h
 |false=>exact .inr h
theorem Jr{c:List Int}{i d:Int}:(kY c i d).length=c.length:=by simp[kY]
theorem qN{c:List Int}{i:Int}:(bH c i).length=c.length:=by simp[bH]
theorem SH{r:Rule}{e x:Elem}(h:dK r e=some x):x.counts.length=e.counts.length:=by
 simp only[dK] at h
 have out: ∀ {c:List Int} {v:Int},c.length=e.counts.length->some (⟨v,kY c r.to 1⟩:Elem)=some x->x.counts.length=e.counts.length:=by
  intro c v hc h; cases h; rw[Jr,hc]
 rcases gU h with h|h
 ·cases h
 rcases gU h with h|h
 ·rcases gU h with h|h
  ·cases h
  ·exact out qN h
 rcases gU h with h|h
 ·rcases gU h with h|h
  ·cases h
  ·exact out (by rw[Jr,qN,qN]) h
 rcases gU h with h|h
 ·exact out (by rw[CS,qN]) h
 ·exact out qN h
structure vO(q:Prop'):Prop where
 start:q.start.length<2^30
 bad:q.bad.length<2^30
 adjacent:q.adjacent.length<2^30
 goal:q.goal.length<2^30
 cnt: ∀ i,(q.bad.getD i default).states.length<2^30
def uh(c:Cnt):Bool:=((c.states.length:Int)==0||decide (c.least<1))||decide (c.least>3)
def VB(n:Int)(c:Cnt):Int:=aQ [dU c.states n,eu (uh c) 1]
def zO(l:List Cnt)(n:Int):Int:=aQ (l.map (VB n))
def Pm(p:aU)(l:List Int):Int:=bif (l.length:Int)==0 then 0 else bif p.topology==1 then 6 else bif (l.length:Int) !=2 then 1 else aQ [bV (l.getD 0 0) p.states.length,bV (l.getD 1 0) p.states.length]
def xF(q:Prop'):Bool:=((q.kind==1)&&decide ((q.goal.length:Int)>0))||(!(q.kind==1)&&(decide ((q.bad.length:Int)>0)||decide ((q.adjacent.length:Int)>0)))
def rH(p:aU)(q:Prop'):Int :=
 let n:Int:=p.states.length
 bif dn p !=0 then dn p else bif !(validName q.name) then 2 else bif !(q.kind==1)&&q.kind !=2 then 1 else bif xF q then 1 else
 bif dU q.start n !=0 then dU q.start n else bif q.start.any (fun x=> !(O9 p.initial x)) then 5 else
 bif !(q.kind==1) then aQ [dU q.goal n,eu ((q.goal.length:Int)==0) 1] else
 aQ [eu (((q.bad.length:Int)==0)&&((q.adjacent.length:Int)==0)) 1,eu (decide ((q.bad.length:Int)>3)) 4,zO q.bad n,Pm p q.adjacent]
theorem S.lI(l:List Cnt)(n:Int)(f:Bool)(hl:l.length<2^30)(hs: ∀ i,(l.getD i default).states.length<2^30):ak Tryz.prog 124 [.row 3 f (.cnts l),.int n] (.int (zO l n)):=by
 refine ak.of Bd.lI (by simp) rfl rfl ?_
 conv=>whnf
 refine aJ.same [1,8,9] (fun i:Nat=>[(10,.int i)]) (fun i=>i<=l.length/\zO l n=aQ ((l.drop i).map (VB n))) (fun i=>l.length-i) 0 rfl (by decide) rfl (fun _=>rfl) ⟨by omega,by simp[zO]⟩ ⟨⟨_,rfl,rfl⟩,trivial⟩ ?_
 conv=>whnf
 refine⟨rfl,?_⟩
 rintro i ⟨hi,hall⟩
 conv=>whnf
 refine⟨fun h3=>?_,fun h3=>?_⟩
 ·have hi':i<l.length:=by simpa using h3
  rw[aY default hi',List.map_cons] at hall
  simp only[aQ] at hall
  have hc:=hs i
  conv=>whnf
  refine .mk (by simp only[Rw.rng] at *; omega) ?_
  conv=>whnf
  refine ah.pure (S.dM (l.getD i default).states n false (by omega)) rfl ?_
  conv=>whnf
  repeat(refine VC.mk (by first|exact id|(intro h; rw[h]; rfl)) ?_; conv=>whnf)
  refine ah.pure (S.bP (uh (l.getD i default)) 1) rfl ?_
  conv=>whnf
  refine ah.pure (S.bM [dU (l.getD i default).states n,eu (uh (l.getD i default)) 1] true (show 2<2^40 by decide)) rfl ?_
  conv=>whnf
  refine⟨fun h4=>?_,fun h4=>?_⟩
  ·conv=>whnf
   refine au.int ?_
   have h4':VB n (l.getD i default)≠0:=nz h4
   rw[hall,if_neg h4']; rfl
  ·conv=>whnf
   refine .mk (by simp only[okI] at *; omega) ?_
   conv=>whnf
   have h4':VB n (l.getD i default)=0:=xw h4
   rw[if_pos h4'] at hall
   refine⟨i+1,⟨by omega,hall⟩,by omega,⟨⟨_,rfl,rfl⟩,trivial⟩,?_,rfl⟩
   repeat' (first|exact trivial|exact⟨_,rfl,rfl⟩|constructor)
 ·have hi':l.length<=i:=by simpa using h3
  rw[List.drop_eq_nil_of_le hi'] at hall
  conv=>whnf
  exact au.int (by rw[hall]; rfl)
theorem S.jP(p:aU)(l:List Int)(f:Bool)(_hl:l.length<2^30):ak Tryz.prog 125 [.dat (.dF p),.row 0 f (.ints l)] (.int (Pm p l)):=by
 refine ak.of Bd.jP (by simp) rfl rfl ?_
 conv=>whnf
 refine⟨fun h1=>?_,fun h1=>?_⟩
 ·conv=>whnf
  exact au.int (by rw[Pm,h1]; rfl)
 conv=>whnf
 refine⟨fun h2=>?_,fun h2=>?_⟩
 ·conv=>whnf
  exact au.int (by rw[Pm,h1,h2]; rfl)
 conv=>whnf
 refine⟨fun h3=>?_,fun h3=>?_⟩
 ·conv=>whnf
  exact au.int (by rw[Pm,h1,h2,h3]; rfl)
 have h4:l.length=2:=by
  have:(l.length:Int)=2:=by simpa using h3
  omega
 conv=>whnf
 repeat(refine VC.mk (by simp only[Rw.rng] at *; omega) ?_; conv=>whnf)
 refine ah.pure (S.bT (l.getD 0 0) p.states.length) rfl ?_
 conv=>whnf
 refine ah.pure (S.bT (l.getD 1 0) p.states.length) rfl ?_
 conv=>whnf
 refine ah.pure (S.bM [bV (l.getD 0 0) p.states.length,bV (l.getD 1 0) p.states.length] true (show 2<2^40 by decide)) rfl ?_
 conv=>whnf
 exact au.int (by rw[Pm,h1,h2,h3]; rfl)
theorem S.dL(p:aU)(q:Prop')(hp:dh p)(hq:vO q):ak Tryz.prog 99 [.dat (.dF p),.dat (.prop q)] (.int (rH p q)):=by
 have g1:=hp.states; have g5:=hp.initial
 have q1:=hq.start; have q2:=hq.bad; have q3:=hq.adjacent; have q4:=hq.goal
 refine ak.of Bd.dL (by simp) rfl rfl ?_
 conv=>whnf
 refine ah.pure (S.iK p hp) rfl ?_
 conv=>whnf
 refine⟨fun h1=>?_,fun h1=>?_⟩
 ·conv=>whnf
  exact au.int (by rw[rH,h1]; rfl)
 conv=>whnf
 refine ah.pure (S.fG q.name) rfl ?_
 conv=>whnf
 refine⟨fun h2=>?_,fun h2=>?_⟩
 ·conv=>whnf
  exact au.int (by rw[rH,h1,h2]; rfl)
 conv=>whnf
 repeat(refine VC.mk id ?_; conv=>whnf)
 refine⟨fun h3=>?_,fun h3=>?_⟩
 ·conv=>whnf
  exact au.int (by rw[rH,h1,h2,h3]; rfl)
 conv=>whnf
 repeat(refine VC.mk id ?_; conv=>whnf)
 refine⟨fun h4=>?_,fun h4=>?_⟩
 ·conv=>whnf
  refine Fork.mk (fun _=>?_) (fun q=>absurd (q.symm.trans (h4)) Bool.false_ne_true)
  conv=>whnf
  exact au.int (by rw[rH,h1,h2,h3,show xF q=true by rw[xF]; erw [h4]; rfl]; rfl)
 conv=>whnf
 repeat(refine VC.mk (by first|exact id|(intro h; simp_all; done)) ?_; conv=>whnf)
 refine⟨fun h5=>?_,fun h5=>?_⟩
 ·conv=>whnf
  exact au.int (by rw[rH,h1,h2,h3,show xF q=true by rw[xF]; erw [h5]; simp]; rfl)
 have h45:xF q=false:=by rw[xF]; erw [h4,h5]; rfl
 conv=>whnf
 refine ah.pure (S.dM q.start p.states.length false (by omega)) rfl ?_
 conv=>whnf
 refine⟨fun h6=>?_,fun h6=>?_⟩
 ·conv=>whnf
  exact au.int (by rw[rH,h1,h2,h3,h45,h6]; rfl)
 conv=>whnf
 refine aJ.same [2,3,6,7,65,66] (fun i:Nat=>[(67,.int i)]) (fun i=>i<=q.start.length/\(q.start.take i).any (fun x=> !(O9 p.initial x))=false) (fun i=>q.start.length-i) 0 rfl (by decide) rfl (fun _=>rfl) ⟨by omega,by simp⟩ ⟨⟨_,rfl,rfl⟩,trivial⟩ ?_
 conv=>whnf
 refine⟨rfl,?_⟩
 rintro i ⟨hi,hall⟩
 conv=>whnf
 refine⟨fun h7=>?_,fun h7=>?_⟩
 ·have hi':i<q.start.length:=by simpa using h7
  conv=>whnf
  refine .mk (by simp only[Rw.rng] at *; omega) ?_
  conv=>whnf
  refine ah.pure (S.slices_Contains_int p.initial (q.start.getD i 0) false (by omega)) rfl ?_
  conv=>whnf
  refine⟨fun h8=>?_,fun h8=>?_⟩
  ·conv=>whnf
   exact au.int (by rw[rH,h1,h2,h3,h45,h6,jq (d:=0) hi' h8]; rfl)
  ·conv=>whnf
   refine .mk (by simp only[okI] at *; omega) ?_
   conv=>whnf
   refine⟨i+1,⟨by omega,?_⟩,by omega,⟨⟨_,rfl,rfl⟩,trivial⟩,?_,rfl⟩
   ·rw[lJ (d:=0) hi' hall]; exact h8
   ·repeat' (first|exact trivial|exact⟨_,rfl,rfl⟩|constructor)
 have hi':q.start.length<=i:=by simpa using h7
 rw[List.take_of_length_le hi'] at hall
 conv=>whnf
 refine⟨fun h8=>?_,fun h8=>?_⟩
 ·conv=>whnf
  refine ah.pure (S.dM q.goal p.states.length false (by omega)) rfl ?_
  conv=>whnf
  refine ah.pure (S.bP ((q.goal.length:Int)==0) 1) rfl ?_
  conv=>whnf
  refine ah.pure (S.bM [dU q.goal p.states.length,eu ((q.goal.length:Int)==0) 1] true (show 2<2^40 by decide)) rfl ?_
  conv=>whnf
  exact au.int (by rw[rH,h1,h2,h3,h45,h6,hall,h8]; rfl)
 conv=>whnf
 repeat(refine VC.mk id ?_; conv=>whnf)
 refine ah.pure (S.bP (((q.bad.length:Int)==0)&&((q.adjacent.length:Int)==0)) 1) rfl ?_
 conv=>whnf
 refine ah.pure (S.bP (decide ((q.bad.length:Int)>3)) 4) rfl ?_
 conv=>whnf
 refine ah.pure (S.lI q.bad p.states.length false q2 hq.cnt) rfl ?_
 conv=>whnf
 refine ah.pure (S.jP p q.adjacent false q3) rfl ?_
 conv=>whnf
 refine ah.pure (S.bM [eu (((q.bad.length:Int)==0)&&((q.adjacent.length:Int)==0)) 1,eu (decide ((q.bad.length:Int)>3)) 4,zO q.bad p.states.length,Pm p q.adjacent] true (show 4<2^40 by decide)) rfl ?_
 conv=>whnf
 exact au.int (by rw[rH,h1,h2,h3,h45,h6,hall,h8]; rfl)
end Go.Proofs.YtbfhebmdcpmfaaaGreatDoor
namespace Go.Proofs.YtbfhebmdcpmfaaaGreatDoor
open Go.Ab Go.Proofs
set_option maxRecDepth 100000
theorem au.aaA{h:Hz}{j:Nat}{l:List Int}(q:h.get j=some (jZ l)):au (.row 0 false (.ints l)) (.own j) h:=⟨Jo trivial q⟩
theorem au.adk{h:Hz}{k k':Nat}{r:Rw}(e:r.len=0):au (.row k false r) (.row k' true .nil) h:=⟨by
 have:r.aT=[]:=List.eq_nil_of_length_eq_zero (by rw[Rw.eU]; exact e)
 show T.sub (fun _=>True) h.aj (.sl k false r.aT) (.sl k' true [])
 rw[this]; simp[T.sub]⟩
theorem S.Js(l:List Int)(f:Bool)(hl:l.length<2^30):ak Tryz.prog 62 [.row 0 f (.ints l)] (.row 0 false (.ints l)):=by
 refine ak.of Bd.gV (by simp) rfl rfl ?_
 conv=>whnf
 refine SI.mk (fun hz=>?_) ?_
 ·conv=>whnf
  refine Fork.mk (fun _=>?_) (fun q=>absurd (q.symm.trans ((rfl:true=true))) Bool.false_ne_true)
  conv=>whnf
  exact au.adk hz
 ·conv=>whnf
  refine Fork.mk (fun q=>absurd (q.symm.trans ((rfl:false=false))).symm Bool.false_ne_true) (fun _=>?_)
  conv=>whnf
  refine .mk (by simp only[mD,lH,Rw.len]; omega) ?_
  conv=>whnf
  repeat(refine VC.mk (by simp only[mD,lH,Rw.len]; omega) ?_; conv=>whnf)
  exact au.aaA rfl
def yU(p:aU)(q:Prop'):List Int:=bif decide ((q.start.length:Int)>0) then q.start else p.initial
theorem S.lK(p:aU)(q:Prop')(hp:dh p)(hq:vO q)(hv:rH p q=0):ak Tryz.prog 100 [.dat (.dF p),.dat (.prop q)] (.fK [.row 0 false (.ints (yU p q)),.int 0]):=by
 have g5:=hp.initial; have q1:=hq.start
 refine ak.of Bd.lK (by simp) rfl rfl ?_
 conv=>whnf
 refine ah.pure (S.dL p q hp hq) rfl ?_
 conv=>whnf
 refine Fork.mk (fun q=>absurd (q.symm.trans ((by simp[hv]))).symm Bool.false_ne_true) (fun _=>?_)
 conv=>whnf
 refine⟨fun h2=>?_,fun h2=>?_⟩
 ·conv=>whnf
  refine ah.pure (S.Js q.start false q1) rfl ?_
  conv=>whnf
  exact au.eqv (by rw[yU,show decide ((q.start.length:Int)>0)=true from h2]; rfl)
 ·conv=>whnf
  refine ah.pure (S.Js p.initial false g5) rfl ?_
  conv=>whnf
  exact au.eqv (by rw[yU,show decide ((q.start.length:Int)>0)=false from h2]; rfl)
theorem SK{p:aU}{q:Prop'}(hp:dh p)(hq:vO q):(yU p q).length<2^30:=by
 unfold yU
 cases decide ((q.start.length:Int)>0)
 ·exact hp.initial
 ·exact hq.start
end Go.Proofs.YtbfhebmdcpmfaaaGreatDoor
