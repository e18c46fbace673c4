/-
 A part of the proof. No condition.
-/
import Derived.Test.YtbfhebmdcpmfaaaGreatDoorRb
import Derived.Test.YtbfhebmdcpmfaaaGreatDoorLf
namespace Go.Proofs.YtbfhebmdcpmfaaaGreatDoor
open Go.Ab Go.Proofs
set_option maxRecDepth 100000
def Ba(s:Int):List Int->Nat->Int
 |[],_=> -1
 |x::r,i=>bif s==x then(i:Int) else Ba s r (i+1)
theorem TV{s:Int}{l:List Int}:decide (0<=Ba s l 0)=l.any fun x=>s==x:=by
 have: ∀ {l:List Int} {i:Nat},0<=Ba s l i↔(l.any fun x=>s==x)=true:=by
  intro l
  induction l with
  |nil=>intro i; simp[Ba]
  |cons x r ih =>
   intro i
   rw[List.any_cons,Bool.or_eq_true,<- ih (i:=i+1)]
   show(0:Int)<=(bif s==x then(i:Int) else Ba s r (i+1))↔_
   generalize (s==x)=b
   cases b<;>simp
 rw[Bool.eq_iff_iff,decide_eq_true_eq]; exact this
theorem S.slices_Index_int(l:List Int)(s:Int)(f:Bool)(hl:l.length<2^40):au Tryz.prog 127 [.row 0 f (.ints l),.int s] (.int (Ba s l 0)):=by
 refine au.of Bd.lQ (by simp) rfl rfl ?_
 conv=>whnf
 refine aJ.same [0,1,6,7] (fun i:Nat=>[(8,.int i)]) (fun i=>i<=l.length/\Ba s l 0=Ba s (l.drop i) i) (fun i=>l.length-i) 0 rfl (by decide) rfl (fun _=>rfl) ⟨by omega,by simp⟩ ⟨⟨_,rfl,rfl⟩,trivial⟩ ?_
 conv=>whnf
 refine⟨rfl,?_⟩
 rintro i ⟨hi,hall⟩
 conv=>whnf
 refine⟨fun h3=>?_,fun h3=>?_⟩
 ·have hi':i<l.length:=by simpa using h3
  rw[bg 0 hi'] at hall
  simp only[Ba] at hall
  conv=>whnf
  refine .mk (by simp only[Rw.rng] at *; first|omega|(simp_all; done)|(simp_all; omega)) ?_
  conv=>whnf
  refine⟨fun h4=>?_,fun h4=>?_⟩
  ·conv=>whnf
   refine aA.int ?_
   have h4':(s==l.getD i 0)=true:=h4
   rw[hall,h4']; rfl
  ·conv=>whnf
   refine .mk (by simp only[okI] at *; first|omega|(simp_all; done)|(simp_all; omega)) ?_
   conv=>whnf
   refine⟨i+1,⟨by omega,?_⟩,by omega,⟨⟨_,rfl,rfl⟩,trivial⟩,?_,rfl⟩
   ·have h4':(s==l.getD i 0)=false:=h4
    rw[hall,h4']; rfl
   ·repeat' (first|exact trivial|exact⟨_,rfl,rfl⟩|constructor)
 ·conv=>whnf
  refine aA.int ?_
  have hi':l.length<=i:=by simpa using h3
  rw[hall,List.drop_eq_nil_of_le hi']; rfl
def Pv(l:List Int)(s:Int):Bool:=l.any fun x=>s==x
theorem S.slices_Contains_int(l:List Int)(s:Int)(f:Bool)(hl:l.length<2^40):au Tryz.prog 103 [.row 0 f (.ints l),.int s] (.bool (Pv l s)):=by
 refine au.of Bd.jU (by simp) rfl rfl ?_
 conv=>whnf
 refine ah.pure (S.slices_Index_int l s f hl) rfl ?_
 conv=>whnf
 exact aA.bool TV.symm
def rF(n:Nat)(l:List Int):Prop:= ∀ q∈l,0<=q/\q<n
def WR(c l:List Int):Bool:=(List.range c.length).any fun i=>decide (c.getD i 0>0)&& !(Pv l i)
def Aa(ex c:List Int)(i:Nat):Bool:=((ex.length:Int)==0)||(List.range i).any fun j=> !(c.getD j 0==0)&&Pv ex j
def uP(al c:List Int)(i:Nat):Bool:=(List.range i).any fun j=> !(c.getD j 0==0)&&(decide ((al.length:Int)>0)&& !(Pv al j))
def uQ(r:Rule)(c:List Int):Bool:= !(uP r.all c c.length)&&Aa r.ex c c.length
theorem NI{ex c:List Int}{i:Nat}:Aa ex c (i+1)=(Aa ex c i||(!(c.getD i 0==0)&&Pv ex i)):=by
 simp only[Aa,List.range_succ,List.any_append,List.any_cons,List.any_nil,Bool.or_false,Bool.or_assoc]
theorem NJ{al c:List Int}{i:Nat}:uP al c (i+1)=(uP al c i||(!(c.getD i 0==0)&&(decide ((al.length:Int)>0)&& !(Pv al i)))):=by
 simp only[uP,List.range_succ,List.any_append,List.any_cons,List.any_nil,Bool.or_false]
theorem TW{al c:List Int}{i:Nat}(hi:i<c.length)(h0:(c.getD i 0==0)=false)(h:(decide ((al.length:Int)>0)&& !(Pv al i))=true):uP al c c.length=true :=
 CU.2 ⟨i,hi,by rw[h0,h]; rfl⟩
structure wK(n:Nat)(r:Rule):Prop where
 src:0<=r.fr/\r.fr<n
 dst:0<=r.to/\r.to<n
 ab4:0<=r.iY/\r.iY<n
 ab5:0<=r.Bc/\r.Bc<n
 rsp:r.kind=3->r.response.length=n/\rF n r.response
 exs:rF n r.ex
def Ef(c:List Int):Prop:= ∀ x∈c,0<=x/\x<=1048576
def kR(c:List Int)(i d:Int):List Int:=c.set i.toNat (c.getD i.toNat 0+d)
def bG(c:List Int)(i:Int):List Int:=c.set i.toNat (c.getD i.toNat 0-1)
def vw(r:Rule)(c:List Int)(i:Nat):List Int:=(List.range i).foldl (fun a j=>kR a (r.response.getD j 0) (c.getD j 0)) (List.replicate c.length 0)
def dH(r:Rule)(e:Elem):Option Elem :=
 let c1:=bG e.counts r.fr
 let out (c:List Int):Option Elem:=some ⟨bif decide (r.write>=0) then r.write else e.value,kR c r.to 1⟩
 bif (decide (0<=r.read)&&e.value !=r.read||e.counts.getD r.fr.toNat 0==0) then none else
 bif r.kind==1 then(bif !(uQ r c1) then none else out c1) else
 bif r.kind==2 then(bif c1.getD r.iY.toNat 0==0 then none else out (kR (bG c1 r.iY) r.Bc 1)) else
 bif r.kind==3 then out (vw r c1 c1.length) else out c1
theorem Ef.get{c:List Int}(h:Ef c){i:Nat}(hi:i<c.length):0<=c.getD i 0/\c.getD i 0<=1048576:=by
 rw[show c.getD i 0=c[i] by simp[hi]]; exact h _ (List.getElem_mem hi)
theorem KR{h:Hz}{j:Nat}{Z:Nat->Prop}{l:List Int}(hz:Z j)(q:h.get j=some (.row 3 0 (.ints l) [])):T.sub Z h.aj (V.row 0 false (.ints l)).aG (V.own j).aG:=by
 show T.sub Z h.aj (.sl 0 false (l.map T.int)) (.own j)
 simp only[T.sub]
 refine⟨trivial,hz,?_,by decide,3,?_⟩
 ·rw[gU]; intro t ht; obtain⟨x,_,rfl⟩:=List.mem_map.1 ht; rfl
 ·have:=aK q
  rw[this]; simp[OV.aC,Rw.aT,V.aT]
def okB(b:Int)(c:List Int):Prop:= ∀ x∈c,-b<=x/\x<=b
theorem okB.get{b:Int}{c:List Int}(h:okB b c)(hb:0<=b)(i:Nat): -b<=c.getD i 0/\c.getD i 0<=b:=by
 by_cases hi:i<c.length
 ·rw[show c.getD i 0=c[i] by simp[hi]]; exact h _ (List.getElem_mem hi)
 ·rw[show c.getD i 0=0 by simp[List.getD_eq_getElem?_getD,List.getElem?_eq_none (by omega:c.length<=i)]]; omega
theorem okB.add{b k:Int}{c:List Int}(h:okB b c)(hb:0<=b)(i d:Int)(hd: -k<=d/\d<=k):okB (b+k) (kR c i d):=by
 intro x hx
 have hk:0<=k:=by omega
 rcases List.mem_or_eq_of_mem_set hx with hx|rfl
 ·have:=h x hx; omega
 ·have:=h.get hb i.toNat; omega
theorem okB.dec{b:Int}{c:List Int}(h:okB b c)(hb:0<=b)(i:Int):okB (b+1) (bG c i):=by
 have:=h.add hb i (-1) (k:=1) ⟨by omega,by omega⟩
 rw[show bG c i=kR c i (-1) by simp only[bG,kR]; rfl]; exact this
theorem Ef.b{c:List Int}(h:Ef c):okB 1048576 c:=fun x hx=>by have:=h x hx; omega
theorem Bf{n:Nat}(h:0<n):(bif isZero (.int n) then some Rw.nil else TY (n:Int).toNat (T.int 0))=some (.ints (List.replicate n 0)):=by
 cases n with
 |zero=>omega
 |succ k=>rfl
theorem yT{r:Rule}{c:List Int}{i:Nat}:vw r c (i+1)=kR (vw r c i) (r.response.getD i 0) (c.getD i 0):=by
 simp only[vw,List.range_succ,List.foldl_append,List.foldl_cons,List.foldl_nil]
theorem Bg{r:Rule}{c:List Int}{i:Nat}:(vw r c i).length=c.length:=by
 induction i with
 |zero=>simp[vw]
 |succ i ih=>rw[yT]; simp[kR,ih]
theorem Za{r:Rule}{c:List Int}{b:Int}(h:okB b c)(hb:0<=b)(i:Nat):okB (i*b) (vw r c i):=by
 induction i with
 |zero=>intro x hx; simp[vw] at hx; omega
 |succ i ih =>
  rw[yT]
  have h0:0<=(i:Int)*b:=Int.mul_nonneg (by omega) hb
  have:=ih.add h0 (r.response.getD i 0) (c.getD i 0) (k:=b) (h.get hb i)
  rw[show((i+1:Nat):Int)*b=i*b+b by rw[Int.natCast_add,Int.add_mul]; simp]; exact this
abbrev ku(l:List Int):OV:=.row 3 0 (.ints l) []
end Go.Proofs.YtbfhebmdcpmfaaaGreatDoor
namespace Go.Proofs.YtbfhebmdcpmfaaaGreatDoor
open Go.Ab Go.Proofs
set_option maxRecDepth 100000
theorem WS{r:Rule}{e:Elem}(hc:Ef e.counts)(h1:(decide (0<=r.read)&&e.value !=r.read||e.counts.getD r.fr.toNat 0==0)=false)(i:Nat):0<=(bG e.counts r.fr).getD i 0:=by
 have h0: ∀ j,0<=e.counts.getD j 0:=fun j=>by
  by_cases hj:j<e.counts.length
  ·exact(hc.get hj).1
  ·rw[show e.counts.getD j 0=0 by simp[List.getD_eq_getElem?_getD,List.getElem?_eq_none (by omega:e.counts.length<=j)]]; omega
 have h2:e.counts.getD r.fr.toNat 0≠0:=by
  rw[Bool.or_eq_false_iff] at h1
  have:=h1.2
  simpa using this
 have h3:=h0 r.fr.toNat
 have h4:=h0 i
 rw[bG,List.getD_eq_getElem?_getD,List.getElem?_set]
 split
 ·split
  ·simp only[Option.getD_some]; omega
  ·simp
 ·rw[<- List.getD_eq_getElem?_getD]; exact h4
theorem okF{ρ:Nat->Nat}{nx pn c n:Nat}{h:Hz}{s:List Nat}{o o':OV}(q1:Nat.blt c nx=true)(q2:Nat.blt c pn=true->n=c)(q3:E9 n s=true)(q4:(o.good nx&&o.Ii)=true)(q5:h.get n=some o')
  (q6:o'.aC.ty=o.aC.ty/\o'.aC.k=o.aC.k) (q7:o.aC.l=o'.aC.l):Nat.blt c nx=true/\(Nat.blt c pn=true->n=c)/\E9 n s=true/\o.good nx=true /\
   ∃ o',h.get n=some o'/\o'.aC.ty=o.aC.ty/\o'.aC.k=o.aC.k/\aY (T.bV ρ o.aC.l) o'.aC.l:=by
 rw[Bool.and_eq_true] at q4
 exact⟨q1,q2,q3,q4.1,o',q5,q6.1,q6.2,aY.of_eq ((OV.uq q4.2 ρ).trans q7)⟩
theorem bz{c:Bool}{a b:Int}(ha:c=true->a≠0)(h:(bif c then a else b)=0):c=false/\b=0:=by
 cases c with
 |true=>exact absurd h (ha rfl)
 |false=>exact⟨rfl,h⟩
theorem nz{a:Int}(h:(a !=0)=true):a≠0:=by simpa using h
theorem jh: ∀ {l:List Int},aQ l=0-> ∀ x∈l,x=0:=by
 intro l
 induction l with
 |nil=>intro _ x h; cases h
 |cons a r ih =>
  intro h x hx
  simp only[aQ] at h
  split at h
  ·rename_i h0
   rcases List.mem_cons.1 hx with rfl|hx
   ·exact h0
   ·exact ih h x hx
  ·rename_i h0; exact absurd h h0
structure CV(p:aW):Prop where
 pos:0<p.states.length
 states:p.states.length<=6
 values:p.values.length<=3
 ab6:p.rules.length<=8
 init:eF p.initial p.states.length=0
 start:p.initial≠[]
 rule: ∀ i,i<p.rules.length->fQ p i=0
theorem Zb{p:aW}(h:cO p=0):CV p:=by
 unfold cO at h
 obtain⟨_,h⟩:=bz (fun _=>by decide) h
 obtain⟨_,h⟩:=bz (fun _=>by decide) h
 obtain⟨h0,h⟩:=bz (fun _=>by decide) h
 obtain⟨h1,h⟩:=bz (fun _=>by decide) h
 obtain⟨_,h⟩:=bz nz h
 obtain⟨_,h⟩:=bz (fun _=>by decide) h
 obtain⟨_,h⟩:=bz (fun _=>by decide) h
 obtain⟨h2,h⟩:=bz nz h
 obtain⟨h3,h⟩:=bz nz h
 have h2':vC p=0:=by simpa using h2
 have h3':Ac p=0:=by simpa using h3
 have g:=jh h2'
 simp only[sU,Bool.or_eq_false_iff,decide_eq_false_iff_not] at h1
 refine⟨?_,by omega,by omega,by omega,g _ (by simp),?_,fun i hi=>?_⟩
 ·have:(p.states.length:Int)≠0:=by simpa using h0
  omega
 ·intro e
  have:=g (dU ((p.initial.length:Int)==0) 1) (by simp)
  rw[e] at this; exact absurd this (by decide)
 ·exact jh h3' _ (List.mem_map.2 ⟨i,by simpa using hi,rfl⟩)
theorem rU{x:Int}{n:Nat}(h:nI x n=false):0<=x/\x<n:=by
 simp only[nI,Bool.or_eq_false_iff,decide_eq_false_iff_not] at h; omega
theorem Ad{x:Int}{n:Nat}(h:bT x n=0):0<=x/\x<n:=by
 refine rU ?_
 unfold bT dU at h
 cases hb:nI x n with
 |false=>rfl
 |true=>rw[hb] at h; exact absurd h (by decide)
theorem yU{l:List Int}{n:Nat}(h:eF l n=0):rF n l:=by
 unfold eF at h
 obtain⟨h,_⟩:=bz (fun _=>by decide) h
 rw[List.any_eq_false] at h
 exact fun q hq=>rU (by simpa using h q hq)
theorem KT{n:Nat}: ∀ {l:List Int},nS l n=0->rF n l:=by
 intro l
 induction l with
 |nil=>intro _ q h; cases h
 |cons x r ih =>
  intro h q hq
  simp only[nS] at h
  split at h
  ·rename_i h0
   rcases List.mem_cons.1 hq with rfl|hq
   ·exact Ad h0
   ·exact ih h q hq
  ·rename_i h0; exact absurd h h0
theorem QA{k:Int}(h:rO k 1=true):k=1\/k=2\/k=3:=by
 unfold rO at h
 cases h1:(k==1) with
 |true=>exact .inl (beq_iff_eq.1 h1)
 |false =>
  cases h2:(k==2) with
  |true=>exact .inr (.inl (beq_iff_eq.1 h2))
  |false =>
   cases h3:(k==3) with
   |true=>exact .inr (.inr (beq_iff_eq.1 h3))
   |false=>rw[h1,h2,h3] at h; cases hb:(k==4||k==5)<;>rw[hb] at h<;>cases h
structure Yy(n:Nat)(p:aW)(r:Rule):Prop where
 place:wK n r
 kind:r.kind=1\/r.kind=2\/r.kind=3
 acS:rF n r.all
 ex1:r.kind≠1->r.ex=[]/\r.all=[]
 rd:nI r.read p.values.length=false\/r.read= -1
 wr:nI r.write p.values.length=false\/r.write= -1
theorem pV{p:aW}{v:Int}(h:jk p v=0):nI v p.values.length=false\/v= -1:=by
 unfold jk dU at h
 have h': ¬ (v< -1\/v>=(p.values.length:Int)):=by
  intro q
  have:(decide (v< -1)||decide (v>=(p.values.length:Int)))=true:=by simpa using q
  rw[this] at h; exact absurd h (by decide)
 by_cases e:v= -1
 ·exact .inr e
 ·left
  simp only[nI,Bool.or_eq_false_iff,decide_eq_false_iff_not]; omega
theorem aaZ{p:aW}{i:Nat}(hv:CV p)(ht:p.topology=1)(hi:i<p.rules.length):Yy p.states.length p (p.rules.getD i default):=by
 have h:=hv.rule i hi
 have hpos:=hv.pos
 simp only[fQ,oH] at h
 generalize (p.rules.getD i default)=r at h ⊢
 obtain⟨_,h⟩:=bz (fun _=>by decide) h
 obtain⟨hb,h⟩:=bz (fun _=>by decide) h
 obtain⟨he,h⟩:=bz nz h
 rw[Ez,Bool.or_eq_false_iff] at he
 rw[ht,Bool.or_eq_false_iff] at hb
 have hk:=QA (show rO r.kind 1=true by simpa using hb.1)
 have hu:kV r 1=false:=by rw[xW (by omega)]; exact hb.2
 have hun:=Ij hu
 have hpf:r.kind≠2->r.kind≠5->r.iY=0/\r.Bc=0:=by
  intro k1 k2
  simp only[kV,Px,Bool.or_eq_false_iff] at hu
  have h3:=hu.2.2.1
  simp only[beq_eq_false_iff_ne.2 k1,beq_eq_false_iff_ne.2 k2,Bool.not_false,Bool.true_and,Bool.or_eq_false_iff] at h3
  exact⟨NK h3.1,NK h3.2⟩
 have h00:(0:Int)<=0/\(0:Int)<p.states.length:=⟨by omega,by omega⟩
 have pn:rF p.states.length []:=fun q hq=>by cases hq
 rcases hk with e|e|e
 ·rw[e] at h
  have g:=jh h
  have⟨a,b⟩:=hpf (by omega) (by omega)
  exact⟨⟨rU he.1,rU he.2,by rw[a]; exact h00,by rw[b]; exact h00,fun q=>by omega,yU (g (eF r.ex p.states.length) (by simp))⟩,.inl e,yU (g (eF r.all p.states.length) (by simp)),fun q=>absurd e q,pV (g (jk p r.read) (by simp)),pV (g (jk p r.write) (by simp))⟩
 ·rw[e] at h
  have g:=jh h
  obtain⟨_,u1,u2,_⟩:=hun.1 (by omega)
  exact⟨⟨rU he.1,rU he.2,Ad (g (bT r.iY p.states.length) (by simp)),Ad (g (bT r.Bc p.states.length) (by simp)),fun q=>by omega,by rw[u1]; exact pn⟩,.inr (.inl e),by rw[u2]; exact pn,fun _=>⟨u1,u2⟩,pV (g (jk p r.read) (by simp)),pV (g (jk p r.write) (by simp))⟩
 ·rw[e] at h
  have g:=jh h
  have⟨a,b⟩:=hpf (by omega) (by omega)
  obtain⟨_,u1,u2,_⟩:=hun.1 (by omega)
  have hr:=g (Bh r.response p.states.length) (by simp)
  unfold Bh at hr
  obtain⟨r1,r2⟩:=bz (fun _=>by decide) hr
  exact⟨⟨rU he.1,rU he.2,by rw[a]; exact h00,by rw[b]; exact h00,fun _=>⟨by have q9:(r.response.length:Int)=p.states.length:=(by simpa using r1); omega,KT r2⟩,by rw[u1]; exact pn⟩,.inr (.inr e),by rw[u2]; exact pn,fun _=>⟨u1,u2⟩,pV (g (jk p r.read) (by simp)),pV (g (jk p r.write) (by simp))⟩
theorem QB{p:aW}(h:rG p=true):p.topology=1:=by
 simp only[rG,Bool.and_eq_true,beq_iff_eq] at h; exact h.1.1.1
structure acT(p:aW)(e:Elem):Prop where
 valid:CV p
 plain:rG p=true
 len:e.counts.length=p.states.length
 nums:Ef e.counts
 val:0<=e.value/\e.value<max 1 (p.values.length:Int)
theorem Ik{b:Bool}{n:Int}(h:dU b n=0)(hn:n≠0):b=false:=by
 cases b with
 |false=>rfl
 |true=>exact absurd h hn
theorem gJ{α:Type}{c:Bool}{a b:Option α}{x:α}(h:(bif c then a else b)=some x):a=some x\/b=some x:=by
 cases c with
 |true=>exact .inl h
 |false=>exact .inr h
theorem Il{c:List Int}{i d:Int}:(kR c i d).length=c.length:=by simp[kR]
theorem pW{c:List Int}{i:Int}:(bG c i).length=c.length:=by simp[bG]
theorem QC{r:Rule}{e x:Elem}(h:dH r e=some x):x.counts.length=e.counts.length:=by
 simp only[dH] at h
 have out: ∀ {c:List Int} {v:Int},c.length=e.counts.length->some (⟨v,kR c r.to 1⟩:Elem)=some x->x.counts.length=e.counts.length:=by
  intro c v hc h; cases h; rw[Il,hc]
 rcases gJ h with h|h
 ·cases h
 rcases gJ h with h|h
 ·rcases gJ h with h|h
  ·cases h
  ·exact out pW h
 rcases gJ h with h|h
 ·rcases gJ h with h|h
  ·cases h
  ·exact out (by rw[Il,pW,pW]) h
 rcases gJ h with h|h
 ·exact out (by rw[Bg,pW]) h
 ·exact out pW h
structure uO(q:Prop'):Prop where
 start:q.start.length<2^30
 bad:q.bad.length<2^30
 adjacent:q.adjacent.length<2^30
 goal:q.goal.length<2^30
 cnt: ∀ i,(q.bad.getD i default).states.length<2^30
def sV(c:Cnt):Bool:=((c.states.length:Int)==0||decide (c.least<1))||decide (c.least>3)
def Ua(n:Int)(c:Cnt):Int:=aQ [eF c.states n,dU (sV c) 1]
def yV(l:List Cnt)(n:Int):Int:=aQ (l.map (Ua n))
def NM(p:aW)(l:List Int):Int:=bif (l.length:Int)==0 then 0 else bif p.topology==1 then 6 else bif (l.length:Int) !=2 then 1 else aQ [bT (l.getD 0 0) p.states.length,bT (l.getD 1 0) p.states.length]
def wL(q:Prop'):Bool:=((q.kind==1)&&decide ((q.goal.length:Int)>0))||(!(q.kind==1)&&(decide ((q.bad.length:Int)>0)||decide ((q.adjacent.length:Int)>0)))
def qM(p:aW)(q:Prop'):Int :=
 let n:Int:=p.states.length
 bif cO p !=0 then cO p else bif !(validName q.name) then 2 else bif !(q.kind==1)&&q.kind !=2 then 1 else bif wL q then 1 else
 bif eF q.start n !=0 then eF q.start n else bif q.start.any (fun x=> !(Pv p.initial x)) then 5 else
 bif !(q.kind==1) then aQ [eF q.goal n,dU ((q.goal.length:Int)==0) 1] else
 aQ [dU (((q.bad.length:Int)==0)&&((q.adjacent.length:Int)==0)) 1,dU (decide ((q.bad.length:Int)>3)) 4,yV q.bad n,NM p q.adjacent]
theorem S.lq(l:List Cnt)(n:Int)(f:Bool)(hl:l.length<2^30)(hs: ∀ i,(l.getD i default).states.length<2^30):au Tryz.prog 124 [.row 3 f (.cnts l),.int n] (.int (yV l n)):=by
 refine au.of Bd.lq (by simp) rfl rfl ?_
 conv=>whnf
 refine aJ.same [1,8,9] (fun i:Nat=>[(10,.int i)]) (fun i=>i<=l.length/\yV l n=aQ ((l.drop i).map (Ua n))) (fun i=>l.length-i) 0 rfl (by decide) rfl (fun _=>rfl) ⟨by omega,by simp[yV]⟩ ⟨⟨_,rfl,rfl⟩,trivial⟩ ?_
 conv=>whnf
 refine⟨rfl,?_⟩
 rintro i ⟨hi,hall⟩
 conv=>whnf
 refine⟨fun h3=>?_,fun h3=>?_⟩
 ·have hi':i<l.length:=by simpa using h3
  rw[bg default hi',List.map_cons] at hall
  simp only[aQ] at hall
  have hc:=hs i
  conv=>whnf
  refine .mk (by simp only[Rw.rng] at *; omega) ?_
  conv=>whnf
  refine ah.pure (S.dJ (l.getD i default).states n false (by omega)) rfl ?_
  conv=>whnf
  repeat(refine VC.mk (by first|exact id|(intro h; rw[h]; rfl)) ?_; conv=>whnf)
  refine ah.pure (S.bM (sV (l.getD i default)) 1) rfl ?_
  conv=>whnf
  refine ah.pure (S.bI [eF (l.getD i default).states n,dU (sV (l.getD i default)) 1] true (show 2<2^40 by decide)) rfl ?_
  conv=>whnf
  refine⟨fun h4=>?_,fun h4=>?_⟩
  ·conv=>whnf
   refine aA.int ?_
   have h4':Ua n (l.getD i default)≠0:=nz h4
   rw[hall,if_neg h4']; rfl
  ·conv=>whnf
   refine .mk (by simp only[okI] at *; omega) ?_
   conv=>whnf
   have h4':Ua n (l.getD i default)=0:=yX h4
   rw[if_pos h4'] at hall
   refine⟨i+1,⟨by omega,hall⟩,by omega,⟨⟨_,rfl,rfl⟩,trivial⟩,?_,rfl⟩
   repeat' (first|exact trivial|exact⟨_,rfl,rfl⟩|constructor)
 ·have hi':l.length<=i:=by simpa using h3
  rw[List.drop_eq_nil_of_le hi'] at hall
  conv=>whnf
  exact aA.int (by rw[hall]; rfl)
theorem S.jK(p:aW)(l:List Int)(f:Bool)(_hl:l.length<2^30):au Tryz.prog 125 [.dat (.dw p),.row 0 f (.ints l)] (.int (NM p l)):=by
 refine au.of Bd.jK (by simp) rfl rfl ?_
 conv=>whnf
 refine⟨fun h1=>?_,fun h1=>?_⟩
 ·conv=>whnf
  exact aA.int (by rw[NM,h1]; rfl)
 conv=>whnf
 refine⟨fun h2=>?_,fun h2=>?_⟩
 ·conv=>whnf
  exact aA.int (by rw[NM,h1,h2]; rfl)
 conv=>whnf
 refine⟨fun h3=>?_,fun h3=>?_⟩
 ·conv=>whnf
  exact aA.int (by rw[NM,h1,h2,h3]; rfl)
 have h4:l.length=2:=by
  have:(l.length:Int)=2:=by simpa using h3
  omega
 conv=>whnf
 repeat(refine VC.mk (by simp only[Rw.rng] at *; omega) ?_; conv=>whnf)
 refine ah.pure (S.bP (l.getD 0 0) p.states.length) rfl ?_
 conv=>whnf
 refine ah.pure (S.bP (l.getD 1 0) p.states.length) rfl ?_
 conv=>whnf
 refine ah.pure (S.bI [bT (l.getD 0 0) p.states.length,bT (l.getD 1 0) p.states.length] true (show 2<2^40 by decide)) rfl ?_
 conv=>whnf
 exact aA.int (by rw[NM,h1,h2,h3]; rfl)
theorem S.dI(p:aW)(q:Prop')(hp:dM p)(hq:uO q):au Tryz.prog 99 [.dat (.dw p),.dat (.prop q)] (.int (qM p q)):=by
 have g1:=hp.states; have g5:=hp.initial
 have q1:=hq.start; have q2:=hq.bad; have q3:=hq.adjacent; have q4:=hq.goal
 refine au.of Bd.dI (by simp) rfl rfl ?_
 conv=>whnf
 refine ah.pure (S.iE p hp) rfl ?_
 conv=>whnf
 refine⟨fun h1=>?_,fun h1=>?_⟩
 ·conv=>whnf
  exact aA.int (by rw[qM,h1]; rfl)
 conv=>whnf
 refine ah.pure (S.fF q.name) rfl ?_
 conv=>whnf
 refine⟨fun h2=>?_,fun h2=>?_⟩
 ·conv=>whnf
  exact aA.int (by rw[qM,h1,h2]; rfl)
 conv=>whnf
 repeat(refine VC.mk id ?_; conv=>whnf)
 refine⟨fun h3=>?_,fun h3=>?_⟩
 ·conv=>whnf
  exact aA.int (by rw[qM,h1,h2,h3]; rfl)
 conv=>whnf
 repeat(refine VC.mk id ?_; conv=>whnf)
 refine⟨fun h4=>?_,fun h4=>?_⟩
 ·conv=>whnf
  refine Fork.mk (fun _=>?_) (fun q=>absurd (q.symm.trans (h4)) Bool.false_ne_true)
  conv=>whnf
  exact aA.int (by rw[qM,h1,h2,h3,show wL q=true by rw[wL]; erw [h4]; rfl]; rfl)
 conv=>whnf
 repeat(refine VC.mk (by first|exact id|(intro h; simp_all; done)) ?_; conv=>whnf)
 refine⟨fun h5=>?_,fun h5=>?_⟩
 ·conv=>whnf
  exact aA.int (by rw[qM,h1,h2,h3,show wL q=true by rw[wL]; erw [h5]; simp]; rfl)
 have h45:wL q=false:=by rw[wL]; erw [h4,h5]; rfl
 conv=>whnf
 refine ah.pure (S.dJ q.start p.states.length false (by omega)) rfl ?_
 conv=>whnf
 refine⟨fun h6=>?_,fun h6=>?_⟩
 ·conv=>whnf
  exact aA.int (by rw[qM,h1,h2,h3,h45,h6]; rfl)
 conv=>whnf
 refine aJ.same [2,3,6,7,65,66] (fun i:Nat=>[(67,.int i)]) (fun i=>i<=q.start.length/\(q.start.take i).any (fun x=> !(Pv p.initial x))=false) (fun i=>q.start.length-i) 0 rfl (by decide) rfl (fun _=>rfl) ⟨by omega,by simp⟩ ⟨⟨_,rfl,rfl⟩,trivial⟩ ?_
 conv=>whnf
 refine⟨rfl,?_⟩
 rintro i ⟨hi,hall⟩
 conv=>whnf
 refine⟨fun h7=>?_,fun h7=>?_⟩
 ·have hi':i<q.start.length:=by simpa using h7
  conv=>whnf
  refine .mk (by simp only[Rw.rng] at *; omega) ?_
  conv=>whnf
  refine ah.pure (S.slices_Contains_int p.initial (q.start.getD i 0) false (by omega)) rfl ?_
  conv=>whnf
  refine⟨fun h8=>?_,fun h8=>?_⟩
  ·conv=>whnf
   exact aA.int (by rw[qM,h1,h2,h3,h45,h6,nT (d:=0) hi' h8]; rfl)
  ·conv=>whnf
   refine .mk (by simp only[okI] at *; omega) ?_
   conv=>whnf
   refine⟨i+1,⟨by omega,?_⟩,by omega,⟨⟨_,rfl,rfl⟩,trivial⟩,?_,rfl⟩
   ·rw[qN (d:=0) hi' hall]; exact h8
   ·repeat' (first|exact trivial|exact⟨_,rfl,rfl⟩|constructor)
 have hi':q.start.length<=i:=by simpa using h7
 rw[List.take_of_length_le hi'] at hall
 conv=>whnf
 refine⟨fun h8=>?_,fun h8=>?_⟩
 ·conv=>whnf
  refine ah.pure (S.dJ q.goal p.states.length false (by omega)) rfl ?_
  conv=>whnf
  refine ah.pure (S.bM ((q.goal.length:Int)==0) 1) rfl ?_
  conv=>whnf
  refine ah.pure (S.bI [eF q.goal p.states.length,dU ((q.goal.length:Int)==0) 1] true (show 2<2^40 by decide)) rfl ?_
  conv=>whnf
  exact aA.int (by rw[qM,h1,h2,h3,h45,h6,hall,h8]; rfl)
 conv=>whnf
 repeat(refine VC.mk id ?_; conv=>whnf)
 refine ah.pure (S.bM (((q.bad.length:Int)==0)&&((q.adjacent.length:Int)==0)) 1) rfl ?_
 conv=>whnf
 refine ah.pure (S.bM (decide ((q.bad.length:Int)>3)) 4) rfl ?_
 conv=>whnf
 refine ah.pure (S.lq q.bad p.states.length false q2 hq.cnt) rfl ?_
 conv=>whnf
 refine ah.pure (S.jK p q.adjacent false q3) rfl ?_
 conv=>whnf
 refine ah.pure (S.bI [dU (((q.bad.length:Int)==0)&&((q.adjacent.length:Int)==0)) 1,dU (decide ((q.bad.length:Int)>3)) 4,yV q.bad p.states.length,NM p q.adjacent] true (show 4<2^40 by decide)) rfl ?_
 conv=>whnf
 exact aA.int (by rw[qM,h1,h2,h3,h45,h6,hall,h8]; rfl)
end Go.Proofs.YtbfhebmdcpmfaaaGreatDoor
namespace Go.Proofs.YtbfhebmdcpmfaaaGreatDoor
open Go.Ab Go.Proofs
set_option maxRecDepth 100000
theorem aA.Zc{h:Hz}{j:Nat}{l:List Int}(q:h.get j=some (ku l)):aA (.row 0 false (.ints l)) (.own j) h:=⟨KR trivial q⟩
theorem aA.ab7{h:Hz}{k k':Nat}{r:Rw}(e:r.len=0):aA (.row k false r) (.row k' true .nil) h:=⟨by
 have:r.aT=[]:=List.eq_nil_of_length_eq_zero (by rw[Rw.eG]; exact e)
 show T.sub (fun _=>True) h.aj (.sl k false r.aT) (.sl k' true [])
 rw[this]; simp[T.sub]⟩
theorem S.Io(l:List Int)(f:Bool)(hl:l.length<2^30):au Tryz.prog 62 [.row 0 f (.ints l)] (.row 0 false (.ints l)):=by
 refine au.of Bd.gK (by simp) rfl rfl ?_
 conv=>whnf
 refine QD.mk (fun hz=>?_) ?_
 ·conv=>whnf
  refine Fork.mk (fun _=>?_) (fun q=>absurd (q.symm.trans ((rfl:true=true))) Bool.false_ne_true)
  conv=>whnf
  exact aA.ab7 hz
 ·conv=>whnf
  refine Fork.mk (fun q=>absurd (q.symm.trans ((rfl:false=false))).symm Bool.false_ne_true) (fun _=>?_)
  conv=>whnf
  refine .mk (by simp only[nH,ng,Rw.len]; omega) ?_
  conv=>whnf
  repeat(refine VC.mk (by simp only[nH,ng,Rw.len]; omega) ?_; conv=>whnf)
  exact aA.Zc rfl
def xX(p:aW)(q:Prop'):List Int:=bif decide ((q.start.length:Int)>0) then q.start else p.initial
theorem S.lu(p:aW)(q:Prop')(hp:dM p)(hq:uO q)(hv:qM p q=0):au Tryz.prog 100 [.dat (.dw p),.dat (.prop q)] (.fO [.row 0 false (.ints (xX p q)),.int 0]):=by
 have g5:=hp.initial; have q1:=hq.start
 refine au.of Bd.lu (by simp) rfl rfl ?_
 conv=>whnf
 refine ah.pure (S.dI p q hp hq) rfl ?_
 conv=>whnf
 refine Fork.mk (fun q=>absurd (q.symm.trans ((by simp[hv]))).symm Bool.false_ne_true) (fun _=>?_)
 conv=>whnf
 refine⟨fun h2=>?_,fun h2=>?_⟩
 ·conv=>whnf
  refine ah.pure (S.Io q.start false q1) rfl ?_
  conv=>whnf
  exact aA.eqv (by rw[xX,show decide ((q.start.length:Int)>0)=true from h2]; rfl)
 ·conv=>whnf
  refine ah.pure (S.Io p.initial false g5) rfl ?_
  conv=>whnf
  exact aA.eqv (by rw[xX,show decide ((q.start.length:Int)>0)=false from h2]; rfl)
theorem QE{p:aW}{q:Prop'}(hp:dM p)(hq:uO q):(xX p q).length<2^30:=by
 unfold xX
 cases decide ((q.start.length:Int)>0)
 ·exact hp.initial
 ·exact hq.start
end Go.Proofs.YtbfhebmdcpmfaaaGreatDoor
