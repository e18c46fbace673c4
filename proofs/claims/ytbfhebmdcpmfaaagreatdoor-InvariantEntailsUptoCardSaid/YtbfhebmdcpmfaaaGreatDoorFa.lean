/-
 A part of the proof. No condition.
-/
import Derived.Test.YtbfhebmdcpmfaaaGreatDoorRb
import Derived.Test.YtbfhebmdcpmfaaaGreatDoorLf
namespace Go.Proofs.YtbfhebmdcpmfaaaGreatDoor
open Go.Ab Go.Proofs
set_option maxRecDepth 100000
def Bz(s:Int):List Int->Nat->Int
 |[],_=> -1
 |x::r,i=>bif s==x then(i:Int) else Bz s r (i+1)
theorem UA{s:Int}{l:List Int}:decide (0<=Bz s l 0)=l.any fun x=>s==x:=by
 have: ∀ {l:List Int} {i:Nat},0<=Bz s l i↔(l.any fun x=>s==x)=true:=by
  intro l
  induction l with
  |nil=>intro i; simp[Bz]
  |cons x r ih =>
   intro i
   rw[List.any_cons,Bool.or_eq_true,<- ih (i:=i+1)]
   show(0:Int)<=(bif s==x then(i:Int) else Bz s r (i+1))↔_
   generalize (s==x)=b
   cases b<;>simp
 rw[Bool.eq_iff_iff,decide_eq_true_eq]; exact this
theorem S.slices_Index_int(l:List Int)(s:Int)(f:Bool)(hl:l.length<2^40):ak Tryz.prog 127 [.row 0 f (.ints l),.int s] (.int (Bz s l 0)):=by
 refine ak.of Bd.lI (by simp) rfl rfl ?_
 conv=>whnf
 refine aP.same [0,1,6,7] (fun i:Nat=>[(8,.int i)]) (fun i=>i<=l.length/\Bz s l 0=Bz s (l.drop i) i) (fun i=>l.length-i) 0 rfl (by decide) rfl (fun _=>rfl) ⟨by omega,by simp⟩ ⟨⟨_,rfl,rfl⟩,trivial⟩ ?_
 conv=>whnf
 refine⟨rfl,?_⟩
 rintro i ⟨hi,hall⟩
 conv=>whnf
 refine⟨fun h3=>?_,fun h3=>?_⟩
 ·have hi':i<l.length:=by simpa using h3
  rw[bC 0 hi'] at hall
  simp only[Bz] at hall
  conv=>whnf
  refine .mk (by simp only[Rw.rng] at *; first|omega|(simp_all; done)|(simp_all; omega)) ?_
  conv=>whnf
  refine⟨fun h4=>?_,fun h4=>?_⟩
  ·conv=>whnf
   refine au.int ?_
   have h4':(s==l.getD i 0)=true:=h4
   rw[hall,h4']; rfl
  ·conv=>whnf
   refine .mk (by simp only[okI] at *; first|omega|(simp_all; done)|(simp_all; omega)) ?_
   conv=>whnf
   refine⟨i+1,⟨by omega,?_⟩,by omega,⟨⟨_,rfl,rfl⟩,trivial⟩,?_,rfl⟩
   ·have h4':(s==l.getD i 0)=false:=h4
    rw[hall,h4']; rfl
   ·repeat' (first|exact trivial|exact⟨_,rfl,rfl⟩|constructor)
 ·conv=>whnf
  refine au.int ?_
  have hi':l.length<=i:=by simpa using h3
  rw[hall,List.drop_eq_nil_of_le hi']; rfl
def Oh(l:List Int)(s:Int):Bool:=l.any fun x=>s==x
theorem S.slices_Contains_int(l:List Int)(s:Int)(f:Bool)(hl:l.length<2^40):ak Tryz.prog 103 [.row 0 f (.ints l),.int s] (.bool (Oh l s)):=by
 refine ak.of Bd.jQ (by simp) rfl rfl ?_
 conv=>whnf
 refine ah.pure (S.slices_Index_int l s f hl) rfl ?_
 conv=>whnf
 exact au.bool UA.symm
def pW(n:Nat)(l:List Int):Prop:= ∀ q∈l,0<=q/\q<n
def Xn(c l:List Int):Bool:=(List.range c.length).any fun i=>decide (c.getD i 0>0)&& !(Oh l i)
def Af(ex c:List Int)(i:Nat):Bool:=((ex.length:Int)==0)||(List.range i).any fun j=> !(c.getD j 0==0)&&Oh ex j
def uV(al c:List Int)(i:Nat):Bool:=(List.range i).any fun j=> !(c.getD j 0==0)&&(decide ((al.length:Int)>0)&& !(Oh al j))
def uX(r:Rule)(c:List Int):Bool:= !(uV r.all c c.length)&&Af r.ex c c.length
theorem Oi{ex c:List Int}{i:Nat}:Af ex c (i+1)=(Af ex c i||(!(c.getD i 0==0)&&Oh ex i)):=by
 simp only[Af,List.range_succ,List.any_append,List.any_cons,List.any_nil,Bool.or_false,Bool.or_assoc]
theorem Oj{al c:List Int}{i:Nat}:uV al c (i+1)=(uV al c i||(!(c.getD i 0==0)&&(decide ((al.length:Int)>0)&& !(Oh al i)))):=by
 simp only[uV,List.range_succ,List.any_append,List.any_cons,List.any_nil,Bool.or_false]
theorem UC{al c:List Int}{i:Nat}(hi:i<c.length)(h0:(c.getD i 0==0)=false)(h:(decide ((al.length:Int)>0)&& !(Oh al i))=true):uV al c c.length=true :=
 Dp.2 ⟨i,hi,by rw[h0,h]; rfl⟩
structure wP(n:Nat)(r:Rule):Prop where
 src:0<=r.fr/\r.fr<n
 dst:0<=r.to/\r.to<n
 ab9:0<=r.iQ/\r.iQ<n
 acd:0<=r.BA/\r.BA<n
 rsp:r.kind=3->r.response.length=n/\pW n r.response
 exs:pW n r.ex
def Ag(c:List Int):Prop:= ∀ x∈c,0<=x/\x<=1048576
def kN(c:List Int)(i d:Int):List Int:=c.set i.toNat (c.getD i.toNat 0+d)
def bG(c:List Int)(i:Int):List Int:=c.set i.toNat (c.getD i.toNat 0-1)
def vG(r:Rule)(c:List Int)(i:Nat):List Int:=(List.range i).foldl (fun a j=>kN a (r.response.getD j 0) (c.getD j 0)) (List.replicate c.length 0)
def dH(r:Rule)(e:Elem):Option Elem :=
 let c1:=bG e.counts r.fr
 let out (c:List Int):Option Elem:=some ⟨bif decide (r.write>=0) then r.write else e.value,kN c r.to 1⟩
 bif (decide (0<=r.read)&&e.value !=r.read||e.counts.getD r.fr.toNat 0==0) then none else
 bif r.kind==1 then(bif !(uX r c1) then none else out c1) else
 bif r.kind==2 then(bif c1.getD r.iQ.toNat 0==0 then none else out (kN (bG c1 r.iQ) r.BA 1)) else
 bif r.kind==3 then out (vG r c1 c1.length) else out c1
theorem Ag.get{c:List Int}(h:Ag c){i:Nat}(hi:i<c.length):0<=c.getD i 0/\c.getD i 0<=1048576:=by
 rw[show c.getD i 0=c[i] by simp[hi]]; exact h _ (List.getElem_mem hi)
theorem IC{h:Hz}{j:Nat}{Z:Nat->Prop}{l:List Int}(hz:Z j)(q:h.get j=some (.row 3 0 (.ints l) [])):T.sub Z h.aj (V.row 0 false (.ints l)).aG (V.own j).aG:=by
 show T.sub Z h.aj (.sl 0 false (l.map T.int)) (.own j)
 simp only[T.sub]
 refine⟨trivial,hz,?_,by decide,3,?_⟩
 ·rw[gU]; intro t ht; obtain⟨x,_,rfl⟩:=List.mem_map.1 ht; rfl
 ·have:=aH q
  rw[this]; simp[OV.aF,Rw.aT,V.aT]
def okB(b:Int)(c:List Int):Prop:= ∀ x∈c,-b<=x/\x<=b
theorem okB.get{b:Int}{c:List Int}(h:okB b c)(hb:0<=b)(i:Nat): -b<=c.getD i 0/\c.getD i 0<=b:=by
 by_cases hi:i<c.length
 ·rw[show c.getD i 0=c[i] by simp[hi]]; exact h _ (List.getElem_mem hi)
 ·rw[show c.getD i 0=0 by simp[List.getD_eq_getElem?_getD,List.getElem?_eq_none (by omega:c.length<=i)]]; omega
theorem okB.add{b k:Int}{c:List Int}(h:okB b c)(hb:0<=b)(i d:Int)(hd: -k<=d/\d<=k):okB (b+k) (kN c i d):=by
 intro x hx
 have hk:0<=k:=by omega
 rcases List.mem_or_eq_of_mem_set hx with hx|rfl
 ·have:=h x hx; omega
 ·have:=h.get hb i.toNat; omega
theorem okB.dec{b:Int}{c:List Int}(h:okB b c)(hb:0<=b)(i:Int):okB (b+1) (bG c i):=by
 have:=h.add hb i (-1) (k:=1) ⟨by omega,by omega⟩
 rw[show bG c i=kN c i (-1) by simp only[bG,kN]; rfl]; exact this
theorem Ag.b{c:List Int}(h:Ag c):okB 1048576 c:=fun x hx=>by have:=h x hx; omega
theorem yg{n:Nat}(h:0<n):(bif isZero (.int n) then some Rw.nil else Q7 (n:Int).toNat (T.int 0))=some (.ints (List.replicate n 0)):=by
 cases n with
 |zero=>omega
 |succ k=>rfl
theorem yY{r:Rule}{c:List Int}{i:Nat}:vG r c (i+1)=kN (vG r c i) (r.response.getD i 0) (c.getD i 0):=by
 simp only[vG,List.range_succ,List.foldl_append,List.foldl_cons,List.foldl_nil]
theorem BD{r:Rule}{c:List Int}{i:Nat}:(vG r c i).length=c.length:=by
 induction i with
 |zero=>simp[vG]
 |succ i ih=>rw[yY]; simp[kN,ih]
theorem Zp{r:Rule}{c:List Int}{b:Int}(h:okB b c)(hb:0<=b)(i:Nat):okB (i*b) (vG r c i):=by
 induction i with
 |zero=>intro x hx; simp[vG] at hx; omega
 |succ i ih =>
  rw[yY]
  have h0:0<=(i:Int)*b:=Int.mul_nonneg (by omega) hb
  have:=ih.add h0 (r.response.getD i 0) (c.getD i 0) (k:=b) (h.get hb i)
  rw[show((i+1:Nat):Int)*b=i*b+b by rw[Int.natCast_add,Int.add_mul]; simp]; exact this
abbrev jR(l:List Int):OV:=.row 3 0 (.ints l) []
end Go.Proofs.YtbfhebmdcpmfaaaGreatDoor
namespace Go.Proofs.YtbfhebmdcpmfaaaGreatDoor
open Go.Ab Go.Proofs
set_option maxRecDepth 100000
theorem Xo{r:Rule}{e:Elem}(hc:Ag e.counts)(h1:(decide (0<=r.read)&&e.value !=r.read||e.counts.getD r.fr.toNat 0==0)=false)(i:Nat):0<=(bG e.counts r.fr).getD i 0:=by
 have h0: ∀ j,0<=e.counts.getD j 0:=fun j=>by
  by_cases hj:j<e.counts.length
  ·exact(hc.get hj).1
  ·rw[show e.counts.getD j 0=0 by simp[List.getD_eq_getElem?_getD,List.getElem?_eq_none (by omega:e.counts.length<=j)]]; omega
 have h2:e.counts.getD r.fr.toNat 0≠0:=by
  rw[Bool.or_eq_false_iff] at h1
  have:=h1.2
  simpa using this
 have h3:=h0 r.fr.toNat
 have h4:=h0 i
 rw[bG,List.getD_eq_getElem?_getD,List.getElem?_set]
 split
 ·split
  ·simp only[Option.getD_some]; omega
  ·simp
 ·rw[<- List.getD_eq_getElem?_getD]; exact h4
theorem okF{ρ:Nat->Nat}{nx pn c n:Nat}{h:Hz}{s:List Nat}{o o':OV}(q1:Nat.blt c nx=true)(q2:Nat.blt c pn=true->n=c)(q3:FK n s=true)(q4:(o.good nx&&o.JG)=true)(q5:h.get n=some o')
  (q6:o'.aF.ty=o.aF.ty/\o'.aF.k=o.aF.k) (q7:o.aF.l=o'.aF.l):Nat.blt c nx=true/\(Nat.blt c pn=true->n=c)/\FK n s=true/\o.good nx=true /\
   ∃ o',h.get n=some o'/\o'.aF.ty=o.aF.ty/\o'.aF.k=o.aF.k/\bg (T.bZ ρ o.aF.l) o'.aF.l:=by
 rw[Bool.and_eq_true] at q4
 exact⟨q1,q2,q3,q4.1,o',q5,q6.1,q6.2,bg.of_eq ((OV.BF q4.2 ρ).trans q7)⟩
theorem bz{c:Bool}{a b:Int}(ha:c=true->a≠0)(h:(bif c then a else b)=0):c=false/\b=0:=by
 cases c with
 |true=>exact absurd h (ha rfl)
 |false=>exact⟨rfl,h⟩
theorem nz{a:Int}(h:(a !=0)=true):a≠0:=by simpa using h
theorem jc: ∀ {l:List Int},aQ l=0-> ∀ x∈l,x=0:=by
 intro l
 induction l with
 |nil=>intro _ x h; cases h
 |cons a r ih =>
  intro h x hx
  simp only[aQ] at h
  split at h
  ·rename_i h0
   rcases List.mem_cons.1 hx with rfl|hx
   ·exact h0
   ·exact ih h x hx
  ·rename_i h0; exact absurd h h0
structure Dq(p:aW):Prop where
 pos:0<p.states.length
 states:p.states.length<=6
 values:p.values.length<=3
 ace:p.rules.length<=8
 init:dR p.initial p.states.length=0
 start:p.initial≠[]
 rule: ∀ i,i<p.rules.length->fO p i=0
theorem Zq{p:aW}(h:cO p=0):Dq p:=by
 unfold cO at h
 obtain⟨_,h⟩:=bz (fun _=>by decide) h
 obtain⟨_,h⟩:=bz (fun _=>by decide) h
 obtain⟨h0,h⟩:=bz (fun _=>by decide) h
 obtain⟨h1,h⟩:=bz (fun _=>by decide) h
 obtain⟨_,h⟩:=bz nz h
 obtain⟨_,h⟩:=bz (fun _=>by decide) h
 obtain⟨_,h⟩:=bz (fun _=>by decide) h
 obtain⟨h2,h⟩:=bz nz h
 obtain⟨h3,h⟩:=bz nz h
 have h2':vH p=0:=by simpa using h2
 have h3':Ah p=0:=by simpa using h3
 have g:=jc h2'
 simp only[sV,Bool.or_eq_false_iff,decide_eq_false_iff_not] at h1
 refine⟨?_,by omega,by omega,by omega,g _ (by simp),?_,fun i hi=>?_⟩
 ·have:(p.states.length:Int)≠0:=by simpa using h0
  omega
 ·intro e
  have:=g (dX ((p.initial.length:Int)==0) 1) (by simp)
  rw[e] at this; exact absurd this (by decide)
 ·exact jc h3' _ (List.mem_map.2 ⟨i,by simpa using hi,rfl⟩)
theorem rV{x:Int}{n:Nat}(h:nR x n=false):0<=x/\x<n:=by
 simp only[nR,Bool.or_eq_false_iff,decide_eq_false_iff_not] at h; omega
theorem Ai{x:Int}{n:Nat}(h:bU x n=0):0<=x/\x<n:=by
 refine rV ?_
 unfold bU dX at h
 cases hb:nR x n with
 |false=>rfl
 |true=>rw[hb] at h; exact absurd h (by decide)
theorem yZ{l:List Int}{n:Nat}(h:dR l n=0):pW n l:=by
 unfold dR at h
 obtain⟨h,_⟩:=bz (fun _=>by decide) h
 rw[List.any_eq_false] at h
 exact fun q hq=>rV (by simpa using h q hq)
theorem Lp{n:Nat}: ∀ {l:List Int},nS l n=0->pW n l:=by
 intro l
 induction l with
 |nil=>intro _ q h; cases h
 |cons x r ih =>
  intro h q hq
  simp only[nS] at h
  split at h
  ·rename_i h0
   rcases List.mem_cons.1 hq with rfl|hq
   ·exact Ai h0
   ·exact ih h q hq
  ·rename_i h0; exact absurd h h0
theorem Q8{k:Int}(h:rO k 1=true):k=1\/k=2\/k=3:=by
 unfold rO at h
 cases h1:(k==1) with
 |true=>exact .inl (beq_iff_eq.1 h1)
 |false =>
  cases h2:(k==2) with
  |true=>exact .inr (.inl (beq_iff_eq.1 h2))
  |false =>
   cases h3:(k==3) with
   |true=>exact .inr (.inr (beq_iff_eq.1 h3))
   |false=>rw[h1,h2,h3] at h; cases hb:(k==4||k==5)<;>rw[hb] at h<;>cases h
structure YP(n:Nat)(p:aW)(r:Rule):Prop where
 place:wP n r
 kind:r.kind=1\/r.kind=2\/r.kind=3
 acU:pW n r.all
 ex1:r.kind≠1->r.ex=[]/\r.all=[]
 rd:nR r.read p.values.length=false\/r.read= -1
 wr:nR r.write p.values.length=false\/r.write= -1
theorem pX{p:aW}{v:Int}(h:jd p v=0):nR v p.values.length=false\/v= -1:=by
 unfold jd dX at h
 have h': ¬ (v< -1\/v>=(p.values.length:Int)):=by
  intro q
  have:(decide (v< -1)||decide (v>=(p.values.length:Int)))=true:=by simpa using q
  rw[this] at h; exact absurd h (by decide)
 by_cases e:v= -1
 ·exact .inr e
 ·left
  simp only[nR,Bool.or_eq_false_iff,decide_eq_false_iff_not]; omega
theorem aa8{p:aW}{i:Nat}(hv:Dq p)(ht:p.topology=1)(hi:i<p.rules.length):YP p.states.length p (p.rules.getD i default):=by
 have h:=hv.rule i hi
 have hpos:=hv.pos
 simp only[fO,oK] at h
 generalize (p.rules.getD i default)=r at h ⊢
 obtain⟨_,h⟩:=bz (fun _=>by decide) h
 obtain⟨hb,h⟩:=bz (fun _=>by decide) h
 obtain⟨he,h⟩:=bz nz h
 rw[ES,Bool.or_eq_false_iff] at he
 rw[ht,Bool.or_eq_false_iff] at hb
 have hk:=Q8 (show rO r.kind 1=true by simpa using hb.1)
 have hu:kR r 1=false:=by rw[yh (by omega)]; exact hb.2
 have hun:=IE hu
 have hpf:r.kind≠2->r.kind≠5->r.iQ=0/\r.BA=0:=by
  intro k1 k2
  simp only[kR,Qc,Bool.or_eq_false_iff] at hu
  have h3:=hu.2.2.1
  simp only[beq_eq_false_iff_ne.2 k1,beq_eq_false_iff_ne.2 k2,Bool.not_false,Bool.true_and,Bool.or_eq_false_iff] at h3
  exact⟨Ol h3.1,Ol h3.2⟩
 have h00:(0:Int)<=0/\(0:Int)<p.states.length:=⟨by omega,by omega⟩
 have pn:pW p.states.length []:=fun q hq=>by cases hq
 rcases hk with e|e|e
 ·rw[e] at h
  have g:=jc h
  have⟨a,b⟩:=hpf (by omega) (by omega)
  exact⟨⟨rV he.1,rV he.2,by rw[a]; exact h00,by rw[b]; exact h00,fun q=>by omega,yZ (g (dR r.ex p.states.length) (by simp))⟩,.inl e,yZ (g (dR r.all p.states.length) (by simp)),fun q=>absurd e q,pX (g (jd p r.read) (by simp)),pX (g (jd p r.write) (by simp))⟩
 ·rw[e] at h
  have g:=jc h
  obtain⟨_,u1,u2,_⟩:=hun.1 (by omega)
  exact⟨⟨rV he.1,rV he.2,Ai (g (bU r.iQ p.states.length) (by simp)),Ai (g (bU r.BA p.states.length) (by simp)),fun q=>by omega,by rw[u1]; exact pn⟩,.inr (.inl e),by rw[u2]; exact pn,fun _=>⟨u1,u2⟩,pX (g (jd p r.read) (by simp)),pX (g (jd p r.write) (by simp))⟩
 ·rw[e] at h
  have g:=jc h
  have⟨a,b⟩:=hpf (by omega) (by omega)
  obtain⟨_,u1,u2,_⟩:=hun.1 (by omega)
  have hr:=g (BG r.response p.states.length) (by simp)
  unfold BG at hr
  obtain⟨r1,r2⟩:=bz (fun _=>by decide) hr
  exact⟨⟨rV he.1,rV he.2,by rw[a]; exact h00,by rw[b]; exact h00,fun _=>⟨by have q9:(r.response.length:Int)=p.states.length:=(by simpa using r1); omega,Lp r2⟩,by rw[u1]; exact pn⟩,.inr (.inr e),by rw[u2]; exact pn,fun _=>⟨u1,u2⟩,pX (g (jd p r.read) (by simp)),pX (g (jd p r.write) (by simp))⟩
theorem Q9{p:aW}(h:rF p=true):p.topology=1:=by
 simp only[rF,Bool.and_eq_true,beq_iff_eq] at h; exact h.1.1.1
structure acV(p:aW)(e:Elem):Prop where
 valid:Dq p
 plain:rF p=true
 len:e.counts.length=p.states.length
 nums:Ag e.counts
 val:0<=e.value/\e.value<max 1 (p.values.length:Int)
theorem IG{b:Bool}{n:Int}(h:dX b n=0)(hn:n≠0):b=false:=by
 cases b with
 |false=>rfl
 |true=>exact absurd h hn
theorem Xp{x:Int}:H7 x=true↔0<=x/\x<=1048576:=by simp[H7]
theorem gI{α:Type}{c:Bool}{a b:Option α}{x:α}(h:(bif c then a else b)=some x):a=some x\/b=some x:=by
 cases c with
 |true=>exact .inl h
 |false=>exact .inr h
theorem II{c:List Int}{i d:Int}:(kN c i d).length=c.length:=by simp[kN]
theorem pY{c:List Int}{i:Int}:(bG c i).length=c.length:=by simp[bG]
theorem Rf{r:Rule}{e x:Elem}(h:dH r e=some x):x.counts.length=e.counts.length:=by
 simp only[dH] at h
 have out: ∀ {c:List Int} {v:Int},c.length=e.counts.length->some (⟨v,kN c r.to 1⟩:Elem)=some x->x.counts.length=e.counts.length:=by
  intro c v hc h; cases h; rw[II,hc]
 rcases gI h with h|h
 ·cases h
 rcases gI h with h|h
 ·rcases gI h with h|h
  ·cases h
  ·exact out pY h
 rcases gI h with h|h
 ·rcases gI h with h|h
  ·cases h
  ·exact out (by rw[II,pY,pY]) h
 rcases gI h with h|h
 ·exact out (by rw[BD,pY]) h
 ·exact out pY h
structure uU(q:Prop'):Prop where
 start:q.start.length<2^30
 bad:q.bad.length<2^30
 adjacent:q.adjacent.length<2^30
 goal:q.goal.length<2^30
 cnt: ∀ i,(q.bad.getD i default).states.length<2^30
def sW(c:Cnt):Bool:=((c.states.length:Int)==0||decide (c.least<1))||decide (c.least>3)
def UD(n:Int)(c:Cnt):Int:=aQ [dR c.states n,dX (sW c) 1]
def y5(l:List Cnt)(n:Int):Int:=aQ (l.map (UD n))
def Om(p:aW)(l:List Int):Int:=bif (l.length:Int)==0 then 0 else bif p.topology==1 then 6 else bif (l.length:Int) !=2 then 1 else aQ [bU (l.getD 0 0) p.states.length,bU (l.getD 1 0) p.states.length]
def wQ(q:Prop'):Bool:=((q.kind==1)&&decide ((q.goal.length:Int)>0))||(!(q.kind==1)&&(decide ((q.bad.length:Int)>0)||decide ((q.adjacent.length:Int)>0)))
def qQ(p:aW)(q:Prop'):Int :=
 let n:Int:=p.states.length
 bif cO p !=0 then cO p else bif !(validName q.name) then 2 else bif !(q.kind==1)&&q.kind !=2 then 1 else bif wQ q then 1 else
 bif dR q.start n !=0 then dR q.start n else bif q.start.any (fun x=> !(Oh p.initial x)) then 5 else
 bif !(q.kind==1) then aQ [dR q.goal n,dX ((q.goal.length:Int)==0) 1] else
 aQ [dX (((q.bad.length:Int)==0)&&((q.adjacent.length:Int)==0)) 1,dX (decide ((q.bad.length:Int)>3)) 4,y5 q.bad n,Om p q.adjacent]
theorem S.kX(l:List Cnt)(n:Int)(f:Bool)(hl:l.length<2^30)(hs: ∀ i,(l.getD i default).states.length<2^30):ak Tryz.prog 124 [.row 3 f (.cnts l),.int n] (.int (y5 l n)):=by
 refine ak.of Bd.kX (by simp) rfl rfl ?_
 conv=>whnf
 refine aP.same [1,8,9] (fun i:Nat=>[(10,.int i)]) (fun i=>i<=l.length/\y5 l n=aQ ((l.drop i).map (UD n))) (fun i=>l.length-i) 0 rfl (by decide) rfl (fun _=>rfl) ⟨by omega,by simp[y5]⟩ ⟨⟨_,rfl,rfl⟩,trivial⟩ ?_
 conv=>whnf
 refine⟨rfl,?_⟩
 rintro i ⟨hi,hall⟩
 conv=>whnf
 refine⟨fun h3=>?_,fun h3=>?_⟩
 ·have hi':i<l.length:=by simpa using h3
  rw[bC default hi',List.map_cons] at hall
  simp only[aQ] at hall
  have hc:=hs i
  conv=>whnf
  refine .mk (by simp only[Rw.rng] at *; omega) ?_
  conv=>whnf
  refine ah.pure (S.dK (l.getD i default).states n false (by omega)) rfl ?_
  conv=>whnf
  repeat(refine VC.mk (by first|exact id|(intro h; rw[h]; rfl)) ?_; conv=>whnf)
  refine ah.pure (S.bM (sW (l.getD i default)) 1) rfl ?_
  conv=>whnf
  refine ah.pure (S.bK [dR (l.getD i default).states n,dX (sW (l.getD i default)) 1] true (show 2<2^40 by decide)) rfl ?_
  conv=>whnf
  refine⟨fun h4=>?_,fun h4=>?_⟩
  ·conv=>whnf
   refine au.int ?_
   have h4':UD n (l.getD i default)≠0:=nz h4
   rw[hall,if_neg h4']; rfl
  ·conv=>whnf
   refine .mk (by simp only[okI] at *; omega) ?_
   conv=>whnf
   have h4':UD n (l.getD i default)=0:=xI h4
   rw[if_pos h4'] at hall
   refine⟨i+1,⟨by omega,hall⟩,by omega,⟨⟨_,rfl,rfl⟩,trivial⟩,?_,rfl⟩
   repeat' (first|exact trivial|exact⟨_,rfl,rfl⟩|constructor)
 ·have hi':l.length<=i:=by simpa using h3
  rw[List.drop_eq_nil_of_le hi'] at hall
  conv=>whnf
  exact au.int (by rw[hall]; rfl)
theorem S.jI(p:aW)(l:List Int)(f:Bool)(_hl:l.length<2^30):ak Tryz.prog 125 [.dat (.dJ p),.row 0 f (.ints l)] (.int (Om p l)):=by
 refine ak.of Bd.jI (by simp) rfl rfl ?_
 conv=>whnf
 refine⟨fun h1=>?_,fun h1=>?_⟩
 ·conv=>whnf
  exact au.int (by rw[Om,h1]; rfl)
 conv=>whnf
 refine⟨fun h2=>?_,fun h2=>?_⟩
 ·conv=>whnf
  exact au.int (by rw[Om,h1,h2]; rfl)
 conv=>whnf
 refine⟨fun h3=>?_,fun h3=>?_⟩
 ·conv=>whnf
  exact au.int (by rw[Om,h1,h2,h3]; rfl)
 have h4:l.length=2:=by
  have:(l.length:Int)=2:=by simpa using h3
  omega
 conv=>whnf
 repeat(refine VC.mk (by simp only[Rw.rng] at *; omega) ?_; conv=>whnf)
 refine ah.pure (S.bQ (l.getD 0 0) p.states.length) rfl ?_
 conv=>whnf
 refine ah.pure (S.bQ (l.getD 1 0) p.states.length) rfl ?_
 conv=>whnf
 refine ah.pure (S.bK [bU (l.getD 0 0) p.states.length,bU (l.getD 1 0) p.states.length] true (show 2<2^40 by decide)) rfl ?_
 conv=>whnf
 exact au.int (by rw[Om,h1,h2,h3]; rfl)
theorem S.dI(p:aW)(q:Prop')(hp:dD p)(hq:uU q):ak Tryz.prog 99 [.dat (.dJ p),.dat (.prop q)] (.int (qQ p q)):=by
 have g1:=hp.states; have g5:=hp.initial
 have q1:=hq.start; have q2:=hq.bad; have q3:=hq.adjacent; have q4:=hq.goal
 refine ak.of Bd.dI (by simp) rfl rfl ?_
 conv=>whnf
 refine ah.pure (S.iD p hp) rfl ?_
 conv=>whnf
 refine⟨fun h1=>?_,fun h1=>?_⟩
 ·conv=>whnf
  exact au.int (by rw[qQ,h1]; rfl)
 conv=>whnf
 refine ah.pure (S.fD q.name) rfl ?_
 conv=>whnf
 refine⟨fun h2=>?_,fun h2=>?_⟩
 ·conv=>whnf
  exact au.int (by rw[qQ,h1,h2]; rfl)
 conv=>whnf
 repeat(refine VC.mk id ?_; conv=>whnf)
 refine⟨fun h3=>?_,fun h3=>?_⟩
 ·conv=>whnf
  exact au.int (by rw[qQ,h1,h2,h3]; rfl)
 conv=>whnf
 repeat(refine VC.mk id ?_; conv=>whnf)
 refine⟨fun h4=>?_,fun h4=>?_⟩
 ·conv=>whnf
  refine Fork.mk (fun _=>?_) (fun q=>absurd (q.symm.trans (h4)) Bool.false_ne_true)
  conv=>whnf
  exact au.int (by rw[qQ,h1,h2,h3,show wQ q=true by rw[wQ]; erw [h4]; rfl]; rfl)
 conv=>whnf
 repeat(refine VC.mk (by first|exact id|(intro h; simp_all; done)) ?_; conv=>whnf)
 refine⟨fun h5=>?_,fun h5=>?_⟩
 ·conv=>whnf
  exact au.int (by rw[qQ,h1,h2,h3,show wQ q=true by rw[wQ]; erw [h5]; simp]; rfl)
 have h45:wQ q=false:=by rw[wQ]; erw [h4,h5]; rfl
 conv=>whnf
 refine ah.pure (S.dK q.start p.states.length false (by omega)) rfl ?_
 conv=>whnf
 refine⟨fun h6=>?_,fun h6=>?_⟩
 ·conv=>whnf
  exact au.int (by rw[qQ,h1,h2,h3,h45,h6]; rfl)
 conv=>whnf
 refine aP.same [2,3,6,7,65,66] (fun i:Nat=>[(67,.int i)]) (fun i=>i<=q.start.length/\(q.start.take i).any (fun x=> !(Oh p.initial x))=false) (fun i=>q.start.length-i) 0 rfl (by decide) rfl (fun _=>rfl) ⟨by omega,by simp⟩ ⟨⟨_,rfl,rfl⟩,trivial⟩ ?_
 conv=>whnf
 refine⟨rfl,?_⟩
 rintro i ⟨hi,hall⟩
 conv=>whnf
 refine⟨fun h7=>?_,fun h7=>?_⟩
 ·have hi':i<q.start.length:=by simpa using h7
  conv=>whnf
  refine .mk (by simp only[Rw.rng] at *; omega) ?_
  conv=>whnf
  refine ah.pure (S.slices_Contains_int p.initial (q.start.getD i 0) false (by omega)) rfl ?_
  conv=>whnf
  refine⟨fun h8=>?_,fun h8=>?_⟩
  ·conv=>whnf
   exact au.int (by rw[qQ,h1,h2,h3,h45,h6,je (d:=0) hi' h8]; rfl)
  ·conv=>whnf
   refine .mk (by simp only[okI] at *; omega) ?_
   conv=>whnf
   refine⟨i+1,⟨by omega,?_⟩,by omega,⟨⟨_,rfl,rfl⟩,trivial⟩,?_,rfl⟩
   ·rw[kY (d:=0) hi' hall]; exact h8
   ·repeat' (first|exact trivial|exact⟨_,rfl,rfl⟩|constructor)
 have hi':q.start.length<=i:=by simpa using h7
 rw[List.take_of_length_le hi'] at hall
 conv=>whnf
 refine⟨fun h8=>?_,fun h8=>?_⟩
 ·conv=>whnf
  refine ah.pure (S.dK q.goal p.states.length false (by omega)) rfl ?_
  conv=>whnf
  refine ah.pure (S.bM ((q.goal.length:Int)==0) 1) rfl ?_
  conv=>whnf
  refine ah.pure (S.bK [dR q.goal p.states.length,dX ((q.goal.length:Int)==0) 1] true (show 2<2^40 by decide)) rfl ?_
  conv=>whnf
  exact au.int (by rw[qQ,h1,h2,h3,h45,h6,hall,h8]; rfl)
 conv=>whnf
 repeat(refine VC.mk id ?_; conv=>whnf)
 refine ah.pure (S.bM (((q.bad.length:Int)==0)&&((q.adjacent.length:Int)==0)) 1) rfl ?_
 conv=>whnf
 refine ah.pure (S.bM (decide ((q.bad.length:Int)>3)) 4) rfl ?_
 conv=>whnf
 refine ah.pure (S.kX q.bad p.states.length false q2 hq.cnt) rfl ?_
 conv=>whnf
 refine ah.pure (S.jI p q.adjacent false q3) rfl ?_
 conv=>whnf
 refine ah.pure (S.bK [dX (((q.bad.length:Int)==0)&&((q.adjacent.length:Int)==0)) 1,dX (decide ((q.bad.length:Int)>3)) 4,y5 q.bad p.states.length,Om p q.adjacent] true (show 4<2^40 by decide)) rfl ?_
 conv=>whnf
 exact au.int (by rw[qQ,h1,h2,h3,h45,h6,hall,h8]; rfl)
end Go.Proofs.YtbfhebmdcpmfaaaGreatDoor
namespace Go.Proofs.YtbfhebmdcpmfaaaGreatDoor
open Go.Ab Go.Proofs
set_option maxRecDepth 100000
theorem au.acf{h:Hz}{j:Nat}{l:List Int}(q:h.get j=some (jR l)):au (.row 0 false (.ints l)) (.own j) h:=⟨IC trivial q⟩
theorem au.acg{h:Hz}{k k':Nat}{r:Rw}(e:r.len=0):au (.row k false r) (.row k' true .nil) h:=⟨by
 have:r.aT=[]:=List.eq_nil_of_length_eq_zero (by rw[Rw.eG]; exact e)
 show T.sub (fun _=>True) h.aj (.sl k false r.aT) (.sl k' true [])
 rw[this]; simp[T.sub]⟩
theorem S.IJ(l:List Int)(f:Bool)(hl:l.length<2^30):ak Tryz.prog 62 [.row 0 f (.ints l)] (.row 0 false (.ints l)):=by
 refine ak.of Bd.jv (by simp) rfl rfl ?_
 conv=>whnf
 refine UE.mk (fun hz=>?_) ?_
 ·conv=>whnf
  refine Fork.mk (fun _=>?_) (fun q=>absurd (q.symm.trans ((rfl:true=true))) Bool.false_ne_true)
  conv=>whnf
  exact au.acg hz
 ·conv=>whnf
  refine Fork.mk (fun q=>absurd (q.symm.trans ((rfl:false=false))).symm Bool.false_ne_true) (fun _=>?_)
  conv=>whnf
  refine .mk (by simp only[mW,lS,Rw.len]; omega) ?_
  conv=>whnf
  repeat(refine VC.mk (by simp only[mW,lS,Rw.len]; omega) ?_; conv=>whnf)
  exact au.acf rfl
def yj(p:aW)(q:Prop'):List Int:=bif decide ((q.start.length:Int)>0) then q.start else p.initial
theorem S.kZ(p:aW)(q:Prop')(hp:dD p)(hq:uU q)(hv:qQ p q=0):ak Tryz.prog 100 [.dat (.dJ p),.dat (.prop q)] (.gQ [.row 0 false (.ints (yj p q)),.int 0]):=by
 have g5:=hp.initial; have q1:=hq.start
 refine ak.of Bd.kZ (by simp) rfl rfl ?_
 conv=>whnf
 refine ah.pure (S.dI p q hp hq) rfl ?_
 conv=>whnf
 refine Fork.mk (fun q=>absurd (q.symm.trans ((by simp[hv]))).symm Bool.false_ne_true) (fun _=>?_)
 conv=>whnf
 refine⟨fun h2=>?_,fun h2=>?_⟩
 ·conv=>whnf
  refine ah.pure (S.IJ q.start false q1) rfl ?_
  conv=>whnf
  exact au.eqv (by rw[yj,show decide ((q.start.length:Int)>0)=true from h2]; rfl)
 ·conv=>whnf
  refine ah.pure (S.IJ p.initial false g5) rfl ?_
  conv=>whnf
  exact au.eqv (by rw[yj,show decide ((q.start.length:Int)>0)=false from h2]; rfl)
theorem Rh{p:aW}{q:Prop'}(hp:dD p)(hq:uU q):(yj p q).length<2^30:=by
 unfold yj
 cases decide ((q.start.length:Int)>0)
 ·exact hp.initial
 ·exact hq.start
end Go.Proofs.YtbfhebmdcpmfaaaGreatDoor
