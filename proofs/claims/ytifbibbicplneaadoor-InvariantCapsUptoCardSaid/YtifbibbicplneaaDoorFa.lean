/-
 A part of the proof. No condition.
-/
import Derived.Test.YtifbibbicplneaaDoorRb
import Derived.Test.YtifbibbicplneaaDoorLf
namespace Go.Proofs.YtifbibbicplneaaDoor
open Go.Ab Go.Proofs
set_option maxRecDepth 100000
def zF(s:Int):List Int->Nat->Int
 |[],_=> -1
 |x::r,i=>bif s==x then(i:Int) else zF s r (i+1)
theorem S9{s:Int}{l:List Int}:decide (0<=zF s l 0)=l.any fun x=>s==x:=by
 have: ∀ {l:List Int} {i:Nat},0<=zF s l i↔(l.any fun x=>s==x)=true:=by
  intro l
  induction l with
  |nil=>intro i; simp[zF]
  |cons x r ih =>
   intro i
   rw[List.any_cons,Bool.or_eq_true,<- ih (i:=i+1)]
   show(0:Int)<=(bif s==x then(i:Int) else zF s r (i+1))↔_
   generalize (s==x)=b
   cases b<;>simp
 rw[Bool.eq_iff_iff,decide_eq_true_eq]; exact this
theorem S.slices_Index_int(l:List Int)(s:Int)(f:Bool)(hl:l.length<2^40):ay Tryd.prog 59 [.row 0 f (.ints l),.int s] (.int (zF s l 0)):=by
 refine ay.of Bd.kV (by simp) rfl rfl ?_
 conv=>whnf
 refine aY.same [0,1,6,7] (fun i:Nat=>[(8,.int i)]) (fun i=>i<=l.length/\zF s l 0=zF s (l.drop i) i) (fun i=>l.length-i) 0 rfl (by decide) rfl (fun _=>rfl) ⟨by omega,by simp⟩ ⟨⟨_,rfl,rfl⟩,trivial⟩ ?_
 conv=>whnf
 refine⟨rfl,?_⟩
 rintro i ⟨hi,hall⟩
 conv=>whnf
 refine⟨fun h3=>?_,fun h3=>?_⟩
 ·have hi':i<l.length:=by simpa using h3
  rw[bU 0 hi'] at hall
  simp only[zF] at hall
  conv=>whnf
  refine .mk (by simp only[Rw.rng] at *; first|omega|(simp_all; done)|(simp_all; omega)) ?_
  conv=>whnf
  refine⟨fun h4=>?_,fun h4=>?_⟩
  ·conv=>whnf
   refine aB.int ?_
   have h4':(s==l.getD i 0)=true:=h4
   rw[hall,h4']; rfl
  ·conv=>whnf
   refine .mk (by simp only[okI] at *; first|omega|(simp_all; done)|(simp_all; omega)) ?_
   conv=>whnf
   refine⟨i+1,⟨by omega,?_⟩,by omega,⟨⟨_,rfl,rfl⟩,trivial⟩,?_,rfl⟩
   ·have h4':(s==l.getD i 0)=false:=h4
    rw[hall,h4']; rfl
   ·repeat' (first|exact trivial|exact⟨_,rfl,rfl⟩|constructor)
 ·conv=>whnf
  refine aB.int ?_
  have hi':l.length<=i:=by simpa using h3
  rw[hall,List.drop_eq_nil_of_le hi']; rfl
def OG(l:List Int)(s:Int):Bool:=l.any fun x=>s==x
theorem S.slices_Contains_int(l:List Int)(s:Int)(f:Bool)(hl:l.length<2^40):ay Tryd.prog 42 [.row 0 f (.ints l),.int s] (.bool (OG l s)):=by
 refine ay.of Bd.jF (by simp) rfl rfl ?_
 conv=>whnf
 refine ah.pure (S.slices_Index_int l s f hl) rfl ?_
 conv=>whnf
 exact aB.bool S9.symm
def pW(n:Nat)(l:List Int):Prop:= ∀ q∈l,0<=q/\q<n
def Tc(c l:List Int):Bool:=(List.range c.length).any fun i=>decide (c.getD i 0>0)&& !(OG l i)
def wz(ex c:List Int)(i:Nat):Bool:=((ex.length:Int)==0)||(List.range i).any fun j=> !(c.getD j 0==0)&&OG ex j
def qR(al c:List Int)(i:Nat):Bool:=(List.range i).any fun j=> !(c.getD j 0==0)&&(decide ((al.length:Int)>0)&& !(OG al j))
def nO(r:Rule)(c:List Int):Bool:= !(qR r.all c c.length)&&wz r.ex c c.length
theorem MK{ex c:List Int}{i:Nat}:wz ex c (i+1)=(wz ex c i||(!(c.getD i 0==0)&&OG ex i)):=by
 simp only[wz,List.range_succ,List.any_append,List.any_cons,List.any_nil,Bool.or_false,Bool.or_assoc]
theorem ML{al c:List Int}{i:Nat}:qR al c (i+1)=(qR al c i||(!(c.getD i 0==0)&&(decide ((al.length:Int)>0)&& !(OG al i)))):=by
 simp only[qR,List.range_succ,List.any_append,List.any_cons,List.any_nil,Bool.or_false]
theorem Td{al c:List Int}{i:Nat}(hi:i<c.length)(h0:(c.getD i 0==0)=false)(h:(decide ((al.length:Int)>0)&& !(OG al i))=true):qR al c c.length=true :=
 Gz.2 ⟨i,hi,by rw[h0,h]; rfl⟩
structure uS(n:Nat)(r:Rule):Prop where
 src:0<=r.fr/\r.fr<n
 dst:0<=r.to/\r.to<n
 aaS:0<=r.jw/\r.jw<n
 aaT:0<=r.Dj/\r.Dj<n
 rsp:r.kind=3->r.response.length=n/\pW n r.response
 exs:pW n r.ex
def CJ(c:List Int):Prop:= ∀ x∈c,0<=x/\x<=1048576
def iC(c:List Int)(i d:Int):List Int:=c.set i.toNat (c.getD i.toNat 0+d)
def aW(c:List Int)(i:Int):List Int:=c.set i.toNat (c.getD i.toNat 0-1)
def lu(r:Rule)(c:List Int)(i:Nat):List Int:=(List.range i).foldl (fun a j=>iC a (r.response.getD j 0) (c.getD j 0)) (List.replicate c.length 0)
def bM(r:Rule)(e:Elem):Option Elem :=
 let c1:=aW e.counts r.fr
 let out (c:List Int):Option Elem:=some ⟨bif decide (r.write>=0) then r.write else e.value,iC c r.to 1⟩
 bif (decide (0<=r.read)&&e.value !=r.read||e.counts.getD r.fr.toNat 0==0) then none else
 bif r.kind==1 then(bif !(nO r c1) then none else out c1) else
 bif r.kind==2 then(bif c1.getD r.jw.toNat 0==0 then none else out (iC (aW c1 r.jw) r.Dj 1)) else
 bif r.kind==3 then out (lu r c1 c1.length) else out c1
theorem CJ.get{c:List Int}(h:CJ c){i:Nat}(hi:i<c.length):0<=c.getD i 0/\c.getD i 0<=1048576:=by
 rw[show c.getD i 0=c[i] by simp[hi]]; exact h _ (List.getElem_mem hi)
theorem JU{h:Hz}{j:Nat}{Z:Nat->Prop}{l:List Int}(hz:Z j)(q:h.get j=some (.row 3 0 (.ints l) [])):T.sub Z h.aj (V.row 0 false (.ints l)).aI (V.own j).aI:=by
 show T.sub Z h.aj (.sl 0 false (l.map T.int)) (.own j)
 simp only[T.sub]
 refine⟨trivial,hz,?_,by decide,3,?_⟩
 ·rw[fP]; intro t ht; obtain⟨x,_,rfl⟩:=List.mem_map.1 ht; rfl
 ·have:=aK q
  rw[this]; simp[OV.aF,Rw.aT,V.aT]
def okB(b:Int)(c:List Int):Prop:= ∀ x∈c,-b<=x/\x<=b
theorem okB.get{b:Int}{c:List Int}(h:okB b c)(hb:0<=b)(i:Nat): -b<=c.getD i 0/\c.getD i 0<=b:=by
 by_cases hi:i<c.length
 ·rw[show c.getD i 0=c[i] by simp[hi]]; exact h _ (List.getElem_mem hi)
 ·rw[show c.getD i 0=0 by simp[List.getD_eq_getElem?_getD,List.getElem?_eq_none (by omega:c.length<=i)]]; omega
theorem okB.add{b k:Int}{c:List Int}(h:okB b c)(hb:0<=b)(i d:Int)(hd: -k<=d/\d<=k):okB (b+k) (iC c i d):=by
 intro x hx
 have hk:0<=k:=by omega
 rcases List.mem_or_eq_of_mem_set hx with hx|rfl
 ·have:=h x hx; omega
 ·have:=h.get hb i.toNat; omega
theorem okB.dec{b:Int}{c:List Int}(h:okB b c)(hb:0<=b)(i:Int):okB (b+1) (aW c i):=by
 have:=h.add hb i (-1) (k:=1) ⟨by omega,by omega⟩
 rw[show aW c i=iC c i (-1) by simp only[aW,iC]; rfl]; exact this
theorem CJ.b{c:List Int}(h:CJ c):okB 1048576 c:=fun x hx=>by have:=h x hx; omega
theorem zG{n:Nat}(h:0<n):(bif isZero (.int n) then some Rw.nil else Tf (n:Int).toNat (T.int 0))=some (.ints (List.replicate n 0)):=by
 cases n with
 |zero=>omega
 |succ k=>rfl
theorem xH{r:Rule}{c:List Int}{i:Nat}:lu r c (i+1)=iC (lu r c i) (r.response.getD i 0) (c.getD i 0):=by
 simp only[lu,List.range_succ,List.foldl_append,List.foldl_cons,List.foldl_nil]
theorem zH{r:Rule}{c:List Int}{i:Nat}:(lu r c i).length=c.length:=by
 induction i with
 |zero=>simp[lu]
 |succ i ih=>rw[xH]; simp[iC,ih]
theorem X4{r:Rule}{c:List Int}{b:Int}(h:okB b c)(hb:0<=b)(i:Nat):okB (i*b) (lu r c i):=by
 induction i with
 |zero=>intro x hx; simp[lu] at hx; omega
 |succ i ih =>
  rw[xH]
  have h0:0<=(i:Int)*b:=Int.mul_nonneg (by omega) hb
  have:=ih.add h0 (r.response.getD i 0) (c.getD i 0) (k:=b) (h.get hb i)
  rw[show((i+1:Nat):Int)*b=i*b+b by rw[Int.natCast_add,Int.add_mul]; simp]; exact this
abbrev iL(l:List Int):OV:=.row 3 0 (.ints l) []
theorem S.Qd(e:Elem)(he:e.counts.length<2^30)(n:Nat):aO Tryd.prog 10 (V.aT [.dat (.elem e)]) (Hz.aj []) n (fun t hp=>t= .agg [.int e.value,.own n]/\hp=Hz.aj [(n,some (iL e.counts))]):=by
 refine oC.of (nx:=0) Bd.Eb (by simp) ⟨_,_,rfl,rfl⟩ rfl rfl ?_
 conv=>whnf
 refine .mk (by simp only[nN,mV,Rw.len]; omega) ?_
 conv=>whnf
 exact jG.one (c:=n) (j:=7) (o:=iL e.counts) (t:=.agg [.int e.value,.own n]) rfl rfl rfl nofun (.inr rfl) ⟨trivial,rfl,trivial⟩ (.eq rfl) ⟨rfl,rfl⟩
theorem S.P8(e:Elem)(he:e.counts.length<2^30):rU Tryd.prog 10 [nP e] (fun n=>.agg [.int e.value,.own n]) (some ⟨3,0,e.counts.map T.int⟩):=by
 refine⟨by exact V.fE [.dat (.elem e)] rfl,fun n=>⟨trivial,rfl,trivial⟩,fun ob h=>?_,fun ob h=>?_,fun n=>?_⟩
 ·cases h
  show T.cu (e.counts.map T.int)=true
  rw[fP]; intro t ht; obtain⟨x,_,rfl⟩:=List.mem_map.1 ht; rfl
 ·cases h; exact show(0:Nat)≠eF by decide
 ·have:=S.Qd e he n
  have e1:Hz.aj [(n,some (iL e.counts))]=lq no n (some ⟨3,0,e.counts.map T.int⟩):=by
   rw[aZ]; simp[lq,OV.aF,Rw.aT,V.aT]; rfl
  rw[e1] at this
  exact this
theorem Vt{h:Hz}{n:Nat}{l:List Int}:lq h.aj n (some ⟨3,0,l.map T.int⟩)=Hz.aj ((n,some (iL l))::h):=by
 rw[aZ]; simp[lq,OV.aF,Rw.aT,V.aT]
theorem Vx{r:Rule}{e:Elem}(hc:CJ e.counts)(h1:(decide (0<=r.read)&&e.value !=r.read||e.counts.getD r.fr.toNat 0==0)=false)(i:Nat):0<=(aW e.counts r.fr).getD i 0:=by
 have h0: ∀ j,0<=e.counts.getD j 0:=fun j=>by
  by_cases hj:j<e.counts.length
  ·exact(hc.get hj).1
  ·rw[show e.counts.getD j 0=0 by simp[List.getD_eq_getElem?_getD,List.getElem?_eq_none (by omega:e.counts.length<=j)]]; omega
 have h2:e.counts.getD r.fr.toNat 0≠0:=by
  rw[Bool.or_eq_false_iff] at h1
  have:=h1.2
  simpa using this
 have h3:=h0 r.fr.toNat
 have h4:=h0 i
 rw[aW,List.getD_eq_getElem?_getD,List.getElem?_set]
 split
 ·split
  ·simp only[Option.getD_some]; omega
  ·simp
 ·rw[<- List.getD_eq_getElem?_getD]; exact h4
theorem okF{ρ:Nat->Nat}{nx pn c n:Nat}{h:Hz}{s:List Nat}{o o':OV}(q1:Nat.blt c nx=true)(q2:Nat.blt c pn=true->n=c)(q3:Ec n s=true)(q4:(o.good nx&&o.Iw)=true)(q5:h.get n=some o')
  (q6:o'.aF.ty=o.aF.ty/\o'.aF.k=o.aF.k) (q7:o.aF.l=o'.aF.l):Nat.blt c nx=true/\(Nat.blt c pn=true->n=c)/\Ec n s=true/\o.good nx=true /\
   ∃ o',h.get n=some o'/\o'.aF.ty=o.aF.ty/\o'.aF.k=o.aF.k/\bZ (T.bT ρ o.aF.l) o'.aF.l:=by
 rw[Bool.and_eq_true] at q4
 exact⟨q1,q2,q3,q4.1,o',q5,q6.1,q6.2,bZ.of_eq ((OV.zI q4.2 ρ).trans q7)⟩
theorem bz{c:Bool}{a b:Int}(ha:c=true->a≠0)(h:(bif c then a else b)=0):c=false/\b=0:=by
 cases c with
 |true=>exact absurd h (ha rfl)
 |false=>exact⟨rfl,h⟩
theorem nz{a:Int}(h:(a !=0)=true):a≠0:=by simpa using h
theorem gW: ∀ {l:List Int},bJ l=0-> ∀ x∈l,x=0:=by
 intro l
 induction l with
 |nil=>intro _ x h; cases h
 |cons a r ih =>
  intro h x hx
  simp only[bJ] at h
  split at h
  ·rename_i h0
   rcases List.mem_cons.1 hx with rfl|hx
   ·exact h0
   ·exact ih h x hx
  ·rename_i h0; exact absurd h h0
structure A8(p:aX):Prop where
 pos:0<p.states.length
 states:p.states.length<=6
 values:p.values.length<=3
 aaU:p.rules.length<=8
 init:iD p.initial p.states.length=0
 start:p.initial≠[]
 rule: ∀ i,i<p.rules.length->jL p i=0
theorem X5{p:aX}(h:dU p=0):A8 p:=by
 unfold dU at h
 obtain⟨_,h⟩:=bz (fun _=>by decide) h
 obtain⟨_,h⟩:=bz (fun _=>by decide) h
 obtain⟨h0,h⟩:=bz (fun _=>by decide) h
 obtain⟨h1,h⟩:=bz (fun _=>by decide) h
 obtain⟨_,h⟩:=bz nz h
 obtain⟨_,h⟩:=bz (fun _=>by decide) h
 obtain⟨_,h⟩:=bz (fun _=>by decide) h
 obtain⟨h2,h⟩:=bz nz h
 obtain⟨h3,h⟩:=bz nz h
 have h2':GH p=0:=by simpa using h2
 have h3':Ed p=0:=by simpa using h3
 have g:=gW h2'
 simp only[uT,Bool.or_eq_false_iff,decide_eq_false_iff_not] at h1
 refine⟨?_,by omega,by omega,by omega,g _ (by simp),?_,fun i hi=>?_⟩
 ·have:(p.states.length:Int)≠0:=by simpa using h0
  omega
 ·intro e
  have:=g (fA ((p.initial.length:Int)==0) 1) (by simp)
  rw[e] at this; exact absurd this (by decide)
 ·exact gW h3' _ (List.mem_map.2 ⟨i,by simpa using hi,rfl⟩)
theorem qy{x:Int}{n:Nat}(h:wB x n=false):0<=x/\x<n:=by
 simp only[wB,Bool.or_eq_false_iff,decide_eq_false_iff_not] at h; omega
theorem yO{x:Int}{n:Nat}(h:dY x n=0):0<=x/\x<n:=by
 refine qy ?_
 unfold dY fA at h
 cases hb:wB x n with
 |false=>rfl
 |true=>rw[hb] at h; exact absurd h (by decide)
theorem xI{l:List Int}{n:Nat}(h:iD l n=0):pW n l:=by
 unfold iD at h
 obtain⟨h,_⟩:=bz (fun _=>by decide) h
 rw[List.any_eq_false] at h
 exact fun q hq=>qy (by simpa using h q hq)
theorem JV{n:Nat}: ∀ {l:List Int},yP l n=0->pW n l:=by
 intro l
 induction l with
 |nil=>intro _ q h; cases h
 |cons x r ih =>
  intro h q hq
  simp only[yP] at h
  split at h
  ·rename_i h0
   rcases List.mem_cons.1 hq with rfl|hq
   ·exact yO h0
   ·exact ih h q hq
  ·rename_i h0; exact absurd h h0
theorem Qe{k:Int}(h:wC k 1=true):k=1\/k=2\/k=3:=by
 unfold wC at h
 cases h1:(k==1) with
 |true=>exact .inl (beq_iff_eq.1 h1)
 |false =>
  cases h2:(k==2) with
  |true=>exact .inr (.inl (beq_iff_eq.1 h2))
  |false =>
   cases h3:(k==3) with
   |true=>exact .inr (.inr (beq_iff_eq.1 h3))
   |false=>rw[h1,h2,h3] at h; cases hb:(k==4||k==5)<;>rw[hb] at h<;>cases h
structure Xm(n:Nat)(p:aX)(r:Rule):Prop where
 place:uS n r
 kind:r.kind=1\/r.kind=2\/r.kind=3
 abz:pW n r.all
 ex1:r.kind≠1->r.ex=[]/\r.all=[]
 rd:wB r.read p.values.length=false\/r.read= -1
 wr:wB r.write p.values.length=false\/r.write= -1
theorem oH{p:aX}{v:Int}(h:jH p v=0):wB v p.values.length=false\/v= -1:=by
 unfold jH fA at h
 have h': ¬ (v< -1\/v>=(p.values.length:Int)):=by
  intro q
  have:(decide (v< -1)||decide (v>=(p.values.length:Int)))=true:=by simpa using q
  rw[this] at h; exact absurd h (by decide)
 by_cases e:v= -1
 ·exact .inr e
 ·left
  simp only[wB,Bool.or_eq_false_iff,decide_eq_false_iff_not]; omega
theorem ZQ{p:aX}{i:Nat}(hv:A8 p)(ht:p.topology=1)(hi:i<p.rules.length):Xm p.states.length p (p.rules.getD i default):=by
 have h:=hv.rule i hi
 have hpos:=hv.pos
 simp only[jL,oZ] at h
 generalize (p.rules.getD i default)=r at h ⊢
 obtain⟨_,h⟩:=bz (fun _=>by decide) h
 obtain⟨hb,h⟩:=bz (fun _=>by decide) h
 obtain⟨he,h⟩:=bz nz h
 rw[Vy,Bool.or_eq_false_iff] at he
 rw[ht,Bool.or_eq_false_iff] at hb
 have hk:=Qe (show wC r.kind 1=true by simpa using hb.1)
 have hu:xJ r 1=false:=by rw[Ee (by omega)]; exact hb.2
 have hun:=Qg hu
 have hpf:r.kind≠2->r.kind≠5->r.jw=0/\r.Dj=0:=by
  intro k1 k2
  simp only[xJ,OH,Bool.or_eq_false_iff] at hu
  have h3:=hu.2.2.1
  simp only[beq_eq_false_iff_ne.2 k1,beq_eq_false_iff_ne.2 k2,Bool.not_false,Bool.true_and,Bool.or_eq_false_iff] at h3
  exact⟨Qh h3.1,Qh h3.2⟩
 have h00:(0:Int)<=0/\(0:Int)<p.states.length:=⟨by omega,by omega⟩
 have pn:pW p.states.length []:=fun q hq=>by cases hq
 rcases hk with e|e|e
 ·rw[e] at h
  have g:=gW h
  have⟨a,b⟩:=hpf (by omega) (by omega)
  exact⟨⟨qy he.1,qy he.2,by rw[a]; exact h00,by rw[b]; exact h00,fun q=>by omega,xI (g (iD r.ex p.states.length) (by simp))⟩,.inl e,xI (g (iD r.all p.states.length) (by simp)),fun q=>absurd e q,oH (g (jH p r.read) (by simp)),oH (g (jH p r.write) (by simp))⟩
 ·rw[e] at h
  have g:=gW h
  obtain⟨_,u1,u2,_⟩:=hun.1 (by omega)
  exact⟨⟨qy he.1,qy he.2,yO (g (dY r.jw p.states.length) (by simp)),yO (g (dY r.Dj p.states.length) (by simp)),fun q=>by omega,by rw[u1]; exact pn⟩,.inr (.inl e),by rw[u2]; exact pn,fun _=>⟨u1,u2⟩,oH (g (jH p r.read) (by simp)),oH (g (jH p r.write) (by simp))⟩
 ·rw[e] at h
  have g:=gW h
  have⟨a,b⟩:=hpf (by omega) (by omega)
  obtain⟨_,u1,u2,_⟩:=hun.1 (by omega)
  have hr:=g (CO r.response p.states.length) (by simp)
  unfold CO at hr
  obtain⟨r1,r2⟩:=bz (fun _=>by decide) hr
  exact⟨⟨qy he.1,qy he.2,by rw[a]; exact h00,by rw[b]; exact h00,fun _=>⟨by have q9:(r.response.length:Int)=p.states.length:=(by simpa using r1); omega,JV r2⟩,by rw[u1]; exact pn⟩,.inr (.inr e),by rw[u2]; exact pn,fun _=>⟨u1,u2⟩,oH (g (jH p r.read) (by simp)),oH (g (jH p r.write) (by simp))⟩
theorem Qi{p:aX}(h:Ba p=true):p.topology=1:=by
 simp only[Ba,Bool.and_eq_true,beq_iff_eq] at h; exact h.1.1.1
structure abA(p:aX)(e:Elem):Prop where
 valid:A8 p
 plain:Ba p=true
 len:e.counts.length=p.states.length
 nums:CJ e.counts
 val:0<=e.value/\e.value<max 1 (p.values.length:Int)
theorem xA{b:Bool}{n:Int}(h:fA b n=0)(hn:n≠0):b=false:=by
 cases b with
 |false=>rfl
 |true=>exact absurd h hn
theorem Vz{x:Int}:FY x=true↔0<=x/\x<=1048576:=by simp[FY]
theorem SS{p:aX}{e:Elem}(h:wu p e=false):e.counts.length=p.states.length/\CJ e.counts/\0<=e.value/\e.value<max 1 (p.values.length:Int):=by
 simp only[wu,Bool.or_eq_false_iff,decide_eq_false_iff_not] at h
 obtain⟨⟨⟨h1,h2⟩,h3⟩,h4⟩:=h
 refine⟨?_,fun x hx=>?_,by omega,by omega⟩
 ·have:(e.counts.length:Int)=p.states.length:=by simpa using h1
  omega
 ·have:e.counts.all FY=true:=by simpa using h2
  exact Vz.1 (List.all_eq_true.1 this x hx)
theorem fK{α:Type}{c:Bool}{a b:Option α}{x:α}(h:(bif c then a else b)=some x):a=some x\/b=some x:=by
 cases c with
 |true=>exact .inl h
 |false=>exact .inr h
theorem GI{c:List Int}{i d:Int}:(iC c i d).length=c.length:=by simp[iC]
theorem oI{c:List Int}{i:Int}:(aW c i).length=c.length:=by simp[aW]
theorem GK{r:Rule}{e x:Elem}(h:bM r e=some x):x.counts.length=e.counts.length:=by
 simp only[bM] at h
 have out: ∀ {c:List Int} {v:Int},c.length=e.counts.length->some (⟨v,iC c r.to 1⟩:Elem)=some x->x.counts.length=e.counts.length:=by
  intro c v hc h; cases h; rw[GI,hc]
 rcases fK h with h|h
 ·cases h
 rcases fK h with h|h
 ·rcases fK h with h|h
  ·cases h
  ·exact out oI h
 rcases fK h with h|h
 ·rcases fK h with h|h
  ·cases h
  ·exact out (by rw[GI,oI,oI]) h
 rcases fK h with h|h
 ·exact out (by rw[zH,oI]) h
 ·exact out oI h
structure nK(q:Prop'):Prop where
 start:q.start.length<2^30
 bad:q.bad.length<2^30
 adjacent:q.adjacent.length<2^30
 goal:q.goal.length<2^30
 cnt: ∀ i,(q.bad.getD i default).states.length<2^30
def qU(c:Cnt):Bool:=((c.states.length:Int)==0||decide (c.least<1))||decide (c.least>3)
def Ti(n:Int)(c:Cnt):Int:=bJ [iD c.states n,fA (qU c) 1]
def xK(l:List Cnt)(n:Int):Int:=bJ (l.map (Ti n))
def MN(p:aX)(l:List Int):Int:=bif (l.length:Int)==0 then 0 else bif p.topology==1 then 6 else bif (l.length:Int) !=2 then 1 else bJ [dY (l.getD 0 0) p.states.length,dY (l.getD 1 0) p.states.length]
def uU(q:Prop'):Bool:=((q.kind==1)&&decide ((q.goal.length:Int)>0))||(!(q.kind==1)&&(decide ((q.bad.length:Int)>0)||decide ((q.adjacent.length:Int)>0)))
def pz(p:aX)(q:Prop'):Int :=
 let n:Int:=p.states.length
 bif dU p !=0 then dU p else bif !(validName q.name) then 2 else bif !(q.kind==1)&&q.kind !=2 then 1 else bif uU q then 1 else
 bif iD q.start n !=0 then iD q.start n else bif q.start.any (fun x=> !(OG p.initial x)) then 5 else
 bif !(q.kind==1) then bJ [iD q.goal n,fA ((q.goal.length:Int)==0) 1] else
 bJ [fA (((q.bad.length:Int)==0)&&((q.adjacent.length:Int)==0)) 1,fA (decide ((q.bad.length:Int)>3)) 4,xK q.bad n,MN p q.adjacent]
theorem S.kH(l:List Cnt)(n:Int)(f:Bool)(hl:l.length<2^30)(hs: ∀ i,(l.getD i default).states.length<2^30):ay Tryd.prog 67 [.row 3 f (.cnts l),.int n] (.int (xK l n)):=by
 refine ay.of Bd.kH (by simp) rfl rfl ?_
 conv=>whnf
 refine aY.same [1,8,9] (fun i:Nat=>[(10,.int i)]) (fun i=>i<=l.length/\xK l n=bJ ((l.drop i).map (Ti n))) (fun i=>l.length-i) 0 rfl (by decide) rfl (fun _=>rfl) ⟨by omega,by simp[xK]⟩ ⟨⟨_,rfl,rfl⟩,trivial⟩ ?_
 conv=>whnf
 refine⟨rfl,?_⟩
 rintro i ⟨hi,hall⟩
 conv=>whnf
 refine⟨fun h3=>?_,fun h3=>?_⟩
 ·have hi':i<l.length:=by simpa using h3
  rw[bU default hi',List.map_cons] at hall
  simp only[bJ] at hall
  have hc:=hs i
  conv=>whnf
  refine .mk (by simp only[Rw.rng] at *; first|omega|(simp_all; done)|(simp_all; omega)) ?_
  conv=>whnf
  refine ah.pure (S.dF (l.getD i default).states n false (by omega)) rfl ?_
  conv=>whnf
  repeat(refine VC.mk (by first|exact id|(intro h; rw[h]; rfl)) ?_; conv=>whnf)
  refine ah.pure (S.bG (qU (l.getD i default)) 1) rfl ?_
  conv=>whnf
  refine ah.pure (S.bD [iD (l.getD i default).states n,fA (qU (l.getD i default)) 1] true (show 2<2^40 by decide)) rfl ?_
  conv=>whnf
  refine⟨fun h4=>?_,fun h4=>?_⟩
  ·conv=>whnf
   refine aB.int ?_
   have h4':Ti n (l.getD i default)≠0:=nz h4
   rw[hall,if_neg h4']; rfl
  ·conv=>whnf
   refine .mk (by simp only[okI] at *; first|omega|(simp_all; done)|(simp_all; omega)) ?_
   conv=>whnf
   have h4':Ti n (l.getD i default)=0:=JW h4
   rw[if_pos h4'] at hall
   refine⟨i+1,⟨by omega,hall⟩,by omega,⟨⟨_,rfl,rfl⟩,trivial⟩,?_,rfl⟩
   repeat' (first|exact trivial|exact⟨_,rfl,rfl⟩|constructor)
 ·have hi':l.length<=i:=by simpa using h3
  rw[List.drop_eq_nil_of_le hi'] at hall
  conv=>whnf
  exact aB.int (by rw[hall]; rfl)
theorem S.jy(p:aX)(l:List Int)(f:Bool)(_hl:l.length<2^30):ay Tryd.prog 68 [.dat (.eG p),.row 0 f (.ints l)] (.int (MN p l)):=by
 refine ay.of Bd.jy (by simp) rfl rfl ?_
 conv=>whnf
 refine⟨fun h1=>?_,fun h1=>?_⟩
 ·conv=>whnf
  exact aB.int (by rw[MN,h1]; rfl)
 conv=>whnf
 refine⟨fun h2=>?_,fun h2=>?_⟩
 ·conv=>whnf
  exact aB.int (by rw[MN,h1,h2]; rfl)
 conv=>whnf
 refine⟨fun h3=>?_,fun h3=>?_⟩
 ·conv=>whnf
  exact aB.int (by rw[MN,h1,h2,h3]; rfl)
 have h4:l.length=2:=by
  have:(l.length:Int)=2:=by simpa using h3
  omega
 conv=>whnf
 repeat(refine VC.mk (by simp only[Rw.rng] at *; first|omega|(simp_all; done)|(simp_all; omega)) ?_; conv=>whnf)
 refine ah.pure (S.bI (l.getD 0 0) p.states.length) rfl ?_
 conv=>whnf
 refine ah.pure (S.bI (l.getD 1 0) p.states.length) rfl ?_
 conv=>whnf
 refine ah.pure (S.bD [dY (l.getD 0 0) p.states.length,dY (l.getD 1 0) p.states.length] true (show 2<2^40 by decide)) rfl ?_
 conv=>whnf
 exact aB.int (by rw[MN,h1,h2,h3]; rfl)
theorem S.dD(p:aX)(q:Prop')(hp:dP p)(hq:nK q):ay Tryd.prog 45 [.dat (.eG p),.dat (.prop q)] (.int (pz p q)):=by
 have g1:=hp.states; have g5:=hp.initial
 have q1:=hq.start; have q2:=hq.bad; have q3:=hq.adjacent; have q4:=hq.goal
 refine ay.of Bd.dD (by simp) rfl rfl ?_
 conv=>whnf
 refine ah.pure (S.gJ p hp) rfl ?_
 conv=>whnf
 refine⟨fun h1=>?_,fun h1=>?_⟩
 ·conv=>whnf
  exact aB.int (by rw[pz,h1]; rfl)
 conv=>whnf
 refine ah.pure (S.eH q.name) rfl ?_
 conv=>whnf
 refine⟨fun h2=>?_,fun h2=>?_⟩
 ·conv=>whnf
  exact aB.int (by rw[pz,h1,h2]; rfl)
 conv=>whnf
 repeat(refine VC.mk id ?_; conv=>whnf)
 refine⟨fun h3=>?_,fun h3=>?_⟩
 ·conv=>whnf
  exact aB.int (by rw[pz,h1,h2,h3]; rfl)
 conv=>whnf
 repeat(refine VC.mk id ?_; conv=>whnf)
 refine⟨fun h4=>?_,fun h4=>?_⟩
 ·conv=>whnf
  refine Fork.mk (fun _=>?_) (fun q=>absurd (q.symm.trans (h4)) Bool.false_ne_true)
  conv=>whnf
  exact aB.int (by rw[pz,h1,h2,h3,show uU q=true by rw[uU]; erw [h4]; rfl]; rfl)
 conv=>whnf
 repeat(refine VC.mk (by first|exact id|(intro h; simp_all; done)) ?_; conv=>whnf)
 refine⟨fun h5=>?_,fun h5=>?_⟩
 ·conv=>whnf
  exact aB.int (by rw[pz,h1,h2,h3,show uU q=true by rw[uU]; erw [h5]; simp]; rfl)
 have h45:uU q=false:=by rw[uU]; erw [h4,h5]; rfl
 conv=>whnf
 refine ah.pure (S.dF q.start p.states.length false (by omega)) rfl ?_
 conv=>whnf
 refine⟨fun h6=>?_,fun h6=>?_⟩
 ·conv=>whnf
  exact aB.int (by rw[pz,h1,h2,h3,h45,h6]; rfl)
 conv=>whnf
 refine aY.same [2,3,6,7,65,66] (fun i:Nat=>[(67,.int i)]) (fun i=>i<=q.start.length/\(q.start.take i).any (fun x=> !(OG p.initial x))=false) (fun i=>q.start.length-i) 0 rfl (by decide) rfl (fun _=>rfl) ⟨by omega,by simp⟩ ⟨⟨_,rfl,rfl⟩,trivial⟩ ?_
 conv=>whnf
 refine⟨rfl,?_⟩
 rintro i ⟨hi,hall⟩
 conv=>whnf
 refine⟨fun h7=>?_,fun h7=>?_⟩
 ·have hi':i<q.start.length:=by simpa using h7
  conv=>whnf
  refine .mk (by simp only[Rw.rng] at *; first|omega|(simp_all; done)|(simp_all; omega)) ?_
  conv=>whnf
  refine ah.pure (S.slices_Contains_int p.initial (q.start.getD i 0) false (by omega)) rfl ?_
  conv=>whnf
  refine⟨fun h8=>?_,fun h8=>?_⟩
  ·conv=>whnf
   exact aB.int (by rw[pz,h1,h2,h3,h45,h6,uV (d:=0) hi' h8]; rfl)
  ·conv=>whnf
   refine .mk (by simp only[okI] at *; first|omega|(simp_all; done)|(simp_all; omega)) ?_
   conv=>whnf
   refine⟨i+1,⟨by omega,?_⟩,by omega,⟨⟨_,rfl,rfl⟩,trivial⟩,?_,rfl⟩
   ·rw[zJ (d:=0) hi' hall]; exact h8
   ·repeat' (first|exact trivial|exact⟨_,rfl,rfl⟩|constructor)
 have hi':q.start.length<=i:=by simpa using h7
 rw[List.take_of_length_le hi'] at hall
 conv=>whnf
 refine⟨fun h8=>?_,fun h8=>?_⟩
 ·conv=>whnf
  refine ah.pure (S.dF q.goal p.states.length false (by omega)) rfl ?_
  conv=>whnf
  refine ah.pure (S.bG ((q.goal.length:Int)==0) 1) rfl ?_
  conv=>whnf
  refine ah.pure (S.bD [iD q.goal p.states.length,fA ((q.goal.length:Int)==0) 1] true (show 2<2^40 by decide)) rfl ?_
  conv=>whnf
  exact aB.int (by rw[pz,h1,h2,h3,h45,h6,hall,h8]; rfl)
 conv=>whnf
 repeat(refine VC.mk id ?_; conv=>whnf)
 refine ah.pure (S.bG (((q.bad.length:Int)==0)&&((q.adjacent.length:Int)==0)) 1) rfl ?_
 conv=>whnf
 refine ah.pure (S.bG (decide ((q.bad.length:Int)>3)) 4) rfl ?_
 conv=>whnf
 refine ah.pure (S.kH q.bad p.states.length false q2 hq.cnt) rfl ?_
 conv=>whnf
 refine ah.pure (S.jy p q.adjacent false q3) rfl ?_
 conv=>whnf
 refine ah.pure (S.bD [fA (((q.bad.length:Int)==0)&&((q.adjacent.length:Int)==0)) 1,fA (decide ((q.bad.length:Int)>3)) 4,xK q.bad p.states.length,MN p q.adjacent] true (show 4<2^40 by decide)) rfl ?_
 conv=>whnf
 exact aB.int (by rw[pz,h1,h2,h3,h45,h6,hall,h8]; rfl)
end Go.Proofs.YtifbibbicplneaaDoor
namespace Go.Proofs.YtifbibbicplneaaDoor
open Go.Ab Go.Proofs
set_option maxRecDepth 100000
theorem aB.aaV{h:Hz}{j:Nat}{l:List Int}(q:h.get j=some (iL l)):aB (.row 0 false (.ints l)) (.own j) h:=⟨JU trivial q⟩
theorem aB.aaW{h:Hz}{k k':Nat}{r:Rw}(e:r.len=0):aB (.row k false r) (.row k' true .nil) h:=⟨by
 have:r.aT=[]:=List.eq_nil_of_length_eq_zero (by rw[Rw.dS]; exact e)
 show T.sub (fun _=>True) h.aj (.sl k false r.aT) (.sl k' true [])
 rw[this]; simp[T.sub]⟩
theorem S.GL(l:List Int)(f:Bool)(hl:l.length<2^30):ay Tryd.prog 44 [.row 0 f (.ints l)] (.row 0 false (.ints l)):=by
 refine ay.of Bd.jh (by simp) rfl rfl ?_
 conv=>whnf
 refine Tj.mk (fun hz=>?_) ?_
 ·conv=>whnf
  refine Fork.mk (fun _=>?_) (fun q=>absurd (q.symm.trans ((rfl:true=true))) Bool.false_ne_true)
  conv=>whnf
  exact aB.aaW hz
 ·conv=>whnf
  refine Fork.mk (fun q=>absurd (q.symm.trans ((rfl:false=false))).symm Bool.false_ne_true) (fun _=>?_)
  conv=>whnf
  refine .mk (by simp only[nN,mV,Rw.len]; omega) ?_
  conv=>whnf
  repeat(refine VC.mk (by simp only[nN,mV,Rw.len]; omega) ?_; conv=>whnf)
  exact aB.aaV rfl
def wE(p:aX)(q:Prop'):List Int:=bif decide ((q.start.length:Int)>0) then q.start else p.initial
theorem S.kJ(p:aX)(q:Prop')(hp:dP p)(hq:nK q)(hv:pz p q=0):ay Tryd.prog 46 [.dat (.eG p),.dat (.prop q)] (.fU [.row 0 false (.ints (wE p q)),.int 0]):=by
 have g5:=hp.initial; have q1:=hq.start
 refine ay.of Bd.kJ (by simp) rfl rfl ?_
 conv=>whnf
 refine ah.pure (S.dD p q hp hq) rfl ?_
 conv=>whnf
 refine Fork.mk (fun q=>absurd (q.symm.trans ((by simp[hv]))).symm Bool.false_ne_true) (fun _=>?_)
 conv=>whnf
 refine⟨fun h2=>?_,fun h2=>?_⟩
 ·conv=>whnf
  refine ah.pure (S.GL q.start false q1) rfl ?_
  conv=>whnf
  exact aB.eqv (by rw[wE,show decide ((q.start.length:Int)>0)=true from h2]; rfl)
 ·conv=>whnf
  refine ah.pure (S.GL p.initial false g5) rfl ?_
  conv=>whnf
  exact aB.eqv (by rw[wE,show decide ((q.start.length:Int)>0)=false from h2]; rfl)
theorem Qj{p:aX}{q:Prop'}(hp:dP p)(hq:nK q):(wE p q).length<2^30:=by
 unfold wE
 cases decide ((q.start.length:Int)>0)
 ·exact hp.initial
 ·exact hq.start
end Go.Proofs.YtifbibbicplneaaDoor
