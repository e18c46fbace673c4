/-
 A part of the proof. No condition.
-/
import Derived.Test.YtbigdcimbhgjbaaGreatDoorRb
import Derived.Test.YtbigdcimbhgjbaaGreatDoorLg
namespace Go.Proofs.YtbigdcimbhgjbaaGreatDoor
open Go.Ab Go.Proofs
set_option maxRecDepth 100000
def CJ(s:Int):List Int->Nat->Int
 |[],_=> -1
 |x::r,i=>bif s==x then(i:Int) else CJ s r (i+1)
theorem VO{s:Int}{l:List Int}:decide (0<=CJ s l 0)=l.any fun x=>s==x:=by
 have: ∀ {l:List Int} {i:Nat},0<=CJ s l i↔(l.any fun x=>s==x)=true:=by
  intro l
  induction l with
  |nil=>intro i; simp[CJ]
  |cons x r ih =>
   intro i
   rw[List.any_cons,Bool.or_eq_true,<- ih (i:=i+1)]
   show(0:Int)<=(bif s==x then(i:Int) else CJ s r (i+1))↔_
   generalize (s==x)=b
   cases b<;>simp
 rw[Bool.eq_iff_iff,decide_eq_true_eq]; exact this
theorem S.slices_Index_int(l:List Int)(s:Int)(f:Bool)(hl:l.length<2^40):ak Tryz.prog 125 [.row 0 f (.ints l),.int s] (.int (CJ s l 0)):=by
 refine ak.of Bd.lY (by simp) rfl rfl ?_
 refine aQ.same [0,1,6,7] (fun i:Nat=>[(8,.int i)]) (fun i=>i<=l.length/\CJ s l 0=CJ s (l.drop i) i) (fun i=>l.length-i) 0 rfl (by decide) rfl (fun _=>rfl) ⟨by omega,by simp⟩ ⟨⟨_,rfl,rfl⟩,trivial⟩ ?_
 refine⟨rfl,?_⟩
 rintro i ⟨hi,hall⟩
 refine⟨fun h3=>?_,fun h3=>?_⟩
 ·have hi':i<l.length:=by simpa using h3
  rw[aZ 0 hi'] at hall
  simp only[CJ] at hall
  refine .mk (by simp only[Rw.rng] at *; omega) ?_
  refine⟨fun h4=>?_,fun h4=>?_⟩
  ·conv=>whnf
   refine au.int ?_
   have h4':(s==l.getD i 0)=true:=h4
   rw[hall,h4']; rfl
  ·conv=>whnf
   refine .mk (by simp only[okI] at *; omega) ?_
   refine⟨i+1,⟨by omega,?_⟩,by omega,⟨⟨_,rfl,rfl⟩,trivial⟩,?_,rfl⟩
   ·have h4':(s==l.getD i 0)=false:=h4
    rw[hall,h4']; rfl
   ·repeat' (first|exact trivial|exact⟨_,rfl,rfl⟩|constructor)
 ·conv=>whnf
  refine au.int ?_
  have hi':l.length<=i:=by simpa using h3
  rw[hall,List.drop_eq_nil_of_le hi']; rfl
def Ru(l:List Int)(s:Int):Bool:=l.any fun x=>s==x
theorem S.slices_Contains_int(l:List Int)(s:Int)(f:Bool)(hl:l.length<2^40):ak Tryz.prog 96 [.row 0 f (.ints l),.int s] (.bool (Ru l s)):=by
 refine ak.of Bd.kK (by simp) rfl rfl ?_
 refine ah.pure (S.slices_Index_int l s f hl) rfl ?_
 exact au.bool VO.symm
def sK(n:Nat)(l:List Int):Prop:= ∀ q∈l,0<=q/\q<n
def YO(c l:List Int):Bool:=(List.range c.length).any fun i=>decide (c.getD i 0>0)&& !(Ru l i)
def Bf(ex c:List Int)(i:Nat):Bool:=((ex.length:Int)==0)||(List.range i).any fun j=> !(c.getD j 0==0)&&Ru ex j
def wI(al c:List Int)(i:Nat):Bool:=(List.range i).any fun j=> !(c.getD j 0==0)&&(decide ((al.length:Int)>0)&& !(Ru al j))
def wJ(r:Rule)(c:List Int):Bool:= !(wI r.all c c.length)&&Bf r.ex c c.length
theorem PN{ex c:List Int}{i:Nat}:Bf ex c (i+1)=(Bf ex c i||(!(c.getD i 0==0)&&Ru ex i)):=by
 simp only[Bf,List.range_succ,List.any_append,List.any_cons,List.any_nil,Bool.or_false,Bool.or_assoc]
theorem PO{al c:List Int}{i:Nat}:wI al c (i+1)=(wI al c i||(!(c.getD i 0==0)&&(decide ((al.length:Int)>0)&& !(Ru al i)))):=by
 simp only[wI,List.range_succ,List.any_append,List.any_cons,List.any_nil,Bool.or_false]
theorem VP{al c:List Int}{i:Nat}(hi:i<c.length)(h0:(c.getD i 0==0)=false)(h:(decide ((al.length:Int)>0)&& !(Ru al i))=true):wI al c c.length=true :=
 zQ.2 ⟨i,hi,by rw[h0,h]; rfl⟩
structure xQ(n:Nat)(r:Rule):Prop where
 src:0<=r.fr/\r.fr<n
 dst:0<=r.to/\r.to<n
 adC:0<=r.jk/\r.jk<n
 adD:0<=r.CO/\r.CO<n
 rsp:r.kind=3->r.response.length=n/\sK n r.response
 exs:sK n r.ex
def Fq(c:List Int):Prop:= ∀ x∈c,0<=x/\x<=1048576
def lq(c:List Int)(i d:Int):List Int:=c.set i.toNat (c.getD i.toNat 0+d)
def bJ(c:List Int)(i:Int):List Int:=c.set i.toNat (c.getD i.toNat 0-1)
def wS(r:Rule)(c:List Int)(i:Nat):List Int:=(List.range i).foldl (fun a j=>lq a (r.response.getD j 0) (c.getD j 0)) (List.replicate c.length 0)
def dL(r:Rule)(e:Elem):Option Elem :=
 let c1:=bJ e.counts r.fr
 let out (c:List Int):Option Elem:=some ⟨bif decide (r.write>=0) then r.write else e.value,lq c r.to 1⟩
 bif (decide (0<=r.read)&&e.value !=r.read||e.counts.getD r.fr.toNat 0==0) then none else
 bif r.kind==1 then(bif !(wJ r c1) then none else out c1) else
 bif r.kind==2 then(bif c1.getD r.jk.toNat 0==0 then none else out (lq (bJ c1 r.jk) r.CO 1)) else
 bif r.kind==3 then out (wS r c1 c1.length) else out c1
theorem Fq.get{c:List Int}(h:Fq c){i:Nat}(hi:i<c.length):0<=c.getD i 0/\c.getD i 0<=1048576:=by
 rw[show c.getD i 0=c[i] by simp[hi]]; exact h _ (List.getElem_mem hi)
theorem Jq{h:Hz}{j:Nat}{Z:Nat->Prop}{l:List Int}(hz:Z j)(q:h.get j=some (.row 3 0 (.ints l) [])):T.sub Z h.aj (V.row 0 false (.ints l)).aI (V.own j).aI:=by
 show T.sub Z h.aj (.sl 0 false (l.map T.int)) (.own j)
 simp only[T.sub]
 refine⟨trivial,hz,?_,by decide,3,?_⟩
 ·rw[gY]; intro t ht; obtain⟨x,_,rfl⟩:=List.mem_map.1 ht; rfl
 ·have:=aH q
  rw[this]; simp[OV.aF,Rw.aX,V.aX]
def okB(b:Int)(c:List Int):Prop:= ∀ x∈c,-b<=x/\x<=b
theorem okB.get{b:Int}{c:List Int}(h:okB b c)(hb:0<=b)(i:Nat): -b<=c.getD i 0/\c.getD i 0<=b:=by
 by_cases hi:i<c.length
 ·rw[show c.getD i 0=c[i] by simp[hi]]; exact h _ (List.getElem_mem hi)
 ·rw[show c.getD i 0=0 by simp[List.getD_eq_getElem?_getD,List.getElem?_eq_none (by omega:c.length<=i)]]; omega
theorem okB.add{b k:Int}{c:List Int}(h:okB b c)(hb:0<=b)(i d:Int)(hd: -k<=d/\d<=k):okB (b+k) (lq c i d):=by
 intro x hx
 have hk:0<=k:=by omega
 rcases List.mem_or_eq_of_mem_set hx with hx|rfl
 ·have:=h x hx; omega
 ·have:=h.get hb i.toNat; omega
theorem okB.dec{b:Int}{c:List Int}(h:okB b c)(hb:0<=b)(i:Int):okB (b+1) (bJ c i):=by
 have:=h.add hb i (-1) (k:=1) ⟨by omega,by omega⟩
 rw[show bJ c i=lq c i (-1) by simp only[bJ,lq]; rfl]; exact this
theorem Fq.b{c:List Int}(h:Fq c):okB 1048576 c:=fun x hx=>by have:=h x hx; omega
theorem CP{n:Nat}(h:0<n):(bif isZero (.int n) then some Rw.nil else Tz (n:Int).toNat (T.int 0))=some (.ints (List.replicate n 0)):=by
 cases n with
 |zero=>omega
 |succ k=>rfl
theorem zS{r:Rule}{c:List Int}{i:Nat}:wS r c (i+1)=lq (wS r c i) (r.response.getD i 0) (c.getD i 0):=by
 simp only[wS,List.range_succ,List.foldl_append,List.foldl_cons,List.foldl_nil]
theorem CQ{r:Rule}{c:List Int}{i:Nat}:(wS r c i).length=c.length:=by
 induction i with
 |zero=>simp[wS]
 |succ i ih=>rw[zS]; simp[lq,ih]
theorem aaN{r:Rule}{c:List Int}{b:Int}(h:okB b c)(hb:0<=b)(i:Nat):okB (i*b) (wS r c i):=by
 induction i with
 |zero=>intro x hx; simp[wS] at hx; omega
 |succ i ih =>
  rw[zS]
  have h0:0<=(i:Int)*b:=Int.mul_nonneg (by omega) hb
  have:=ih.add h0 (r.response.getD i 0) (c.getD i 0) (k:=b) (h.get hb i)
  rw[show((i+1:Nat):Int)*b=i*b+b by rw[Int.natCast_add,Int.add_mul]; simp]; exact this
abbrev jV(l:List Int):OV:=.row 3 0 (.ints l) []
end Go.Proofs.YtbigdcimbhgjbaaGreatDoor
namespace Go.Proofs.YtbigdcimbhgjbaaGreatDoor
open Go.Ab Go.Proofs
set_option maxRecDepth 100000
theorem YP{r:Rule}{e:Elem}(hc:Fq e.counts)(h1:(decide (0<=r.read)&&e.value !=r.read||e.counts.getD r.fr.toNat 0==0)=false)(i:Nat):0<=(bJ e.counts r.fr).getD i 0:=by
 have h0: ∀ j,0<=e.counts.getD j 0:=fun j=>by
  by_cases hj:j<e.counts.length
  ·exact(hc.get hj).1
  ·rw[show e.counts.getD j 0=0 by simp[List.getD_eq_getElem?_getD,List.getElem?_eq_none (by omega:e.counts.length<=j)]]; omega
 have h2:e.counts.getD r.fr.toNat 0≠0:=by
  rw[Bool.or_eq_false_iff] at h1
  have:=h1.2
  simpa using this
 have h3:=h0 r.fr.toNat
 have h4:=h0 i
 rw[bJ,List.getD_eq_getElem?_getD,List.getElem?_set]
 split
 ·split
  ·simp only[Option.getD_some]; omega
  ·simp
 ·rw[<- List.getD_eq_getElem?_getD]; exact h4
theorem iG{ρ:Nat->Nat}{nx pn c n:Nat}{h:Hz}{s:List Nat}{o:OV}(a:(Nat.blt c nx&&(!(Nat.blt c pn)||Nat.beq n c)&&wU n s&&(o.good nx&&o.Gx))=true)(b:(h.get n).map OV.aF=some o.aF):Nat.blt c nx=true/\(Nat.blt c pn=true->n=c)/\wU n s=true/\o.good nx=true /\
   ∃ o',h.get n=some o'/\o'.aF.ty=o.aF.ty/\o'.aF.k=o.aF.k/\dD (T.dh ρ o.aF.l) o'.aF.l:=by
 simp only[Bool.and_eq_true,Bool.or_eq_true,Bool.not_eq_true'] at a
 obtain⟨⟨⟨a1,a2⟩,a3⟩,a4,a5⟩:=a
 obtain⟨o',b1,b2⟩:=Option.map_eq_some_iff.1 b
 exact⟨a1,fun h=>a2.elim (fun q=>by rw[q] at h; cases h) gB,a3,a4,o',b1,by rw[b2],by rw[b2],by rw[OV.xR a5,b2]; exact .refl _⟩
theorem vM{ρ:Nat->Nat}{nx pn c n:Nat}{h:Hz}{s:List Nat}{o o':OV}(a:(Nat.blt c nx&&(!(Nat.blt c pn)||Nat.beq n c)&&wU n s)=true)(g:o.good nx=true)(b:h.get n=some o')(t:o'.aF.ty=o.aF.ty/\o'.aF.k=o.aF.k)(l:dD (T.dh ρ o.aF.l) o'.aF.l):Nat.blt c nx=true/\(Nat.blt c pn=true->n=c)/\wU n s=true/\o.good nx=true /\
   ∃ o',h.get n=some o'/\o'.aF.ty=o.aF.ty/\o'.aF.k=o.aF.k/\dD (T.dh ρ o.aF.l) o'.aF.l:=by
 simp only[Bool.and_eq_true,Bool.or_eq_true,Bool.not_eq_true'] at a
 obtain⟨⟨a1,a2⟩,a3⟩:=a
 exact⟨a1,fun h=>a2.elim (fun q=>by rw[q] at h; cases h) gB,a3,g,o',b,t.1,t.2,l⟩
theorem okF{ρ:Nat->Nat}{nx pn c n:Nat}{h:Hz}{s:List Nat}{o o':OV}(q1:Nat.blt c nx=true)(q2:Nat.blt c pn=true->n=c)(q3:wU n s=true)(q4:(o.good nx&&o.Gx)=true)(q5:h.get n=some o')
  (q6:o'.aF.ty=o.aF.ty/\o'.aF.k=o.aF.k) (q7:o.aF.l=o'.aF.l):Nat.blt c nx=true/\(Nat.blt c pn=true->n=c)/\wU n s=true/\o.good nx=true /\
   ∃ o',h.get n=some o'/\o'.aF.ty=o.aF.ty/\o'.aF.k=o.aF.k/\dD (T.dh ρ o.aF.l) o'.aF.l:=by
 rw[Bool.and_eq_true] at q4
 exact⟨q1,q2,q3,q4.1,o',q5,q6.1,q6.2,dD.of_eq ((OV.xR q4.2 ρ).trans q7)⟩
theorem bz{c:Bool}{a b:Int}(ha:c=true->a≠0)(h:(bif c then a else b)=0):c=false/\b=0:=by
 cases c with
 |true=>exact absurd h (ha rfl)
 |false=>exact⟨rfl,h⟩
theorem nz{a:Int}(h:(a !=0)=true):a≠0:=by simpa using h
theorem jw: ∀ {l:List Int},aU l=0-> ∀ x∈l,x=0:=by
 intro l
 induction l with
 |nil=>intro _ x h; cases h
 |cons a r ih =>
  intro h x hx
  simp only[aU] at h
  split at h
  ·rename_i h0
   rcases List.mem_cons.1 hx with rfl|hx
   ·exact h0
   ·exact ih h x hx
  ·rename_i h0; exact absurd h h0
structure D9(p:aS):Prop where
 pos:0<p.states.length
 states:p.states.length<=6
 values:p.values.length<=3
 adE:p.rules.length<=8
 init:dX p.initial p.states.length=0
 start:p.initial≠[]
 rule: ∀ i,i<p.rules.length->gG p i=0
theorem Bc{p:aS}(h:dn p=0):D9 p:=by
 unfold dn at h
 obtain⟨_,h⟩:=bz (fun _=>by decide) h
 obtain⟨_,h⟩:=bz (fun _=>by decide) h
 obtain⟨h0,h⟩:=bz (fun _=>by decide) h
 obtain⟨h1,h⟩:=bz (fun _=>by decide) h
 obtain⟨_,h⟩:=bz nz h
 obtain⟨_,h⟩:=bz (fun _=>by decide) h
 obtain⟨_,h⟩:=bz (fun _=>by decide) h
 obtain⟨h2,h⟩:=bz nz h
 obtain⟨h3,h⟩:=bz nz h
 have h2':wV p=0:=by simpa using h2
 have h3':Bg p=0:=by simpa using h3
 have g:=jw h2'
 simp only[uH,Bool.or_eq_false_iff,decide_eq_false_iff_not] at h1
 refine⟨?_,by omega,by omega,by omega,g _ (by simp),?_,fun i hi=>?_⟩
 ·have:(p.states.length:Int)≠0:=by simpa using h0
  omega
 ·intro e
  have:=g (eG ((p.initial.length:Int)==0) 1) (by simp)
  rw[e] at this; exact absurd this (by decide)
 ·exact jw h3' _ (List.mem_map.2 ⟨i,by simpa using hi,rfl⟩)
theorem tH{x:Int}{n:Nat}(h:oI x n=false):0<=x/\x<n:=by
 simp only[oI,Bool.or_eq_false_iff,decide_eq_false_iff_not] at h; omega
theorem Bh{x:Int}{n:Nat}(h:cu x n=0):0<=x/\x<n:=by
 refine tH ?_
 unfold cu eG at h
 cases hb:oI x n with
 |false=>rfl
 |true=>rw[hb] at h; exact absurd h (by decide)
theorem zT{l:List Int}{n:Nat}(h:dX l n=0):sK n l:=by
 unfold dX at h
 obtain⟨h,_⟩:=bz (fun _=>by decide) h
 rw[List.any_eq_false] at h
 exact fun q hq=>tH (by simpa using h q hq)
theorem Na{n:Nat}: ∀ {l:List Int},oJ l n=0->sK n l:=by
 intro l
 induction l with
 |nil=>intro _ q h; cases h
 |cons x r ih =>
  intro h q hq
  simp only[oJ] at h
  split at h
  ·rename_i h0
   rcases List.mem_cons.1 hq with rfl|hq
   ·exact Bh h0
   ·exact ih h q hq
  ·rename_i h0; exact absurd h h0
theorem TA{k:Int}(h:sV k 1=true):k=1\/k=2\/k=3:=by
 unfold sV at h
 cases h1:(k==1) with
 |true=>exact .inl (beq_iff_eq.1 h1)
 |false =>
  cases h2:(k==2) with
  |true=>exact .inr (.inl (beq_iff_eq.1 h2))
  |false =>
   cases h3:(k==3) with
   |true=>exact .inr (.inr (beq_iff_eq.1 h3))
   |false=>rw[h1,h2,h3] at h; cases hb:(k==4||k==5)<;>rw[hb] at h<;>cases h
structure aal(n:Nat)(p:aS)(r:Rule):Prop where
 place:xQ n r
 kind:r.kind=1\/r.kind=2\/r.kind=3
 aej:sK n r.all
 ex1:r.kind≠1->r.ex=[]/\r.all=[]
 rd:oI r.read p.values.length=false\/r.read= -1
 wr:oI r.write p.values.length=false\/r.write= -1
theorem qU{p:aS}{v:Int}(h:jy p v=0):oI v p.values.length=false\/v= -1:=by
 unfold jy eG at h
 have h': ¬ (v< -1\/v>=(p.values.length:Int)):=by
  intro q
  have:(decide (v< -1)||decide (v>=(p.values.length:Int)))=true:=by simpa using q
  rw[this] at h; exact absurd h (by decide)
 by_cases e:v= -1
 ·exact .inr e
 ·left
  simp only[oI,Bool.or_eq_false_iff,decide_eq_false_iff_not]; omega
theorem acv{p:aS}{i:Nat}(hv:D9 p)(ht:p.topology=1)(hi:i<p.rules.length):aal p.states.length p (p.rules.getD i default):=by
 have h:=hv.rule i hi
 have hpos:=hv.pos
 simp only[gG,pK] at h
 generalize (p.rules.getD i default)=r at h ⊢
 obtain⟨_,h⟩:=bz (fun _=>by decide) h
 obtain⟨hb,h⟩:=bz (fun _=>by decide) h
 obtain⟨he,h⟩:=bz nz h
 rw[FQ,Bool.or_eq_false_iff] at he
 rw[ht,Bool.or_eq_false_iff] at hb
 have hk:=TA (show sV r.kind 1=true by simpa using hb.1)
 have hu:lD r 1=false:=by rw[yT (by omega)]; exact hb.2
 have hun:=Jr hu
 have hpf:r.kind≠2->r.kind≠5->r.jk=0/\r.CO=0:=by
  intro k1 k2
  simp only[lD,Rx,Bool.or_eq_false_iff] at hu
  have h3:=hu.2.2.1
  simp only[beq_eq_false_iff_ne.2 k1,beq_eq_false_iff_ne.2 k2,Bool.not_false,Bool.true_and,Bool.or_eq_false_iff] at h3
  exact⟨PS h3.1,PS h3.2⟩
 have h00:(0:Int)<=0/\(0:Int)<p.states.length:=⟨by omega,by omega⟩
 have pn:sK p.states.length []:=fun q hq=>by cases hq
 rcases hk with e|e|e
 ·rw[e] at h
  have g:=jw h
  have⟨a,b⟩:=hpf (by omega) (by omega)
  exact⟨⟨tH he.1,tH he.2,by rw[a]; exact h00,by rw[b]; exact h00,fun q=>by omega,zT (g (dX r.ex p.states.length) (by simp))⟩,.inl e,zT (g (dX r.all p.states.length) (by simp)),fun q=>absurd e q,qU (g (jy p r.read) (by simp)),qU (g (jy p r.write) (by simp))⟩
 ·rw[e] at h
  have g:=jw h
  obtain⟨_,u1,u2,_⟩:=hun.1 (by omega)
  exact⟨⟨tH he.1,tH he.2,Bh (g (cu r.jk p.states.length) (by simp)),Bh (g (cu r.CO p.states.length) (by simp)),fun q=>by omega,by rw[u1]; exact pn⟩,.inr (.inl e),by rw[u2]; exact pn,fun _=>⟨u1,u2⟩,qU (g (jy p r.read) (by simp)),qU (g (jy p r.write) (by simp))⟩
 ·rw[e] at h
  have g:=jw h
  have⟨a,b⟩:=hpf (by omega) (by omega)
  obtain⟨_,u1,u2,_⟩:=hun.1 (by omega)
  have hr:=g (CS r.response p.states.length) (by simp)
  unfold CS at hr
  obtain⟨r1,r2⟩:=bz (fun _=>by decide) hr
  exact⟨⟨tH he.1,tH he.2,by rw[a]; exact h00,by rw[b]; exact h00,fun _=>⟨by have q9:(r.response.length:Int)=p.states.length:=(by simpa using r1); omega,Na r2⟩,by rw[u1]; exact pn⟩,.inr (.inr e),by rw[u2]; exact pn,fun _=>⟨u1,u2⟩,qU (g (jy p r.read) (by simp)),qU (g (jy p r.write) (by simp))⟩
theorem TB{p:aS}(h:sN p=true):p.topology=1:=by
 simp only[sN,Bool.and_eq_true,beq_iff_eq] at h; exact h.1.1.1
structure aek(p:aS)(e:Elem):Prop where
 valid:D9 p
 plain:sN p=true
 len:e.counts.length=p.states.length
 nums:Fq e.counts
 val:0<=e.value/\e.value<max 1 (p.values.length:Int)
theorem Js{b:Bool}{n:Int}(h:eG b n=0)(hn:n≠0):b=false:=by
 cases b with
 |false=>rfl
 |true=>exact absurd h hn
theorem gW{α:Type}{c:Bool}{a b:Option α}{x:α}(h:(bif c then a else b)=some x):a=some x\/b=some x:=by
 cases c with
 |true=>exact .inl h
 |false=>exact .inr h
theorem Jt{c:List Int}{i d:Int}:(lq c i d).length=c.length:=by simp[lq]
theorem qV{c:List Int}{i:Int}:(bJ c i).length=c.length:=by simp[bJ]
theorem TD{r:Rule}{e x:Elem}(h:dL r e=some x):x.counts.length=e.counts.length:=by
 simp only[dL] at h
 have out: ∀ {c:List Int} {v:Int},c.length=e.counts.length->some (⟨v,lq c r.to 1⟩:Elem)=some x->x.counts.length=e.counts.length:=by
  intro c v hc h; cases h; rw[Jt,hc]
 rcases gW h with h|h
 ·cases h
 rcases gW h with h|h
 ·rcases gW h with h|h
  ·cases h
  ·exact out qV h
 rcases gW h with h|h
 ·rcases gW h with h|h
  ·cases h
  ·exact out (by rw[Jt,qV,qV]) h
 rcases gW h with h|h
 ·exact out (by rw[CQ,qV]) h
 ·exact out qV h
structure wH(q:Prop'):Prop where
 start:q.start.length<2^30
 bad:q.bad.length<2^30
 adjacent:q.adjacent.length<2^30
 goal:q.goal.length<2^30
 cnt: ∀ i,(q.bad.getD i default).states.length<2^30
def uI(c:Cnt):Bool:=((c.states.length:Int)==0||decide (c.least<1))||decide (c.least>3)
def VQ(n:Int)(c:Cnt):Int:=aU [dX c.states n,eG (uI c) 1]
def zU(l:List Cnt)(n:Int):Int:=aU (l.map (VQ n))
def PU(p:aS)(l:List Int):Int:=bif (l.length:Int)==0 then 0 else bif p.topology==1 then 6 else bif (l.length:Int) !=2 then 1 else aU [cu (l.getD 0 0) p.states.length,cu (l.getD 1 0) p.states.length]
def xU(q:Prop'):Bool:=((q.kind==1)&&decide ((q.goal.length:Int)>0))||(!(q.kind==1)&&(decide ((q.bad.length:Int)>0)||decide ((q.adjacent.length:Int)>0)))
def rX(p:aS)(q:Prop'):Int :=
 let n:Int:=p.states.length
 bif dn p !=0 then dn p else bif !(validName q.name) then 2 else bif !(q.kind==1)&&q.kind !=2 then 1 else bif xU q then 1 else
 bif dX q.start n !=0 then dX q.start n else bif q.start.any (fun x=> !(Ru p.initial x)) then 5 else
 bif !(q.kind==1) then aU [dX q.goal n,eG ((q.goal.length:Int)==0) 1] else
 aU [eG (((q.bad.length:Int)==0)&&((q.adjacent.length:Int)==0)) 1,eG (decide ((q.bad.length:Int)>3)) 4,zU q.bad n,PU p q.adjacent]
theorem S.lK(l:List Cnt)(n:Int)(f:Bool)(hl:l.length<2^30)(hs: ∀ i,(l.getD i default).states.length<2^30):ak Tryz.prog 122 [.row 3 f (.cnts l),.int n] (.int (zU l n)):=by
 refine ak.of Bd.lK (by simp) rfl rfl ?_
 refine aQ.same [1,8,9] (fun i:Nat=>[(10,.int i)]) (fun i=>i<=l.length/\zU l n=aU ((l.drop i).map (VQ n))) (fun i=>l.length-i) 0 rfl (by decide) rfl (fun _=>rfl) ⟨by omega,by simp[zU]⟩ ⟨⟨_,rfl,rfl⟩,trivial⟩ ?_
 refine⟨rfl,?_⟩
 rintro i ⟨hi,hall⟩
 refine⟨fun h3=>?_,fun h3=>?_⟩
 ·have hi':i<l.length:=by simpa using h3
  rw[aZ default hi',List.map_cons] at hall
  simp only[aU] at hall
  have hc:=hs i
  refine .mk (by simp only[Rw.rng] at *; omega) ?_
  refine ah.pure (S.dO (l.getD i default).states n false (by omega)) rfl ?_
  repeat(refine VC.mk (by first|exact id|(intro h; rw[h]; rfl)) ?_)
  refine ah.pure (S.bU (uI (l.getD i default)) 1) rfl ?_
  refine ah.pure (S.bP [dX (l.getD i default).states n,eG (uI (l.getD i default)) 1] true (show 2<2^40 by decide)) rfl ?_
  refine⟨fun h4=>?_,fun h4=>?_⟩
  ·conv=>whnf
   refine au.int ?_
   have h4':VQ n (l.getD i default)≠0:=nz h4
   rw[hall,if_neg h4']; rfl
  ·conv=>whnf
   refine .mk (by simp only[okI] at *; omega) ?_
   conv=>whnf
   have h4':VQ n (l.getD i default)=0:=Ce h4
   rw[if_pos h4'] at hall
   refine⟨i+1,⟨by omega,hall⟩,by omega,⟨⟨_,rfl,rfl⟩,trivial⟩,?_,rfl⟩
   repeat' (first|exact trivial|exact⟨_,rfl,rfl⟩|constructor)
 ·have hi':l.length<=i:=by simpa using h3
  rw[List.drop_eq_nil_of_le hi'] at hall
  exact au.int (by rw[hall]; rfl)
theorem S.kD(p:aS)(l:List Int)(f:Bool)(_hl:l.length<2^30):ak Tryz.prog 123 [.dat (.eu p),.row 0 f (.ints l)] (.int (PU p l)):=by
 refine ak.of Bd.kD (by simp) rfl rfl ?_
 refine⟨fun h1=>?_,fun h1=>?_⟩
 ·conv=>whnf
  exact au.int (by rw[PU,h1]; rfl)
 refine⟨fun h2=>?_,fun h2=>?_⟩
 ·conv=>whnf
  exact au.int (by rw[PU,h1,h2]; rfl)
 refine⟨fun h3=>?_,fun h3=>?_⟩
 ·conv=>whnf
  exact au.int (by rw[PU,h1,h2,h3]; rfl)
 have h4:l.length=2:=by
  have:(l.length:Int)=2:=by simpa using h3
  omega
 repeat(refine VC.mk (by simp only[Rw.rng] at *; omega) ?_)
 refine ah.pure (S.bV (l.getD 0 0) p.states.length) rfl ?_
 refine ah.pure (S.bV (l.getD 1 0) p.states.length) rfl ?_
 refine ah.pure (S.bP [cu (l.getD 0 0) p.states.length,cu (l.getD 1 0) p.states.length] true (show 2<2^40 by decide)) rfl ?_
 exact au.int (by rw[PU,h1,h2,h3]; rfl)
theorem S.dN(p:aS)(q:Prop')(hp:dK p)(hq:wH q):ak Tryz.prog 92 [.dat (.eu p),.dat (.prop q)] (.int (rX p q)):=by
 have g1:=hp.states; have g5:=hp.initial
 have q1:=hq.start; have q2:=hq.bad; have q3:=hq.adjacent; have q4:=hq.goal
 refine ak.of Bd.dN (by simp) rfl rfl ?_
 refine ah.pure (S.iL p hp) rfl ?_
 refine⟨fun h1=>?_,fun h1=>?_⟩
 ·conv=>whnf
  exact au.int (by rw[rX,h1]; rfl)
 refine ah.pure (S.fP q.name) rfl ?_
 refine⟨fun h2=>?_,fun h2=>?_⟩
 ·conv=>whnf
  exact au.int (by rw[rX,h1,h2]; rfl)
 repeat(refine VC.mk id ?_)
 refine⟨fun h3=>?_,fun h3=>?_⟩
 ·conv=>whnf
  exact au.int (by rw[rX,h1,h2,h3]; rfl)
 repeat(refine VC.mk id ?_)
 refine⟨fun h4=>?_,fun h4=>?_⟩
 ·conv=>whnf
  refine Fork.mk (fun _=>?_) (fun q=>absurd (q.symm.trans (h4)) Bool.false_ne_true)
  exact au.int (by rw[rX,h1,h2,h3,show xU q=true by rw[xU]; erw [h4]; rfl]; rfl)
 repeat(refine VC.mk (by first|exact id|(intro h; simp_all; done)) ?_)
 refine⟨fun h5=>?_,fun h5=>?_⟩
 ·conv=>whnf
  exact au.int (by rw[rX,h1,h2,h3,show xU q=true by rw[xU]; erw [h5]; simp]; rfl)
 have h45:xU q=false:=by rw[xU]; erw [h4,h5]; rfl
 refine ah.pure (S.dO q.start p.states.length false (by omega)) rfl ?_
 refine⟨fun h6=>?_,fun h6=>?_⟩
 ·conv=>whnf
  exact au.int (by rw[rX,h1,h2,h3,h45,h6]; rfl)
 refine aQ.same [2,3,6,7,65,66] (fun i:Nat=>[(67,.int i)]) (fun i=>i<=q.start.length/\(q.start.take i).any (fun x=> !(Ru p.initial x))=false) (fun i=>q.start.length-i) 0 rfl (by decide) rfl (fun _=>rfl) ⟨by omega,by simp⟩ ⟨⟨_,rfl,rfl⟩,trivial⟩ ?_
 refine⟨rfl,?_⟩
 rintro i ⟨hi,hall⟩
 refine⟨fun h7=>?_,fun h7=>?_⟩
 ·have hi':i<q.start.length:=by simpa using h7
  refine .mk (by simp only[Rw.rng] at *; omega) ?_
  refine ah.pure (S.slices_Contains_int p.initial (q.start.getD i 0) false (by omega)) rfl ?_
  refine⟨fun h8=>?_,fun h8=>?_⟩
  ·conv=>whnf
   exact au.int (by rw[rX,h1,h2,h3,h45,h6,mQ (d:=0) hi' h8]; rfl)
  ·conv=>whnf
   refine .mk (by simp only[okI] at *; omega) ?_
   refine⟨i+1,⟨by omega,?_⟩,by omega,⟨⟨_,rfl,rfl⟩,trivial⟩,?_,rfl⟩
   ·rw[pO (d:=0) hi' hall]; exact h8
   ·repeat' (first|exact trivial|exact⟨_,rfl,rfl⟩|constructor)
 have hi':q.start.length<=i:=by simpa using h7
 rw[List.take_of_length_le hi'] at hall
 refine⟨fun h8=>?_,fun h8=>?_⟩
 ·conv=>whnf
  refine ah.pure (S.dO q.goal p.states.length false (by omega)) rfl ?_
  refine ah.pure (S.bU ((q.goal.length:Int)==0) 1) rfl ?_
  refine ah.pure (S.bP [dX q.goal p.states.length,eG ((q.goal.length:Int)==0) 1] true (show 2<2^40 by decide)) rfl ?_
  exact au.int (by rw[rX,h1,h2,h3,h45,h6,hall,h8]; rfl)
 repeat(refine VC.mk id ?_)
 refine ah.pure (S.bU (((q.bad.length:Int)==0)&&((q.adjacent.length:Int)==0)) 1) rfl ?_
 refine ah.pure (S.bU (decide ((q.bad.length:Int)>3)) 4) rfl ?_
 refine ah.pure (S.lK q.bad p.states.length false q2 hq.cnt) rfl ?_
 refine ah.pure (S.kD p q.adjacent false q3) rfl ?_
 refine ah.pure (S.bP [eG (((q.bad.length:Int)==0)&&((q.adjacent.length:Int)==0)) 1,eG (decide ((q.bad.length:Int)>3)) 4,zU q.bad p.states.length,PU p q.adjacent] true (show 4<2^40 by decide)) rfl ?_
 exact au.int (by rw[rX,h1,h2,h3,h45,h6,hall,h8]; rfl)
end Go.Proofs.YtbigdcimbhgjbaaGreatDoor
namespace Go.Proofs.YtbigdcimbhgjbaaGreatDoor
open Go.Ab Go.Proofs
set_option maxRecDepth 100000
theorem au.adF{h:Hz}{j:Nat}{l:List Int}(q:h.get j=some (jV l)):au (.row 0 false (.ints l)) (.own j) h:=⟨Jq trivial q⟩
theorem au.acw{h:Hz}{k k':Nat}{r:Rw}(e:r.len=0):au (.row k false r) (.row k' true .nil) h:=⟨by
 have:r.aX=[]:=List.eq_nil_of_length_eq_zero (by rw[Rw.dP]; exact e)
 show T.sub (fun _=>True) h.aj (.sl k false r.aX) (.sl k' true [])
 rw[this]; simp[T.sub]⟩
theorem S.Ju(l:List Int)(f:Bool)(hl:l.length<2^30):ak Tryz.prog 89 [.row 0 f (.ints l)] (.row 0 false (.ints l)):=by
 refine ak.of Bd.jI (by simp) rfl rfl ?_
 refine VR.mk (fun hz=>?_) ?_
 ·conv=>whnf
  refine Fork.mk (fun _=>?_) (fun q=>absurd (q.symm.trans ((rfl:true=true))) Bool.false_ne_true)
  exact au.acw hz
 ·conv=>whnf
  refine Fork.mk (fun q=>absurd (q.symm.trans ((rfl:false=false))).symm Bool.false_ne_true) (fun _=>?_)
  refine .mk (by simp only[kQ,nO,Rw.len]; omega) ?_
  repeat(refine VC.mk (by simp only[kQ,nO,Rw.len]; omega) ?_)
  exact au.adF rfl
def yU(p:aS)(q:Prop'):List Int:=bif decide ((q.start.length:Int)>0) then q.start else p.initial
theorem S.lM(p:aS)(q:Prop')(hp:dK p)(hq:wH q)(hv:rX p q=0):ak Tryz.prog 93 [.dat (.eu p),.dat (.prop q)] (.fH [.row 0 false (.ints (yU p q)),.int 0]):=by
 have g5:=hp.initial; have q1:=hq.start
 refine ak.of Bd.lM (by simp) rfl rfl ?_
 refine ah.pure (S.dN p q hp hq) rfl ?_
 refine Fork.mk (fun q=>absurd (q.symm.trans ((by simp[hv]))).symm Bool.false_ne_true) (fun _=>?_)
 refine⟨fun h2=>?_,fun h2=>?_⟩
 ·conv=>whnf
  refine ah.pure (S.Ju q.start false q1) rfl ?_
  exact au.eqv (by rw[yU,show decide ((q.start.length:Int)>0)=true from h2]; rfl)
 ·conv=>whnf
  refine ah.pure (S.Ju p.initial false g5) rfl ?_
  exact au.eqv (by rw[yU,show decide ((q.start.length:Int)>0)=false from h2]; rfl)
theorem TF{p:aS}{q:Prop'}(hp:dK p)(hq:wH q):(yU p q).length<2^30:=by
 unfold yU
 cases decide ((q.start.length:Int)>0)
 ·exact hp.initial
 ·exact hq.start
end Go.Proofs.YtbigdcimbhgjbaaGreatDoor
