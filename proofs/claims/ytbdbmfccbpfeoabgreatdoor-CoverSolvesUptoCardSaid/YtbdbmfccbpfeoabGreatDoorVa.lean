/-
 A part of the proof. No condition.
-/
import Derived.Test.YtbdbmfccbpfeoabGreatDoorNb
import Derived.Test.YtbdbmfccbpfeoabGreatDoorLg
namespace Go.Proofs.YtbdbmfccbpfeoabGreatDoor
open Go.Ab Go.Proofs
set_option maxRecDepth 100000
def dR(b:Bool)(e:Int):Int:=bif b then e else 0
theorem S.bT(b:Bool)(e:Int):aj Tryz.prog 47 [.bool b,.int e] (.int (dR b e)):=by
 refine aj.of Bd.bT (by simp) rfl rfl ?_;refine⟨fun h=>?_,fun h=>?_⟩
 ·conv=>whnf
  exact ak.int (by rw[h]; rfl)
 ·conv=>whnf
  exact ak.int (by rw[h]; rfl)
def pR(i n:Int):Bool:=decide (i<0)||decide (i>=n)
def dh(i n:Int):Int:=dR (pR i n) 5
theorem S.bV(i n:Int):aj Tryz.prog 77 [.int i,.int n] (.int (dh i n)):=by
 refine aj.of Bd.bV (by simp) rfl rfl ?_;repeat(refine VC.mk (by first|exact fun h=>⟨h,h⟩|(intro h; rw[h]; rfl)) ?_)
 refine ah.pure (S.bT (pR i n) 5) rfl ?_;exact ak.int rfl
def bC:List Int->Int
 |[]=>0
 |e::r=>if e=0 then bC r else e
theorem S.bM(l:List Int)(f:Bool)(hl:l.length<2^40):aj Tryz.prog 46 [.row 0 f (.ints l)] (.int (bC l)):=by
 refine aj.of Bd.bM (by simp) rfl rfl ?_;refine aA.same [5,6] (fun i:Nat=>[(7,.int i)]) (fun i=>i<=l.length/\bC l=bC (l.drop i)) (fun i=>l.length-i) 0 rfl (by decide) rfl (fun _=>rfl) ⟨by omega,by simp⟩ ⟨⟨_,rfl,rfl⟩,trivial⟩ ?_;refine⟨rfl,?_⟩;rintro i ⟨hi,hall⟩;refine⟨fun h3=>?_,fun h3=>?_⟩
 ·have hi':i<l.length:=by simpa using h3
  rw[bY 0 hi'] at hall;simp only[bC] at hall;refine .mk (by simp only[Rw.rng] at *; omega) ?_;refine⟨fun h4=>?_,fun h4=>?_⟩
  ·conv=>whnf
   refine ak.int ?_
   have:l.getD i 0≠0:=by simpa using h4
   rw[hall,bX this]; rfl
  ·conv=>whnf
   refine .mk (by simp only[okI] at *; omega) ?_;conv=>whnf
   have:l.getD i 0=0:=by simpa using h4
   rw[bk this] at hall;refine⟨i+1,⟨by omega,hall⟩,by omega,⟨⟨_,rfl,rfl⟩,trivial⟩,?_,rfl⟩;repeat' (first|exact trivial|exact⟨_,rfl,rfl⟩|constructor)
 ·conv=>whnf
  refine ak.int ?_;have hi':l.length<=i:=by simpa using h3
  rw[hall,cI hi']; rfl
def Ig:List Int->Bool
 |a::b::r=>decide (a<b)&&Ig (b::r)
 |_=>true
def jf(l:List Int)(n:Int):Int:=bif l.any (fun i=>pR i n) then 5 else bif Ig l then 0 else 1
theorem S.fA(l:List Int)(n:Int)(f:Bool)(hl:l.length<2^40):aj Tryz.prog 45 [.row 0 f (.ints l),.int n] (.int (jf l n)):=by
 refine aj.of Bd.fA (by simp) rfl rfl ?_;refine aA.same [0,1,8,9] (fun i:Nat=>[(10,.int i)]) (fun i=>i<=l.length/\(l.take i).any (fun i=>pR i n)=false) (fun i=>l.length-i) 0 rfl (by decide) rfl (fun _=>rfl) ⟨by omega,by simp⟩ ⟨⟨_,rfl,rfl⟩,trivial⟩ ?_;refine⟨rfl,?_⟩;rintro i ⟨hi,hall⟩;refine⟨fun h3=>?_,fun h3=>?_⟩
 ·have hi':i<l.length:=by simpa using h3
  repeat(refine VC.mk (by first|exact fun h=>⟨h,h⟩|(intro h; rw[h]; rfl)|(simp only[Rw.rng] at *; omega)) ?_)
  refine⟨fun h4=>?_,fun h4=>?_⟩
  ·conv=>whnf
   refine ak.int ?_;rw[jf,iE (d:=0) hi' h4]; rfl
  ·conv=>whnf
   refine .mk (by simp only[okI] at *; omega) ?_;refine⟨i+1,⟨by omega,?_⟩,by omega,⟨⟨_,rfl,rfl⟩,trivial⟩,?_,rfl⟩
   ·rw[jU (d:=0) hi' hall]; exact h4
   ·repeat' (first|exact trivial|exact⟨_,rfl,rfl⟩|constructor)
 ·have hi':l.length<=i:=by simpa using h3
  rw[bB hi'] at hall;refine aA.same [0] (fun i:Nat=>[(7,.int (i+1))]) (fun i=>(i<l.length\/i=0)/\Ig l=Ig (l.drop i)) (fun i=>l.length-i) 0 rfl (by decide) rfl (fun _=>rfl) ⟨by omega,by simp⟩ ⟨⟨_,rfl,rfl⟩,trivial⟩ ?_;refine⟨rfl,?_⟩;rintro i ⟨hi,hinc⟩;refine⟨fun h5=>?_,fun h5=>?_⟩
  ·have hi1:i+1<l.length:=by have:=ai h5; omega
   rw[bY 0 (show i<l.length by omega),bY 0 hi1] at hinc;simp only[Ig] at hinc;rw[<- bY 0 hi1] at hinc;repeat(refine VC.mk (by simp only[okI,Rw.rng] at *; omega) ?_)
   refine⟨fun h6=>?_,fun h6=>?_⟩
   ·conv=>whnf
    refine ak.int ?_;have e1:((i:Int)+1).toNat=i+1:=by omega
    have e2:((i:Int)+1-1).toNat=i:=by omega
    rw[e1,e2] at h6;have h6':l.getD (i+1) 0<=l.getD i 0:=ai h6;rw[jf,hall,hinc,cF (by omega)]; rfl
   ·conv=>whnf
    refine .mk (by simp only[okI] at *; omega) ?_;conv=>whnf
    have e1:((i:Int)+1).toNat=i+1:=by omega
    have e2:((i:Int)+1-1).toNat=i:=by omega
    rw[e1,e2] at h6;have h6': ¬ l.getD (i+1) 0<=l.getD i 0:=aL h6;rw[cJ (by omega),cw] at hinc;refine⟨i+1,⟨by omega,hinc⟩,by omega,⟨⟨_,rfl,rfl⟩,trivial⟩,?_,rfl⟩;repeat' (first|exact trivial|exact⟨_,rfl,rfl⟩|constructor)
  ·conv=>whnf
   refine ak.int ?_;have h5': ¬ ((i:Int)+1<l.length):=aL h5
   have:Ig l=true:=by
    rw[hinc];rcases hd:l.drop i with _|⟨a,_|⟨b,r⟩⟩
    ·rfl
    ·rfl
    ·have:=dt List.length hd;simp only[cB,bL] at this;omega
   rw[jf,hall,this]; rfl
def adr(n:Int):Bool:=decide (n>= -100)&&decide (n<=100)
theorem S.iO(n:Int):aj Tryz.prog 101 [.int n] (.bool (adr n)):=by
 refine aj.of Bd.iO (by simp) rfl rfl ?_;repeat(refine VC.mk id ?_)
 exact ak.bool rfl
def U0(l:Lin):Bool:=adr l.c&&adr l.n&&adr l.t&&adr l.f
theorem S.jT(l:Lin):aj Tryz.prog 73 [.dat (.lin l)] (.bool (U0 l)):=by
 refine aj.of Bd.jT (by simp) rfl rfl ?_;refine ah.pure (S.iO l.c) rfl ?_;repeat(refine VC.mk id ?_)
 refine ah.gW (fun _=>S.iO l.n) rfl ?_;repeat(refine VC.mk id ?_)
 refine ah.gW (fun _=>S.iO l.t) rfl ?_;repeat(refine VC.mk id ?_)
 refine ah.gW (fun _=>S.iO l.f) rfl ?_;refine VC.mk id ?_;exact ak.bool rfl
def jV(p:aI)(v:Int):Int:=dR (decide (v< -1)||decide (v>=p.values.length)) 5
theorem S.gJ(p:aI)(v:Int):aj Tryz.prog 107 [.dat (.fQ p),.int v] (.int (jV p v)):=by
 refine aj.of Bd.gJ (by simp) rfl rfl ?_;repeat(refine VC.mk (by first|exact id|exact fun h=>⟨h,h⟩|(intro h; rw[h]; rfl)) ?_)
 refine ah.pure (S.bT _ 5) rfl ?_;exact ak.int rfl
theorem U8{a:Int}(h:(a !=0)=true):a≠0:=by simpa using h
theorem BM{a:Int}(h:(a !=0)=false):a=0:=by simpa using h
def vX(k t:Int):Bool:=bif k==1||k==2||k==3 then t==1 else bif k==4||k==5 then !(t==1) else false
theorem S.qX(k t:Int):aj Tryz.prog 104 [.int k,.int t] (.bool (vX k t)):=by
 refine aj.of Bd.qX (by simp) rfl rfl ?_;refine⟨fun h1=>?_,fun h1=>?_⟩
 ·conv=>whnf
  refine Fork.mk (fun _=>?_) (fun q=>absurd (q.symm.trans (h1)) aq);exact ak.bool (by simp[vX,h1])
 ·conv=>whnf
  refine⟨fun h2=>?_,fun h2=>?_⟩
  ·conv=>whnf
   refine Fork.mk (fun _=>?_) (fun q=>absurd (q.symm.trans (h2)) aq);exact ak.bool (by simp[vX,h1,h2])
  ·conv=>whnf
   refine⟨fun h3=>?_,fun h3=>?_⟩
   ·conv=>whnf
    exact ak.bool (by simp[vX,h1,h2,h3])
   ·conv=>whnf
    refine⟨fun h4=>?_,fun h4=>?_⟩
    ·conv=>whnf
     refine Fork.mk (fun _=>?_) (fun q=>absurd (q.symm.trans (h4)) aq);exact ak.bool (by simp[vX,h1,h2,h3,h4,bne])
    ·conv=>whnf
     refine⟨fun h5=>?_,fun h5=>?_⟩
     ·conv=>whnf
      exact ak.bool (by simp[vX,h1,h2,h3,h4,h5,bne])
     ·conv=>whnf
      exact ak.bool (by simp[vX,h1,h2,h3,h4,h5])
def ru:List Int->Int->Int
 |[],_=>0
 |x::r,n=>if dh x n=0 then ru r n else dh x n
def F7(l:List Int)(n:Int):Int:=bif (l.length:Int) !=n then 1 else ru l n
theorem S.kG(l:List Int)(n:Int)(f:Bool)(hl:l.length<2^40):aj Tryz.prog 108 [.row 0 f (.ints l),.int n] (.int (F7 l n)):=by
 refine aj.of Bd.kG (by simp) rfl rfl ?_;refine⟨fun h=>?_,fun h=>?_⟩
 ·conv=>whnf
  exact ak.int (by rw[F7,h]; rfl)
 ·conv=>whnf
  refine aA.same [0,1,12,13] (fun i:Nat=>[(14,.int i)]) (fun i=>i<=l.length/\ru l n=ru (l.drop i) n) (fun i=>l.length-i) 0 rfl (by decide) rfl (fun _=>rfl) ⟨by omega,by simp⟩ ⟨⟨_,rfl,rfl⟩,trivial⟩ ?_;refine⟨rfl,?_⟩;rintro i ⟨hi,hall⟩;refine⟨fun h3=>?_,fun h3=>?_⟩
  ·have hi':i<l.length:=by simpa using h3
   rw[bY 0 hi'] at hall;simp only[ru] at hall;refine .mk (by simp only[Rw.rng] at *; omega) ?_;refine ah.pure (S.bV (l.getD i 0) n) rfl ?_;refine⟨fun h4=>?_,fun h4=>?_⟩
   ·conv=>whnf
    refine ak.int ?_
    have:dh (l.getD i 0) n≠0:=by simpa using h4
    rw[F7,h,bO,hall,bX this]
   ·conv=>whnf
    refine .mk (by simp only[okI] at *; omega) ?_;conv=>whnf
    have:dh (l.getD i 0) n=0:=by simpa using h4
    rw[bk this] at hall;refine⟨i+1,⟨by omega,hall⟩,by omega,⟨⟨_,rfl,rfl⟩,trivial⟩,?_,rfl⟩;repeat' (first|exact trivial|exact⟨_,rfl,rfl⟩|constructor)
  ·conv=>whnf
   refine ak.int ?_;have hi':l.length<=i:=by simpa using h3
   rw[F7,h,bO,hall,cI hi']; rfl
def guardE(p:aI)(g:BP):Int:=bC [dh g.message p.messages.length,dR (decide (g.GZ<1)||decide (g.GZ>100)) 1,dR (!(U0 g.bound)) 4]
def kK(p:aI):List BP->Int
 |[]=>0
 |g::r=>if guardE p g=0 then kK p r else guardE p g
def yZ(p:aI)(l:List BP):Int:=if kK p l=0 then dR (decide ((l.length:Int)>2)) 4 else kK p l
theorem S.nS(p:aI)(l:List BP)(f:Bool)(hl:l.length<2^40):aj Tryz.prog 106 [.dat (.fQ p),.row 7 f (.sF l)] (.int (yZ p l)):=by
 refine aj.of Bd.nS (by simp) rfl rfl ?_;refine aA.same [1,2,8,9] (fun i:Nat=>[(10,.int i)]) (fun i=>i<=l.length/\kK p l=kK p (l.drop i)) (fun i=>l.length-i) 0 rfl (by decide) rfl (fun _=>rfl) ⟨by omega,by simp⟩ ⟨⟨_,rfl,rfl⟩,trivial⟩ ?_;refine⟨rfl,?_⟩;rintro i ⟨hi,hall⟩;refine⟨fun h3=>?_,fun h3=>?_⟩
 ·have hi':i<l.length:=by simpa using h3
  rw[bY default hi'] at hall;simp only[kK] at hall;refine .mk (by simp only[Rw.rng] at *; omega) ?_;refine ah.pure (S.bV (l.getD i default).message p.messages.length) rfl ?_;repeat(refine VC.mk (by first|exact id|(intro h; rw[h]; rfl)) ?_)
  refine ah.pure (S.bT (decide ((l.getD i default).GZ<1)||decide ((l.getD i default).GZ>100)) 1) rfl ?_;refine ah.pure (S.jT (l.getD i default).bound) rfl ?_;refine ah.pure (S.bT (!(U0 (l.getD i default).bound)) 4) rfl ?_;refine ah.pure (S.bM [dh (l.getD i default).message p.messages.length,dR (decide ((l.getD i default).GZ<1)||decide ((l.getD i default).GZ>100)) 1,dR (!(U0 (l.getD i default).bound)) 4] true (show 3<2^40 by decide)) rfl ?_;refine⟨fun h4=>?_,fun h4=>?_⟩
  ·conv=>whnf
   refine ak.int ?_;have h4':guardE p (l.getD i default)≠0:=U8 h4;rw[bX h4'] at hall;rw[yZ,hall,bX h4']; rfl
  ·conv=>whnf
   refine .mk (by simp only[okI] at *; omega) ?_;conv=>whnf
   have h4':guardE p (l.getD i default)=0:=BM h4;rw[bk h4'] at hall;refine⟨i+1,⟨by omega,hall⟩,by omega,⟨⟨_,rfl,rfl⟩,trivial⟩,?_,rfl⟩;repeat' (first|exact trivial|exact⟨_,rfl,rfl⟩|constructor)
 ·have hi':l.length<=i:=by simpa using h3
  rw[cI hi'] at hall;refine ah.pure (S.bT (decide ((l.length:Int)>2)) 4) rfl ?_;exact ak.int (by rw[yZ,hall]; rfl)
structure vK(r:Rule):Prop where
 response:r.response.length<2^30
 guards:r.guards.length<2^30
 ex:r.ex.length<2^30
 all:r.all.length<2^30
 send:r.send.length<2^30
 left:r.left.length<2^30
 right:r.right.length<2^30
 parent:r.parent.length<2^30
def FX(r:Rule):Bool :=
 decide ((r.response.length:Int)+r.guards.length+r.ex.length+r.all.length+r.send.length+r.left.length+r.right.length+r.parent.length>0)||r.jo !=0||r.Ap !=0||r.pos !=0||r.direction !=0||r.read != -1||r.write != -1
def kY(r:Rule)(t:Int):Bool :=
 bif r.kind==1 then FX {r with guards:=[],ex:=[],all:=[],send:=[],read:= -1,write:= -1} else
 bif r.kind==2 then(bif decide ((r.response.length:Int)>0) then true else FX {r with jo:=0,Ap:=0,response:=[],read:= -1,write:= -1}) else
 bif r.kind==3 then FX {r with response:=[],read:= -1,write:= -1} else
 bif r.kind==4 then(bif t==4 then FX {r with pos:=0,left:=[],right:=[],parent:=[]} else FX {r with pos:=0,left:=[],right:=[]}) else
 bif r.kind==5 then FX {r with jo:=0,Ap:=0,direction:=0} else FX r
theorem S.mJ(r:Rule)(t:Int)(hs:vK r):aj Tryz.prog 105 [.dat (.rule r),.int t] (.bool (kY r t)):=by
 obtain⟨g1,g2,g3,g4,g5,g6,g7,g8⟩:=hs;refine aj.of Bd.mJ (by simp) rfl rfl ?_;refine⟨fun h1=>?_,fun h1=>?_⟩
 ·conv=>whnf
  repeat(refine VC.mk (by first|exact id|(intro h; rw[h]; rfl)|(simp only[okI] at *; omega)) ?_)
  exact ak.bool (by simp[kY,FX,h1])
 ·conv=>whnf
  refine⟨fun h2=>?_,fun h2=>?_⟩
  ·conv=>whnf
   refine⟨fun h6=>?_,fun h6=>?_⟩
   ·conv=>whnf
    exact ak.bool (by rw[kY,h1,h2,show decide ((r.response.length:Int)>0)=true from h6]; rfl)
   ·conv=>whnf
    repeat(refine VC.mk (by first|exact id|(intro h; rw[h]; rfl)|(simp only[okI] at *; omega)) ?_)
    exact ak.bool (by rw[kY,h1,h2,show decide ((r.response.length:Int)>0)=false from h6]; simp[FX])
  ·conv=>whnf
   refine⟨fun h3=>?_,fun h3=>?_⟩
   ·conv=>whnf
    repeat(refine VC.mk (by first|exact id|(intro h; rw[h]; rfl)|(simp only[okI] at *; omega)) ?_)
    exact ak.bool (by simp[kY,FX,h1,h2,h3])
   ·conv=>whnf
    refine⟨fun h4=>?_,fun h4=>?_⟩
    ·conv=>whnf
     refine⟨fun h7=>?_,fun h7=>?_⟩
     ·conv=>whnf
      repeat(refine VC.mk (by first|exact id|(intro h; rw[h]; rfl)|(simp only[okI] at *; omega)) ?_)
      exact ak.bool (by simp[kY,FX,h1,h2,h3,h4,h7])
     ·conv=>whnf
      repeat(refine VC.mk (by first|exact id|(intro h; rw[h]; rfl)|(simp only[okI] at *; omega)) ?_)
      exact ak.bool (by simp[kY,FX,h1,h2,h3,h4,h7])
    ·conv=>whnf
     refine⟨fun h5=>?_,fun h5=>?_⟩
     ·conv=>whnf
      repeat(refine VC.mk (by first|exact id|(intro h; rw[h]; rfl)|(simp only[okI] at *; omega)) ?_)
      exact ak.bool (by simp[kY,FX,h1,h2,h3,h4,h5])
     ·conv=>whnf
      repeat(refine VC.mk (by first|exact id|(intro h; rw[h]; rfl)|(simp only[okI] at *; omega)) ?_)
      exact ak.bool (by simp[kY,FX,h1,h2,h3,h4,h5])
def ads(h:Hz):Hz->Prop
 |[]=>True
 |(i,o)::r=>h.get i=o/\ads h r
theorem aaA{h:Hz}: ∀ {h0:Hz},ads h h0-> ∀ {i:Nat} {o:OV},h0.get i=some o->h.get i=some o:=by
 intro h0;induction h0 with
 |nil=>intro _ i o e; cases e
 |cons p r ih =>
  obtain⟨j,u⟩:=p;intro hs i o e;simp only[Hz.get] at e;cases hb:Nat.beq j i with
  |true=>rw[hb] at e; simp only[bS] at e; rw[<- dv hb,hs.1,e]
  |false=>rw[hb] at e; exact ih hs.2 e
def aaB:Hz->Bool
 |[]=>true
 |(_,some o)::r=>o.DX&&aaB r
 |(_,none)::r=>aaB r
theorem Vf: ∀ {h0:Hz},aaB h0=true-> ∀ {i:Nat} {o:OV},h0.get i=some o->o.DX=true:=by
 intro h0;induction h0 with
 |nil=>intro _ i o e; cases e
 |cons p r ih =>
  obtain⟨j,u⟩:=p;intro hs i o e;simp only[Hz.get] at e;cases hb:Nat.beq j i with
  |true =>
   rw[hb] at e; simp only[bS] at e; subst e;simp only[aaB,aD] at hs; exact hs.1
  |false =>
   rw[hb] at e;refine ih ?_ e;cases u with
   |none=>exact hs
   |some o=>simp only[aaB,aD] at hs; exact hs.2
theorem OV.Vg{o:OV}(h:o.DX=true):T.aQ (fun _=>False) o.au.l:=OV.A8 h
theorem iT.same{nx:Nat}{h0 h:Hz}{n:Nat}{post:T->Hp->Prop}{v:V}(hf:v.free=true)(hs:ads h h0)(hg:JG nx h0=true)(hfr:aaB h0=true)(hp:post v.aH h0.ay):iT h0 n post v h:=by
 have hG:=Hl hg;have get: ∀ i ob,h0.ay i=some ob-> ∃ o,h0.get i=some o/\ob=o.au:=fun i ob e=>by
  simp only[Hz.ay,bh] at e;obtain⟨o,e1,e2⟩:=e;exact⟨o,e1,e2.symm⟩
 have hfree:=V.o9 v hf;refine⟨fun _=>False,id,v.aH,h0.ay,hp,?_,fun i ob hi=>?_,fun i j _ _ e=>e,T.bg (fun _ h=>h.elim) _ (fM hfree),fun i ob hi=>?_,fun i _ _=>rfl⟩
 ·rw[Wp]; exact aC _
 ·obtain⟨o,e1,rfl⟩:=get i ob hi;refine⟨o.au,aO (aaA hs e1),fun h=>h,rfl,rfl,?_,zn (hG i _ hi).2.2⟩;rw[wE _ (OV.Vg (Vf hfr e1))]; exact dK _
 ·obtain⟨o,e1,rfl⟩:=get i ob hi;exact⟨.inl (by rw[hi]; rfl),T.aB (fun _ h=>h.elim) _ (OV.Vg (Vf hfr e1))⟩
abbrev hRP(p:aI)(r:Rule):Hz:=[(7,some (.box 78 19 (.dat (.rule r)))),(0,some (.box 27 11 (.dat (.fQ p))))]
theorem S.Rx(p:aI)(r x:Rule)(n:Nat):aP Tryz.prog 103 (V.aU [.dat (.rule x),.ptr 7 0 0]) (hRP p r).ay n (fun t hp=>t= .bool (x.name==r.name)/\hp=(hRP p r).ay):=by
 refine oJ.of (nx:=8) Bd.oI (by simp) ⟨_,_,rfl,rfl⟩ rfl rfl ?_;exact iT.same (nx:=8) rfl ⟨rfl,rfl,trivial⟩ rfl rfl ⟨rfl,rfl⟩
def Ir(s:Str):List Rule->Nat->Int
 |[],_=> -1
 |x::r,i=>bif x.name==s then(i:Int) else Ir s r (i+1)
theorem S.aaC(p:aI)(r:Rule)(l:List Rule)(f:Bool)(hl:l.length<2^30)(n:Nat):aP Tryz.prog 130 (V.aU [.row 19 f (.rules l),.fn 103 [.ptr 7 0 0]]) (hRP p r).ay n (fun t hp=>t= .int (Ir r.name l 0)/\hp=(hRP p r).ay):=by
 refine oJ.of (nx:=8) Bd.gK (by simp) ⟨_,_,rfl,rfl⟩ rfl rfl ?_;refine aA.same [0,1,6,7] (fun i:Nat=>[(8,.int i)]) (fun i=>i<=l.length/\Ir r.name l 0=Ir r.name (l.drop i) i) (fun i=>l.length-i) 0 rfl (by decide) rfl (fun _=>rfl) ⟨by omega,by simp⟩ ⟨⟨_,rfl,rfl⟩,trivial⟩ ?_;refine⟨rfl,?_⟩;rintro i ⟨hi,hall⟩;refine⟨fun h3=>?_,fun h3=>?_⟩
 ·have hi':i<l.length:=by simpa using h3
  rw[bY default hi'] at hall;simp only[Ir] at hall;refine .mk (by simp only[Rw.rng] at *; omega) ?_;refine ah.heap (S.Rx p r (l.getD i default) _) ?_;rintro t hp ⟨rfl,rfl⟩;refine⟨.bool _,hRP p r,rfl,rfl,?_⟩;refine⟨fun h4=>?_,fun h4=>?_⟩
  ·conv=>whnf
   rw[h4] at hall;exact iT.same (nx:=8) rfl ⟨rfl,rfl,trivial⟩ rfl rfl ⟨by rw[hall]; rfl,rfl⟩
  ·conv=>whnf
   refine .mk (by simp only[okI] at *; omega) ?_;conv=>whnf
   rw[h4] at hall;refine⟨i+1,⟨by omega,hall⟩,by omega,⟨⟨_,rfl,rfl⟩,trivial⟩,?_,rfl⟩;repeat' (first|exact trivial|exact⟨_,rfl,rfl⟩|constructor)
 ·conv=>whnf
  have hi':l.length<=i:=by simpa using h3
  rw[cI hi'] at hall;exact iT.same (nx:=8) rfl ⟨rfl,rfl,trivial⟩ rfl rfl ⟨by rw[hall]; rfl,rfl⟩
theorem adt{s:Str}{l:List Rule}{i:Nat}:decide (0<=Ir s l i)=l.any fun x=>x.name==s:=by
 have: ∀ {l:List Rule} {i:Nat},0<=Ir s l i↔(l.any fun x=>x.name==s)=true:=by
  intro l;induction l with
  |nil=>intro i; simp[Ir]
  |cons x r ih =>
   intro i;rw[eJ,cS,<- ih (i:=i+1)];show(0:Int)<=(bif x.name==s then(i:Int) else Ir s r (i+1))↔_;generalize (x.name==s)=b;cases b<;>simp
 rw[cK,ag]; exact this
theorem S.Ry(p:aI)(r:Rule)(l:List Rule)(f:Bool)(hl:l.length<2^30)(n:Nat):aP Tryz.prog 102 (V.aU [.row 19 f (.rules l),.fn 103 [.ptr 7 0 0]]) (hRP p r).ay n (fun t hp=>t= .bool (l.any fun x=>x.name==r.name)/\hp=(hRP p r).ay):=by
 refine oJ.of (nx:=8) Bd.fP (by simp) ⟨_,_,rfl,rfl⟩ rfl rfl ?_;refine ah.heap (S.aaC p r l f hl _) ?_;rintro t hp ⟨rfl,rfl⟩;refine⟨.int _,hRP p r,rfl,rfl,?_⟩;exact iT.same (nx:=8) rfl ⟨rfl,rfl,trivial⟩ rfl rfl ⟨by rw[<- adt (i:=0)]; rfl,rfl⟩
theorem ah.mkRow{P:Program}{f:FuncId}{args:List V}{h:Hz}{n ty k:Nat}{r:Rw}{K:V->Hz->Prop}{KW:Nat->V->Hz->Prop}(H:CO P f (V.aU args) (fun n=>.own n) (some ⟨ty,k,r.aU⟩))(hK:K (.own n) ((n,some (.row ty k r []))::h)):ah P false none f args h n K KW :=
 ah.heap (CO.frame H _ _) (by rintro t hp ⟨rfl,rfl⟩; exact⟨.own n,_,rfl,by rw[dG]; simp[jF,OV.au,V.aU],hK⟩)
theorem S.Concat(a b c:List Str)(n:Nat)(h0:0<a.length)(ha:a.length<2^20)(hb:b.length<2^20)(hc:c.length<2^20) :
  aP Tryz.prog 99 (V.aU [.Fp 0 false [.row 0 false (.strs a),.row 0 false (.strs b),.row 0 false (.strs c)]]) no n (fun t hp=>t= .own n/\hp=Hz.ay [(n,some (.row 9 0 (.strs (a++b++c)) []))]):=by
 refine oJ.of (nx:=0) (h0:=[]) Bd.jI (by simp) ⟨_,_,rfl,rfl⟩ rfl rfl ?_;refine aA.times 4 rfl ?_;refine Fork.mk (fun _=>?_) (fun q=>absurd (q.symm.trans (rfl)) aq);repeat(refine VC.mk (by first|(omega)|(simp only[okI] at *; omega)) ?_)
 refine Fork.mk (fun q=>absurd (q.symm.trans (cF (by omega))).symm aq) (fun _=>?_);refine .mk (by simp only[okI] at *; omega) ?_;refine Fork.mk (fun _=>?_) (fun q=>absurd (q.symm.trans (rfl)) aq);repeat(refine VC.mk (by first|(omega)|(simp only[okI] at *; omega)) ?_)
 refine Fork.mk (fun q=>absurd (q.symm.trans (cF (by omega))).symm aq) (fun _=>?_);refine .mk (by simp only[okI] at *; omega) ?_;refine Fork.mk (fun _=>?_) (fun q=>absurd (q.symm.trans (rfl)) aq);repeat(refine VC.mk (by first|(omega)|(simp only[okI] at *; omega)) ?_)
 refine Fork.mk (fun q=>absurd (q.symm.trans (cF (by omega))).symm aq) (fun _=>?_);refine .mk (by simp only[okI] at *; omega) ?_;refine Fork.mk (fun q=>absurd (q.symm.trans (rfl)).symm aq) (fun _=>?_);conv=>whnf
 have e:(0+(a.length:Int)+b.length+c.length)=((a.length+b.length+c.length:Nat):Int):=by omega
 rw[e];refine ah.mkRow (r:=.strs []) (S.Grow (a.length+b.length+c.length) (by omega) (by omega)) ?_;refine aA.times 4 rfl ?_;refine Fork.mk (fun _=>?_) (fun q=>absurd (q.symm.trans (rfl)) aq);repeat(refine VC.mk (by first|(omega)|(simp only[jy,jK,Rw.len,cD]; omega)|(simp only[okI] at *; omega)) ?_)
 refine Fork.mk (fun _=>?_) (fun q=>absurd (q.symm.trans (rfl)) aq);repeat(refine VC.mk (by first|(omega)|(simp only[jy,jK,Rw.len,aM,cD]; omega)|(simp only[okI] at *; omega)) ?_)
 refine Fork.mk (fun _=>?_) (fun q=>absurd (q.symm.trans (rfl)) aq);repeat(refine VC.mk (by first|(omega)|(simp only[jy,jK,Rw.len,aM,cD]; omega)|(simp only[okI] at *; omega)) ?_)
 refine Fork.mk (fun q=>absurd (q.symm.trans (rfl)).symm aq) (fun _=>?_);refine iT.one (c:=n) (o:=.row 9 0 (.strs (a++b++c)) []) (t:=.own n) rfl rfl rfl nofun (.inr rfl) rfl (.eq rfl) ⟨rfl,rfl⟩
theorem S.afm(a b c:List Str)(h0:0<a.length)(ha:a.length<2^20)(hb:b.length<2^20)(hc:c.length<2^20) :
  CO Tryz.prog 99 (V.aU [.Fp 0 false [.row 0 false (.strs a),.row 0 false (.strs b),.row 0 false (.strs c)]]) (fun n=>.own n) (some ⟨9,0,(Rw.strs (a++b++c)).aU⟩):=by
 refine⟨rfl,fun _=>rfl,(fun ob h=>by cases h; rw[gq]; intro t ht; obtain⟨x,_,rfl⟩:=av.1 ht; rfl),(fun ob h=>by cases h; exact fun e=>absurd e (by decide:(0:Nat)≠iM)),fun n=>(S.Concat a b c n h0 ha hb hc).mono ?_⟩;rintro t hp ⟨rfl,rfl⟩;refine⟨rfl,?_⟩;rw[dG]; simp[jF,OV.au,V.aU]; rfl
theorem ah.afn{P:Program}{f:FuncId}{args:List V}{ts:List T}{h:Hz}{n ty k:Nat}{r:Rw}{K:V->Hz->Prop}{KW:Nat->V->Hz->Prop}(H:CO P f ts (fun n=>.own n) (some ⟨ty,k,r.aU⟩))(hs:T.dF (fun _=>True) h.ay ts (V.aU args))(hh:T.x8 r.aU=true)(hK:K (.own n) ((n,some (.row ty k r []))::h)):ah P false none f args h n K KW :=
 ⟨.inl (CO.lend H hs rfl (fun _ e=>by cases e; exact hh) ⟨.own n,_,rfl,by rw[dG]; simp[jF,OV.au,V.aU],(fun e=>by cases e),hK⟩)⟩
theorem ah8{h:Hz}{j ty:Nat}{Z:Nat->Prop}{l:List V}(hz:Z j)(q:h.get j=some (.row ty 0 .nil l))(hf:V.bW l=true):T.sub Z h.ay (V.Fp 0 false l).aH (V.own j).aH:=by
 show T.sub Z h.ay (.sl 0 false (V.aU l)) (.own j);simp only[T.sub];exact⟨trivial,hz,V.iL l hf,by decide,ty,by rw[aO q]; rfl⟩
theorem aaD{l:List Str}:T.x8 (Rw.strs l).aU=true:=by
 show T.x8 (l.map eS)=true;induction l with
 |nil=>rfl
 |cons s r ih=>simp only[cG,T.x8,ih]; rfl
theorem ah9{h:Hz}{j i ty:Nat}{Z:Nat->Prop}{l:List Str}(hz:Z j)(q:h.get j=some (.row ty 0 (.strs l) []))(hi:i<=l.length):T.sub Z h.ay (V.row 0 false (.strs (l.take i))).aH (V.pU j 0 i).aH:=by
 show T.sub Z h.ay (.sl 0 false ((l.take i).map eS)) (.pU j 0 i);simp only[T.sub];refine⟨trivial,hz,?_,by decide,ty,l.map eS,?_,by simpa using hi,by simp[List.map_take]⟩
 ·rw[gq]; intro t ht; obtain⟨x,_,rfl⟩:=av.1 ht; rfl
 ·rw[aO q]; simp[OV.au,Rw.aU,V.aU]
def allNames(p:aI):List Str:=p.states++p.messages++p.values
def Ro(l:List Str)(i:Nat):Bool:= !(validName (l.getD i []))||(l.take i).any fun x=>l.getD i []==x
def Bv(p:aI):Int:=bif (List.range (allNames p).length).any (Ro (allNames p)) then 2 else 0
theorem zx{n:Nat}{f:Nat->Bool}:(List.range n).any f=true↔ ∃ i,i<n/\f i=true:=by
 simp[List.any_eq_true]
theorem S.pK(p:aI)(h0:0<p.states.length)(h1:p.states.length<2^20)(h2:p.messages.length<2^20)(h3:p.values.length<2^20):aj Tryz.prog 72 [.dat (.fQ p)] (.int (Bv p)):=by
 have hlen:(allNames p).length<2^30:=by simp only[allNames,aM]; omega
 refine aj.of Bd.pK (by simp) rfl rfl ?_;refine ah.afn (r:=.strs (allNames p)) (S.afm p.states p.messages p.values h0 h1 h2 h3) (And.intro (ah8 (ty:=22) trivial rfl rfl) trivial) aaD ?_;refine aA.same [3,14,15] (fun i:Nat=>[(16,.int i)]) (fun i=>i<=(allNames p).length/\(List.range i).any (Ro (allNames p))=false) (fun i=>(allNames p).length-i) 0 rfl (by decide) rfl (fun _=>rfl) ⟨ab _,rfl⟩ ⟨⟨_,rfl,rfl⟩,trivial⟩ ?_;refine⟨rfl,?_⟩;rintro i ⟨hi,hall⟩;refine⟨fun h4=>?_,fun h4=>?_⟩
 ·have hi':i<(allNames p).length:=by simpa using h4
  repeat(refine VC.mk (by simp only[Rw.rng] at *; omega) ?_)
  refine ah.pure (S.gU ((allNames p).getD i [])) rfl ?_;repeat(refine VC.mk (by first|exact fun h=>⟨h,h⟩|(intro h; (repeat' apply And.intro)<;>first|exact h|omega|(simp only[Rw.qM]; omega)|(simp only[Rw.rng]; omega))) ?_)
  refine ah.afq (fun _=>S.slices_Contains_string ((allNames p).take i) ((allNames p).getD i []) false (by rw[bE]; omega)) (fun _=>And.intro (ah9 (ty:=9) trivial rfl (by omega)) (And.intro (aC _) trivial)) rfl rfl ?_;refine .mk (by intro h; rw[h]; rfl) ?_;refine⟨fun h5=>?_,fun h5=>?_⟩
  ·conv=>whnf
   refine ak.int ?_;rw[Bv,zx.2 ⟨i,hi',h5⟩]; rfl
  ·conv=>whnf
   refine .mk (by simp only[okI] at *; omega) ?_;refine⟨i+1,⟨by omega,?_⟩,by omega,⟨⟨_,rfl,rfl⟩,trivial⟩,?_,rfl⟩
   ·rw[ck,dq,hall];simp only[eJ,List.any_nil,fc,cr]; exact h5
   ·repeat' (first|exact trivial|exact⟨_,rfl,rfl⟩|constructor)
 ·have hi':(allNames p).length<=i:=by simpa using h4
  have e:i=(allNames p).length:=ep hi hi';subst e;exact ak.int (by rw[Bv,hall]; rfl)
theorem ah.qG{P:Program}{f:FuncId}{args:List V}{h:Hz}{hp0:Hp}{n:Nat}{K:V->Hz->Prop}{KW:Nat->V->Hz->Prop}{post:T->Hp->Prop}(S:aP P f (V.aU args) hp0 n post)(e:h.ay=hp0)(hK: ∀ t hp,post t hp-> ∃ v h',t=v.aH/\hp=Hz.ay h'/\K v h'):ah P false none f args h n K KW:=by
 subst e; exact ah.heap S hK
theorem Vh{i:Nat}{a b:Option OV}{r:Hz}:Hz.ay ((i,a)::(i,b)::r)=Hz.ay ((i,a)::r):=funext fun j=>by
 simp only[Hz.ay,Hz.get]; cases Nat.beq i j<;>rfl
structure dU(p:aI):Prop where
 states:p.states.length<2^20
 messages:p.messages.length<2^20
 values:p.values.length<2^20
 cu:p.cu.length<2^30
 initial:p.initial.length<2^30
 leader:p.leader.length<2^30
 rules:p.rules.length<2^30
 rule: ∀ i,vK (p.rules.getD i default)
 sF:(p.rules.flatMap Rule.guards).length<2^30
def uo(p:aI)(i:Nat):Bool:= !(validName (p.rules.getD i default).name)||(p.rules.take i).any fun x=>x.name==(p.rules.getD i default).name
def sN(p:aI)(i:Nat):Bool:= !(vX (p.rules.getD i default).kind p.topology)||kY (p.rules.getD i default) p.topology
def yC(p:aI)(r:Rule):Int:=bC [dh r.fr p.states.length,dh r.to p.states.length]
def adf(p:aI)(r:Rule):Bool:=decide (r.pos<0)||decide (r.pos>2)||(r.pos !=0&&p.topology==3)
def gZ(p:aI)(i:Nat):Int :=
 let r:=p.rules.getD i default
 let n:Int:=p.states.length
 bif uo p i then 2 else bif sN p i then 6 else bif yC p r !=0 then yC p r else
 bif r.kind==1 then bC [yZ p r.guards,jf r.ex n,jf r.all n,jV p r.read,jV p r.write,jf r.send p.messages.length] else
 bif r.kind==2 then bC [dh r.jo n,dh r.Ap n,jV p r.read,jV p r.write] else
 bif r.kind==3 then bC [F7 r.response n,jV p r.read,jV p r.write] else
 bif r.kind==4 then bC [jf r.left n,jf r.right n,jf r.parent n,dR (adf p r) 1] else
 bif p.topology==4 then bC [dh r.jo n,dh r.Ap n,dR (decide (r.direction<3)||decide (r.direction>4)) 1]
 else bC [dh r.jo n,dh r.Ap n,dR (decide (r.direction<1)||decide (r.direction>2)) 1]
theorem S.kF(p:aI)(i:Nat)(hi:i<p.rules.length)(hp:dU p):aj Tryz.prog 74 [.dat (.fQ p),.int i] (.int (gZ p i)):=by
 have hr:=hp.rule i;have hp1:=hp.rules;have hp2:=hp.states;have hp3:=hp.messages;refine aj.of Bd.kF (by simp) rfl rfl ?_;repeat(refine VC.mk (by first|(simp only[Rw.qM]; omega)|(simp only[Rw.rng] at *; omega)) ?_)
 refine ah.qG (S.Ry p (p.rules.getD i default) (p.rules.take i) false (by rw[bE]; omega) _) Vh ?_;rintro t hp' ⟨rfl,rfl⟩;refine⟨.bool _,hRP p (p.rules.getD i default),rfl,rfl,?_⟩;refine ah.pure (S.gU (p.rules.getD i default).name) rfl ?_;refine .mk (by intro h; rw[h]; rfl) ?_;refine⟨fun h1=>?_,fun h1=>?_⟩
 ·conv=>whnf
  exact ak.int (by rw[gZ,show uo p i=true from h1]; rfl)
 ·conv=>whnf
  refine ah.pure (S.qX (p.rules.getD i default).kind p.topology) rfl ?_;repeat(refine VC.mk (by first|exact id|exact fun h=>⟨h,h⟩) ?_)
  refine ah.gW (fun _=>S.mJ (p.rules.getD i default) p.topology hr) rfl ?_;refine .mk (by intro h; rw[h]; rfl) ?_;refine⟨fun h2=>?_,fun h2=>?_⟩
  ·conv=>whnf
   exact ak.int (by rw[gZ,show uo p i=false from h1,show sN p i=true from h2]; rfl)
  ·conv=>whnf
   refine ah.pure (S.bV (p.rules.getD i default).fr p.states.length) rfl ?_;refine ah.pure (S.bV (p.rules.getD i default).to p.states.length) rfl ?_;refine ah.pure (S.bM [dh (p.rules.getD i default).fr p.states.length,dh (p.rules.getD i default).to p.states.length] true (show 2<2^40 by decide)) rfl ?_;refine⟨fun h3=>?_,fun h3=>?_⟩
   ·conv=>whnf
    exact ak.int (by rw[gZ,show uo p i=false from h1,show sN p i=false from h2,show(yC p (p.rules.getD i default) !=0)=true from h3]; rfl)
   ·conv=>whnf
    refine⟨fun h4=>?_,fun h4=>?_⟩
    ·conv=>whnf
     refine ah.pure (S.nS p (p.rules.getD i default).guards false (by have:=hr.guards; omega)) rfl ?_;refine ah.pure (S.fA (p.rules.getD i default).ex p.states.length false (by have:=hr.ex; omega)) rfl ?_;refine ah.pure (S.fA (p.rules.getD i default).all p.states.length false (by have:=hr.all; omega)) rfl ?_;refine ah.pure (S.gJ p (p.rules.getD i default).read) rfl ?_;refine ah.pure (S.gJ p (p.rules.getD i default).write) rfl ?_;refine ah.pure (S.fA (p.rules.getD i default).send p.messages.length false (by have:=hr.send; omega)) rfl ?_;refine ah.pure (S.bM [yZ p (p.rules.getD i default).guards,jf (p.rules.getD i default).ex p.states.length,jf (p.rules.getD i default).all p.states.length,jV p (p.rules.getD i default).read,jV p (p.rules.getD i default).write,jf (p.rules.getD i default).send p.messages.length] true (show 6<2^40 by decide)) rfl ?_;exact ak.int (by rw[gZ,show uo p i=false from h1,show sN p i=false from h2,show(yC p (p.rules.getD i default) !=0)=false from h3,h4]; rfl)
    ·conv=>whnf
     refine⟨fun h5=>?_,fun h5=>?_⟩
     ·conv=>whnf
      refine ah.pure (S.bV (p.rules.getD i default).jo p.states.length) rfl ?_;refine ah.pure (S.bV (p.rules.getD i default).Ap p.states.length) rfl ?_;refine ah.pure (S.gJ p (p.rules.getD i default).read) rfl ?_;refine ah.pure (S.gJ p (p.rules.getD i default).write) rfl ?_;refine ah.pure (S.bM [dh (p.rules.getD i default).jo p.states.length,dh (p.rules.getD i default).Ap p.states.length,jV p (p.rules.getD i default).read,jV p (p.rules.getD i default).write] true (show 4<2^40 by decide)) rfl ?_;exact ak.int (by rw[gZ,show uo p i=false from h1,show sN p i=false from h2,show(yC p (p.rules.getD i default) !=0)=false from h3,h4,h5]; rfl)
     ·conv=>whnf
      refine⟨fun h6=>?_,fun h6=>?_⟩
      ·conv=>whnf
       refine ah.pure (S.kG (p.rules.getD i default).response p.states.length false (by have:=hr.response; omega)) rfl ?_;refine ah.pure (S.gJ p (p.rules.getD i default).read) rfl ?_;refine ah.pure (S.gJ p (p.rules.getD i default).write) rfl ?_;refine ah.pure (S.bM [F7 (p.rules.getD i default).response p.states.length,jV p (p.rules.getD i default).read,jV p (p.rules.getD i default).write] true (show 3<2^40 by decide)) rfl ?_;exact ak.int (by rw[gZ,show uo p i=false from h1,show sN p i=false from h2,show(yC p (p.rules.getD i default) !=0)=false from h3,h4,h5,h6]; rfl)
      ·conv=>whnf
       refine⟨fun h7=>?_,fun h7=>?_⟩
       ·conv=>whnf
        repeat(refine VC.mk (by first|exact id|(intro h; rw[h]; rfl)|(intro h; simp_all; done)) ?_)
        refine ah.pure (S.fA (p.rules.getD i default).left p.states.length false (by have:=hr.left; omega)) rfl ?_;refine ah.pure (S.fA (p.rules.getD i default).right p.states.length false (by have:=hr.right; omega)) rfl ?_;refine ah.pure (S.fA (p.rules.getD i default).parent p.states.length false (by have:=hr.parent; omega)) rfl ?_;refine ah.pure (S.bT (adf p (p.rules.getD i default)) 1) rfl ?_;refine ah.pure (S.bM [jf (p.rules.getD i default).left p.states.length,jf (p.rules.getD i default).right p.states.length,jf (p.rules.getD i default).parent p.states.length,dR (adf p (p.rules.getD i default)) 1] true (show 4<2^40 by decide)) rfl ?_;exact ak.int (by rw[gZ,show uo p i=false from h1,show sN p i=false from h2,show(yC p (p.rules.getD i default) !=0)=false from h3,h4,h5,h6,h7]; rfl)
       ·conv=>whnf
        refine⟨fun h8=>?_,fun h8=>?_⟩
        ·conv=>whnf
         refine ah.pure (S.bV (p.rules.getD i default).jo p.states.length) rfl ?_;refine ah.pure (S.bV (p.rules.getD i default).Ap p.states.length) rfl ?_;repeat(refine VC.mk (by first|exact id|exact fun h=>⟨h,h⟩|(intro h; rw[h]; rfl)) ?_)
         refine ah.pure (S.bT (decide ((p.rules.getD i default).direction<3)||decide ((p.rules.getD i default).direction>4)) 1) rfl ?_;refine ah.pure (S.bM [dh (p.rules.getD i default).jo p.states.length,dh (p.rules.getD i default).Ap p.states.length,dR (decide ((p.rules.getD i default).direction<3)||decide ((p.rules.getD i default).direction>4)) 1] true (show 3<2^40 by decide)) rfl ?_;exact ak.int (by rw[gZ,show uo p i=false from h1,show sN p i=false from h2,show(yC p (p.rules.getD i default) !=0)=false from h3,h4,h5,h6,h7,h8]; rfl)
        ·conv=>whnf
         refine ah.pure (S.bV (p.rules.getD i default).jo p.states.length) rfl ?_;refine ah.pure (S.bV (p.rules.getD i default).Ap p.states.length) rfl ?_;repeat(refine VC.mk (by first|exact id|exact fun h=>⟨h,h⟩|(intro h; rw[h]; rfl)) ?_)
         refine ah.pure (S.bT (decide ((p.rules.getD i default).direction<1)||decide ((p.rules.getD i default).direction>2)) 1) rfl ?_;refine ah.pure (S.bM [dh (p.rules.getD i default).jo p.states.length,dh (p.rules.getD i default).Ap p.states.length,dR (decide ((p.rules.getD i default).direction<1)||decide ((p.rules.getD i default).direction>2)) 1] true (show 3<2^40 by decide)) rfl ?_;exact ak.int (by rw[gZ,show uo p i=false from h1,show sN p i=false from h2,show(yC p (p.rules.getD i default) !=0)=false from h3,h4,h5,h6,h7,h8]; rfl)
def yY(g:BP):List BP->Nat->Int
 |[],_=> -1
 |x::r,i=>bif g==x then(i:Int) else yY g r (i+1)
theorem U6{g:BP}{l:List BP}{i:Nat}:decide (0<=yY g l i)=l.any fun x=>g==x:=by
 have: ∀ {l:List BP} {i:Nat},0<=yY g l i↔(l.any fun x=>g==x)=true:=by
  intro l;induction l with
  |nil=>intro i; simp[yY]
  |cons x r ih =>
   intro i;rw[eJ,cS,<- ih (i:=i+1)];show(0:Int)<=(bif g==x then(i:Int) else yY g r (i+1))↔_;generalize (g==x)=b;cases b<;>simp
 rw[cK,ag]; exact this
theorem S.adu(l:List BP)(g:BP)(f:Bool)(hl:l.length<2^40):aj Tryz.prog 131 [.row 7 f (.sF l),.dat (.Vo g)] (.int (yY g l 0)):=by
 refine aj.of Bd.fC (by simp) rfl rfl ?_;refine aA.same [0,3,6,7] (fun i:Nat=>[(8,.int i)]) (fun i=>i<=l.length/\yY g l 0=yY g (l.drop i) i) (fun i=>l.length-i) 0 rfl (by decide) rfl (fun _=>rfl) ⟨by omega,by simp⟩ ⟨⟨_,rfl,rfl⟩,trivial⟩ ?_;refine⟨rfl,?_⟩;rintro i ⟨hi,hall⟩;refine⟨fun h3=>?_,fun h3=>?_⟩
 ·have hi':i<l.length:=by simpa using h3
  rw[bY default hi'] at hall;simp only[yY] at hall;refine .mk (by simp only[Rw.rng] at *; omega) ?_;refine⟨fun h4=>?_,fun h4=>?_⟩
  ·conv=>whnf
   refine ak.int ?_;have h4':(g==l.getD i default)=true:=h4;rw[hall,h4']; rfl
  ·conv=>whnf
   refine .mk (by simp only[okI] at *; omega) ?_;refine⟨i+1,⟨by omega,?_⟩,by omega,⟨⟨_,rfl,rfl⟩,trivial⟩,?_,rfl⟩
   ·have h4':(g==l.getD i default)=false:=h4;rw[hall,h4']; rfl
   ·repeat' (first|exact trivial|exact⟨_,rfl,rfl⟩|constructor)
 ·conv=>whnf
  refine ak.int ?_;have hi':l.length<=i:=by simpa using h3
  rw[hall,cI hi']; rfl
theorem S.Vj(l:List BP)(g:BP)(f:Bool)(hl:l.length<2^40):aj Tryz.prog 109 [.row 7 f (.sF l),.dat (.Vo g)] (.bool (l.any fun x=>g==x)):=by
 refine aj.of Bd.eP (by simp) rfl rfl ?_;refine ah.pure (S.adu l g f hl) rfl ?_;exact ak.bool U6.symm
theorem ada{h:Hz}{j:Nat}{Z:Nat->Prop}{l:List BP}(hz:Z j)(q:h.get j=some (.row 134 7 (.sF l) [])):T.sub Z h.ay (V.row 7 false (.sF l)).aH (V.own j).aH:=by
 show T.sub Z h.ay (.sl 7 false (l.map TJ)) (.own j);simp only[T.sub];refine⟨trivial,hz,?_,by decide,134,?_⟩
 ·rw[gq]; intro t ht; obtain⟨x,_,rfl⟩:=av.1 ht; rfl
 ·have:=aO q;rw[this]; simp[OV.au,Rw.aU,V.aU]
theorem DU{α β:Type}{f:β->α->β}{b:β}{l:List α}{i:Nat}{d:α}(h:i<l.length):(l.take (i+1)).foldl f b=f ((l.take i).foldl f b) (l.getD i d):=by
 rw[cR,gS];simp[List.getElem?_eq_getElem h]
theorem ak.ah5{h:Hz}{j:Nat}{l:List BP}(q:h.get j=some (.row 134 7 (.sF l) [])):ak (.row 7 false (.sF l)) (.own j) h:=⟨ada trivial q⟩
def J3(acc:List BP)(g:BP):List BP:=bif acc.any (fun x=>g==x) then acc else acc++[g]
def Aj(l:List Rule):List BP:=(l.flatMap Rule.guards).foldl J3 []
theorem adv{acc:List BP}{g:BP}:(J3 acc g).length<=acc.length+1:=by
 unfold J3; cases acc.any (fun x=>g==x)<;>simp
theorem Vk: ∀ {l acc:List BP},(l.foldl J3 acc).length<=acc.length+l.length:=by
 intro l;induction l with
 |nil=>intro acc; simp
 |cons g r ih =>
  intro acc;have:=ih (acc:=J3 acc g);have h2:=adv (acc:=acc) (g:=g);simp only[fX,bL]; omega
abbrev rowT(l:List BP):OV:=.row 134 7 (.sF l) []
def Ak(p:aI)(i k:Nat):List BP:=((p.rules.getD i default).guards.take k).foldl J3 (Aj (p.rules.take i))
theorem U7(p:aI)(hp:dU p)(i k:Nat)(_hi:i<p.rules.length):(Ak p i k).length<2^31:=by
 have h1:=Vk (l:=(p.rules.getD i default).guards.take k) (acc:=Aj (p.rules.take i));have h2:=Vk (l:=(p.rules.take i).flatMap Rule.guards) (acc:=[]);have h3:=(hp.rule i).guards;have h4:((p.rules.take i).flatMap Rule.guards).length<=(p.rules.flatMap Rule.guards).length:=by
  conv=>rhs; rw[<- bt i p.rules,cv,aM]
  omega
 have h5:=hp.sF;have h6:((p.rules.getD i default).guards.take k).length<=(p.rules.getD i default).guards.length:=by simp[List.length_take]; omega
 unfold Ak;unfold Aj at h1 ⊢;simp only[cD,gD] at h2;omega
theorem Qa(p:aI){i:Nat}(hi:i<p.rules.length):Aj (p.rules.take (i+1))=Ak p i (p.rules.getD i default).guards.length:=by
 unfold Ak;rw[bB (ba _)];unfold Aj;rw[cR,cv,gS];simp[List.getElem?_eq_getElem hi]
theorem S.jM(p:aI)(hp:dU p):aj Tryz.prog 75 [.dat (.fQ p)] (.row 7 false (.sF (Aj p.rules))):=by
 have hp1:=hp.rules;refine aj.of Bd.jM (by simp) rfl rfl ?_;refine aA.nil 3 134 7 (by rfl) rfl rfl rfl ?_;refine aA.objs 1 [9,10] (fun i:Nat=>[(11,.int i),(3,.own 0)]) (fun i=>[(0,rowT (Aj (p.rules.take i)))]) (fun i=>i<=p.rules.length) (fun i=>p.rules.length-i) 0 [7] rfl (by decide) (fun _=>rfl) (ab _) ?_ ?_ ?_
 ·exact(sR rfl)
 ·exact⟨dA rfl rfl,trivial⟩
 refine⟨(sR rfl),rfl,?_⟩;rintro i hi;refine⟨fun h3=>?_,fun h3=>?_⟩
 ·have hi':i<p.rules.length:=by simpa using h3
  refine .mk (by simp only[Rw.rng] at *; first|omega|(simp_all; done)|(simp_all; omega)) ?_;refine aA.objs 1 [9,10,11,16,17] (fun k:Nat=>[(18,.int k),(3,.own 0)]) (fun k=>[(0,rowT (Ak p i k))]) (fun k=>k<=(p.rules.getD i default).guards.length) (fun k=>(p.rules.getD i default).guards.length-k) 0 [0] rfl (by decide) (fun _=>rfl) (ab _) ?_ ?_ ?_
  ·exact(sR rfl)
  ·exact⟨dA rfl rfl,trivial⟩
  refine⟨(sR rfl),rfl,?_⟩;rintro k hk;have hacc:=U7 p hp i k hi';have hg:=(hp.rule i).guards;refine⟨fun h4=>?_,fun h4=>?_⟩
  ·have hk':k<(p.rules.getD i default).guards.length:=by simpa using h4
   have hst:Ak p i (k+1)=J3 (Ak p i k) ((p.rules.getD i default).guards.getD k default):=DU hk';refine .mk (by simp only[Rw.rng] at *; first|omega|(simp_all; done)|(simp_all; omega)) ?_;refine ah.lend (S.Vj (Ak p i k) ((p.rules.getD i default).guards.getD k default) false (by omega)) (And.intro (ada trivial rfl) (And.intro (aC _) trivial)) rfl rfl ?_;refine⟨fun h5=>?_,fun h5=>?_⟩
   ·conv=>whnf
    repeat(refine VC.mk (by first|(show((Ak p i k).length+(0+1))*48<=140737488355328/\(Ak p i k).length+(0+1)<=1152921504606846976; omega)|(simp only[okI] at *; first|omega|(simp_all; done)|(simp_all; omega))) ?_)
    have h5':((Ak p i k).any fun x=>(p.rules.getD i default).guards.getD k default==x)=false:=by simpa using h5
    refine⟨k+1,[13],by omega,by omega,(sR rfl),(sR rfl),⟨rfl,nofun,rfl,rfl,rfl,_,rfl,rfl,rfl,dJ.of_eq ?_⟩,trivial⟩;rw[hst,J3,h5'];rfl
   ·conv=>whnf
    refine .mk (by simp only[okI] at *; first|omega|(simp_all; done)|(simp_all; omega)) ?_;conv=>whnf
    have h5':((Ak p i k).any fun x=>(p.rules.getD i default).guards.getD k default==x)=true:=by simpa using h5
    refine⟨k+1,[0],by omega,by omega,(sR rfl),(sR rfl),⟨rfl,nofun,rfl,rfl,rfl,_,rfl,rfl,rfl,dJ.of_eq ?_⟩,trivial⟩;rw[hst,J3,h5']; rfl
  ·have hk':(p.rules.getD i default).guards.length<=k:=by simpa using h4
   have e:k=(p.rules.getD i default).guards.length:=ep hk hk';subst e;refine .mk (by simp only[okI] at *; first|omega|(simp_all; done)|(simp_all; omega)) ?_;refine⟨i+1,[0],by omega,by omega,(sR rfl),(sR rfl),⟨rfl,nofun,rfl,rfl,rfl,_,rfl,rfl,rfl,dJ.of_eq ?_⟩,trivial⟩;rw[Qa p hi']
 ·have hi':p.rules.length<=i:=by simpa using h3
  rw[bB hi'];exact ak.ah5 rfl
def vV(p:aI):Bool:=decide (p.topology<1)||decide (p.topology>4)||decide (p.fault<0)||decide (p.fault>3)
def xk(p:aI):Bool:=decide ((p.states.length:Int)>6)||decide ((p.messages.length:Int)>3)||decide ((p.values.length:Int)>3)||decide ((p.cu.length:Int)>4)||decide ((p.rules.length:Int)>8)
def U9(p:aI):Bool:=(!(p.topology==1)&&(decide ((p.messages.length:Int)>0)||decide ((p.values.length:Int)>0)||decide ((p.cu.length:Int)>0)||p.fault !=0))||((p.topology==1)&&decide ((p.leader.length:Int)>0))
def zy(p:aI):Int:=bC [jf p.initial p.states.length,dR ((p.initial.length:Int)==0) 1,jf p.leader p.states.length]
def ER(p:aI):Int:=bC ((List.range p.rules.length).map (gZ p))
def bJ(p:aI):Int :=
 bif !(validName p.name) then 2 else bif vV p then 1 else bif (p.states.length:Int)==0 then 1 else bif xk p then 4 else
 bif Bv p !=0 then Bv p else bif U9 p then 1 else
 bif p.cu.any (fun l=> !(U0 l)) then 4 else
 bif zy p !=0 then zy p else
 bif ER p !=0 then ER p else dR (decide (((Aj p.rules).length:Int)>3)) 4
theorem NP{n i:Nat}{f:Nat->Int}(h:i<n):((List.range n).drop i).map f=f i::((List.range n).drop (i+1)).map f:=by
 rw[eD (by simpa using h)]; simp
theorem S.jw(p:aI)(hp:dU p):aj Tryz.prog 43 [.dat (.fQ p)] (.int (bJ p)):=by
 have g1:=hp.states; have g2:=hp.messages; have g3:=hp.values; have g4:=hp.cu; have g5:=hp.initial; have g6:=hp.leader; have g7:=hp.rules;refine aj.of Bd.jw (by simp) rfl rfl ?_;refine ah.pure (S.gU p.name) rfl ?_;refine⟨fun h1=>?_,fun h1=>?_⟩
 ·conv=>whnf
  exact ak.int (by rw[bJ,h1]; rfl)
 repeat(refine VC.mk (by first|exact id|(intro h; rw[h]; rfl)) ?_)
 refine⟨fun h2=>?_,fun h2=>?_⟩
 ·conv=>whnf
  exact ak.int (by rw[bJ,h1,show vV p=true from h2]; rfl)
 refine⟨fun h3=>?_,fun h3=>?_⟩
 ·conv=>whnf
  exact ak.int (by rw[bJ,h1,show vV p=false from h2,h3]; rfl)
 repeat(refine VC.mk (by first|exact id|(intro h; rw[h]; rfl)) ?_)
 refine⟨fun h4=>?_,fun h4=>?_⟩
 ·conv=>whnf
  exact ak.int (by rw[bJ,h1,show vV p=false from h2,h3,show xk p=true from h4]; rfl)
 conv=>whnf
 have h0:0<p.states.length:=by
  rcases Nat.eq_zero_or_pos p.states.length with e|e
  ·rw[e] at h3; exact absurd h3 (by decide)
  ·exact e
 refine ah.pure (S.pK p h0 g1 g2 g3) rfl ?_;refine⟨fun h5=>?_,fun h5=>?_⟩
 ·conv=>whnf
  exact ak.int (by rw[bJ,h1,show vV p=false from h2,h3,show xk p=false from h4,h5]; rfl)
 repeat(refine VC.mk (by first|exact id|(intro h; rw[h]; rfl)|(intro h; simp_all; done)) ?_)
 refine⟨fun h6=>?_,fun h6=>?_⟩
 ·conv=>whnf
  exact ak.int (by rw[bJ,h1,show vV p=false from h2,h3,show xk p=false from h4,h5,show U9 p=true from h6]; rfl)
 refine aA.same [1,4,111,112] (fun i:Nat=>[(113,.int i)]) (fun i=>i<=p.cu.length/\(p.cu.take i).any (fun l=> !(U0 l))=false) (fun i=>p.cu.length-i) 0 rfl (by decide) rfl (fun _=>rfl) ⟨by omega,by simp⟩ ⟨⟨_,rfl,rfl⟩,trivial⟩ ?_;refine⟨rfl,?_⟩;rintro i ⟨hi,hall⟩;refine⟨fun h7=>?_,fun h7=>?_⟩
 ·have hi':i<p.cu.length:=by simpa using h7
  refine .mk (by simp only[Rw.rng] at *; omega) ?_;refine ah.pure (S.jT (p.cu.getD i default)) rfl ?_;refine⟨fun h8=>?_,fun h8=>?_⟩
  ·conv=>whnf
   exact ak.int (by rw[bJ,h1,show vV p=false from h2,h3,show xk p=false from h4,h5,show U9 p=false from h6,iE (d:=default) hi' h8]; rfl)
  ·conv=>whnf
   refine .mk (by simp only[okI] at *; omega) ?_;refine⟨i+1,⟨by omega,?_⟩,by omega,⟨⟨_,rfl,rfl⟩,trivial⟩,?_,rfl⟩
   ·rw[jU (d:=default) hi' hall]; exact h8
   ·repeat' (first|exact trivial|exact⟨_,rfl,rfl⟩|constructor)
 have hi':p.cu.length<=i:=by simpa using h7
 rw[bB hi'] at hall;refine ah.pure (S.fA p.initial p.states.length false (by omega)) rfl ?_;refine ah.pure (S.bT ((p.initial.length:Int)==0) 1) rfl ?_;refine ah.pure (S.fA p.leader p.states.length false (by omega)) rfl ?_;refine ah.pure (S.bM [jf p.initial p.states.length,dR ((p.initial.length:Int)==0) 1,jf p.leader p.states.length] true (show 3<2^40 by decide)) rfl ?_;refine⟨fun h9=>?_,fun h9=>?_⟩
 ·conv=>whnf
  exact ak.int (by rw[bJ,h1,show vV p=false from h2,h3,show xk p=false from h4,h5,show U9 p=false from h6,hall,show(zy p !=0)=true from h9]; rfl)
 refine aA.same [1,140,141] (fun i:Nat=>[(142,.int i)]) (fun i=>i<=p.rules.length/\ER p=bC (((List.range p.rules.length).drop i).map (gZ p))) (fun i=>p.rules.length-i) 0 rfl (by decide) rfl (fun _=>rfl) ⟨by omega,by simp[ER]⟩ ⟨⟨_,rfl,rfl⟩,trivial⟩ ?_;refine⟨rfl,?_⟩;rintro i ⟨hi,hr⟩;refine⟨fun h10=>?_,fun h10=>?_⟩
 ·have hi':i<p.rules.length:=by simpa using h10
  rw[NP hi'] at hr;simp only[bC] at hr;refine ah.pure (S.kF p i hi' hp) rfl ?_;refine⟨fun h11=>?_,fun h11=>?_⟩
  ·conv=>whnf
   have ag7:gZ p i≠0:=U8 h11;rw[bX ag7] at hr;exact ak.int (by rw[bJ,h1,show vV p=false from h2,h3,show xk p=false from h4,h5,show U9 p=false from h6,hall,show(zy p !=0)=false from h9,hr,h11]; rfl)
  ·conv=>whnf
   refine .mk (by simp only[okI] at *; omega) ?_;conv=>whnf
   have ag7:gZ p i=0:=BM h11;rw[bk ag7] at hr;refine⟨i+1,⟨by omega,hr⟩,by omega,⟨⟨_,rfl,rfl⟩,trivial⟩,?_,rfl⟩;repeat' (first|exact trivial|exact⟨_,rfl,rfl⟩|constructor)
 have hi':p.rules.length<=i:=by simpa using h10
 rw[cI (by simpa using hi')] at hr;refine ah.pure (S.jM p hp) rfl ?_;refine ah.pure (S.bT (decide (((Aj p.rules).length:Int)>3)) 4) rfl ?_;exact ak.int (by rw[bJ,h1,show vV p=false from h2,h3,show xk p=false from h4,h5,show U9 p=false from h6,hall,show(zy p !=0)=false from h9,hr]; rfl)
theorem ak.eqv{a b:V}{h:Hz}(e:a.aH=b.aH):ak a b h:=⟨by rw[e]; exact aC _⟩
def Vb(acc:Bool)(r:Rule):Bool:=acc&&(r.kind==1)&&decide (r.fr<r.to)&&((r.ex.length:Int)==0)&&((r.all.length:Int)==0)
def RJ(acc:Bool)(r:Rule):Bool:=acc||decide ((r.all.length:Int)>0)
def sO(p:aI):Bool:=(p.topology==1)&&(p.fault==0)&&((p.messages.length:Int)==0)&&((p.cu.length:Int)==0)
structure Cls where
 Vo:Bool
 cover:Bool
 word:Bool
 tree:Bool
 monadic:Bool
def kT(p:aI):Cls :=
 ⟨(p.topology==1)&&((p.values.length:Int)==0)&&p.rules.foldl Vb true,sO p&& !(p.rules.foldl RJ false),(p.topology==2)||(p.topology==3),p.topology==4,sO p&&decide ((p.states.length:Int)<=4)⟩
def ah7(c:Cls):V:=.agg [.bool c.Vo,.bool c.cover,.bool c.word,.bool c.tree,.bool c.monadic]
def RN:Cls:=⟨false,false,false,false,false⟩
def Jt(p:aI):V:=.dQ [ah7 (bif bJ p !=0 then RN else kT p),.int (bJ p)]
theorem S.jA(p:aI)(hp:dU p):aj Tryz.prog 23 [.dat (.fQ p)] (Jt p):=by
 have g1:=hp.states; have g2:=hp.messages; have g3:=hp.values; have g4:=hp.cu; have g7:=hp.rules;refine aj.of Bd.jA (by simp) rfl rfl ?_;refine ah.pure (S.jw p hp) rfl ?_;refine⟨fun h1=>?_,fun h1=>?_⟩
 ·conv=>whnf
  refine ak.eqv ?_;rw[Jt,h1]; rfl
 have h1':bJ p=0:=BM h1;refine aA.same [1,2,3,18,19] (fun i:Nat=>[(20,.int i),(5,.bool ((p.rules.take i).foldl Vb true)),(6,.bool ((p.rules.take i).foldl RJ false))]) (fun i=>i<=p.rules.length) (fun i=>p.rules.length-i) 0 rfl (by decide) rfl (fun _=>rfl) (ab _) ⟨⟨_,rfl,rfl⟩,⟨_,rfl,rfl⟩,⟨_,rfl,rfl⟩,trivial⟩ ?_;refine⟨rfl,?_⟩;rintro i hi;have g8:=hp.rule i;have g9:=g8.ex; have g10:=g8.all;refine⟨fun h7=>?_,fun h7=>?_⟩
 ·have hi':i<p.rules.length:=by simpa using h7
  repeat(refine VC.mk (by first|exact id|exact fun h=>⟨h,h⟩|(intro h; rw[h]; rfl)|(simp only[okI,Rw.rng] at *; omega)) ?_)
  refine⟨i+1,by omega,by omega,⟨⟨_,rfl,rfl⟩,⟨_,rfl,?_⟩,⟨_,rfl,?_⟩,trivial⟩,?_,rfl⟩
  ·rw[DU (d:=default) hi']; rfl
  ·rw[DU (d:=default) hi']; rfl
  ·repeat' (first|exact trivial|exact⟨_,rfl,rfl⟩|constructor)
 have hi':p.rules.length<=i:=by simpa using h7
 rw[bB hi'];repeat(refine VC.mk (by first|exact id|(intro h; rw[h]; rfl)) ?_)
 refine ak.eqv ?_;rw[Jt,h1'];rfl
def mO(r:Rule)(t:Int):Bool :=
 bif !(r.kind==1)&&(decide ((r.guards.length:Int)>0)||decide ((r.ex.length:Int)>0)||decide ((r.all.length:Int)>0)||decide ((r.send.length:Int)>0)) then true else
 bif !(r.kind==1)&& !(r.kind==2)&& !(r.kind==3)&&(r.read != -1||r.write != -1) then true else
 bif !(r.kind==2)&& !(r.kind==5)&&(r.jo !=0||r.Ap !=0) then true else
 bif (!(r.kind==3)&&decide ((r.response.length:Int)>0))||(!(r.kind==5)&&r.direction !=0) then true else
 bif !(r.kind==4)&&(r.pos !=0||decide ((r.left.length:Int)>0)||decide ((r.right.length:Int)>0)) then true else
 decide ((r.parent.length:Int)>0)&& !((r.kind==4)&&(t==4))
theorem gt0{n:Nat}:decide ((n:Int)>0)= !(n==0):=by
 cases n with
 |zero=>rfl
 |succ n=>rw[cJ (by omega)]; rfl
theorem aiO(a b c d e f g h:Nat):decide ((a:Int)+b+c+d+e+f+g+h>0)=(!(a==0)|| !(b==0)|| !(c==0)|| !(d==0)|| !(e==0)|| !(f==0)|| !(g==0)|| !(h==0)):=by
 rw[cK];simp only[ag,cS,bo,bq,ne_eq];omega
theorem Cb{r:Rule}{t:Int}(h:1<=r.kind/\r.kind<=5):mO r t=kY r t:=by
 have hk:r.kind=1\/r.kind=2\/r.kind=3\/r.kind=4\/r.kind=5:=by omega
 simp only[mO,kY,FX,gt0,aiO,bne];generalize (r.guards.length==0)=g1;generalize (r.ex.length==0)=g2;generalize (r.all.length==0)=g3;generalize (r.send.length==0)=g4;generalize (r.response.length==0)=g5;generalize (r.left.length==0)=g6;generalize (r.right.length==0)=g7;generalize (r.parent.length==0)=g8;generalize (r.read== -1)=g9;generalize (r.write== -1)=g10;generalize (r.jo==0)=g11;generalize (r.Ap==0)=g12;generalize (r.direction==0)=g13;generalize (r.pos==0)=g14
 rcases hk with hk|hk|hk|hk|hk<;>rw[hk] <;>
  (first
   |(simp; done)
   |(cases (t==4)<;>simp<;>grind)
   |(simp; grind))
end Go.Proofs.YtbdbmfccbpfeoabGreatDoor
