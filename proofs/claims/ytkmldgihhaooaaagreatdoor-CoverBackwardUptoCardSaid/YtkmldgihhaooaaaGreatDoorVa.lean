/-
 A part of the proof. No condition.
-/
import Derived.Test.YtkmldgihhaooaaaGreatDoorNb
import Derived.Test.YtkmldgihhaooaaaGreatDoorLg
namespace Go.Proofs.YtkmldgihhaooaaaGreatDoor
open Go.Ab Go.Proofs
set_option maxRecDepth 100000
def dQ(b:Bool)(e:Int):Int:=bif b then e else 0
theorem S.bT(b:Bool)(e:Int):ak Tryz.prog 111 [.bool b,.int e] (.int (dQ b e)):=by
 refine ak.of Bd.bT (by simp) rfl rfl ?_;refine⟨fun h=>?_,fun h=>?_⟩
 ·conv=>whnf
  exact aj.int (by rw[h]; rfl)
 ·conv=>whnf
  exact aj.int (by rw[h]; rfl)
def pR(i n:Int):Bool:=decide (i<0)||decide (i>=n)
def cZ(i n:Int):Int:=dQ (pR i n) 5
theorem S.bV(i n:Int):ak Tryz.prog 137 [.int i,.int n] (.int (cZ i n)):=by
 refine ak.of Bd.bV (by simp) rfl rfl ?_;repeat(refine VC.mk (by first|exact fun h=>⟨h,h⟩|(intro h; rw[h]; rfl)) ?_)
 refine ah.pure (S.bT (pR i n) 5) rfl ?_;exact aj.int rfl
def bD:List Int->Int
 |[]=>0
 |e::r=>if e=0 then bD r else e
theorem S.bK(l:List Int)(f:Bool)(hl:l.length<2^40):ak Tryz.prog 110 [.row 0 f (.ints l)] (.int (bD l)):=by
 refine ak.of Bd.bK (by simp) rfl rfl ?_;refine aA.same [5,6] (fun i:Nat=>[(7,.int i)]) (fun i=>i<=l.length/\bD l=bD (l.drop i)) (fun i=>l.length-i) 0 rfl (by decide) rfl (fun _=>rfl) ⟨by omega,by simp⟩ ⟨⟨_,rfl,rfl⟩,trivial⟩ ?_;refine⟨rfl,?_⟩;rintro i ⟨hi,hall⟩;refine⟨fun h3=>?_,fun h3=>?_⟩
 ·have hi':i<l.length:=by simpa using h3
  rw[bY 0 hi'] at hall;simp only[bD] at hall;refine .mk (by simp only[Rw.rng] at *; omega) ?_;refine⟨fun h4=>?_,fun h4=>?_⟩
  ·conv=>whnf
   refine aj.int ?_
   have:l.getD i 0≠0:=by simpa using h4
   rw[hall,if_neg this]; rfl
  ·conv=>whnf
   refine .mk (by simp only[okI] at *; omega) ?_;conv=>whnf
   have:l.getD i 0=0:=by simpa using h4
   rw[if_pos this] at hall;refine⟨i+1,⟨by omega,hall⟩,by omega,⟨⟨_,rfl,rfl⟩,trivial⟩,?_,rfl⟩;repeat' (first|exact trivial|exact⟨_,rfl,rfl⟩|constructor)
 ·conv=>whnf
  refine aj.int ?_;have hi':l.length<=i:=by simpa using h3
  rw[hall,List.drop_eq_nil_of_le hi']; rfl
def Hq:List Int->Bool
 |a::b::r=>decide (a<b)&&Hq (b::r)
 |_=>true
def iZ(l:List Int)(n:Int):Int:=bif l.any (fun i=>pR i n) then 5 else bif Hq l then 0 else 1
theorem S.eX(l:List Int)(n:Int)(f:Bool)(hl:l.length<2^40):ak Tryz.prog 109 [.row 0 f (.ints l),.int n] (.int (iZ l n)):=by
 refine ak.of Bd.eX (by simp) rfl rfl ?_;refine aA.same [0,1,8,9] (fun i:Nat=>[(10,.int i)]) (fun i=>i<=l.length/\(l.take i).any (fun i=>pR i n)=false) (fun i=>l.length-i) 0 rfl (by decide) rfl (fun _=>rfl) ⟨by omega,by simp⟩ ⟨⟨_,rfl,rfl⟩,trivial⟩ ?_;refine⟨rfl,?_⟩;rintro i ⟨hi,hall⟩;refine⟨fun h3=>?_,fun h3=>?_⟩
 ·have hi':i<l.length:=by simpa using h3
  repeat(refine VC.mk (by first|exact fun h=>⟨h,h⟩|(intro h; rw[h]; rfl)|(simp only[Rw.rng] at *; omega)) ?_)
  refine⟨fun h4=>?_,fun h4=>?_⟩
  ·conv=>whnf
   refine aj.int ?_;rw[iZ,iQ (d:=0) hi' h4]; rfl
  ·conv=>whnf
   refine .mk (by simp only[okI] at *; omega) ?_;refine⟨i+1,⟨by omega,?_⟩,by omega,⟨⟨_,rfl,rfl⟩,trivial⟩,?_,rfl⟩
   ·rw[kS (d:=0) hi' hall]; exact h4
   ·repeat' (first|exact trivial|exact⟨_,rfl,rfl⟩|constructor)
 ·have hi':l.length<=i:=by simpa using h3
  rw[List.take_of_length_le hi'] at hall;refine aA.same [0] (fun i:Nat=>[(7,.int (i+1))]) (fun i=>(i<l.length\/i=0)/\Hq l=Hq (l.drop i)) (fun i=>l.length-i) 0 rfl (by decide) rfl (fun _=>rfl) ⟨by omega,by simp⟩ ⟨⟨_,rfl,rfl⟩,trivial⟩ ?_;refine⟨rfl,?_⟩;rintro i ⟨hi,hinc⟩;refine⟨fun h5=>?_,fun h5=>?_⟩
  ·have hi1:i+1<l.length:=by have:=of_decide_eq_true h5; omega
   rw[bY 0 (show i<l.length by omega),bY 0 hi1] at hinc;simp only[Hq] at hinc;rw[<- bY 0 hi1] at hinc;repeat(refine VC.mk (by simp only[okI,Rw.rng] at *; omega) ?_)
   refine⟨fun h6=>?_,fun h6=>?_⟩
   ·conv=>whnf
    refine aj.int ?_;have e1:((i:Int)+1).toNat=i+1:=by omega
    have e2:((i:Int)+1-1).toNat=i:=by omega
    rw[e1,e2] at h6;have h6':l.getD (i+1) 0<=l.getD i 0:=of_decide_eq_true h6;rw[iZ,hall,hinc,decide_eq_false (by omega)]; rfl
   ·conv=>whnf
    refine .mk (by simp only[okI] at *; omega) ?_;conv=>whnf
    have e1:((i:Int)+1).toNat=i+1:=by omega
    have e2:((i:Int)+1-1).toNat=i:=by omega
    rw[e1,e2] at h6;have h6': ¬ l.getD (i+1) 0<=l.getD i 0:=of_decide_eq_false h6;rw[decide_eq_true (by omega),Bool.true_and] at hinc;refine⟨i+1,⟨by omega,hinc⟩,by omega,⟨⟨_,rfl,rfl⟩,trivial⟩,?_,rfl⟩;repeat' (first|exact trivial|exact⟨_,rfl,rfl⟩|constructor)
  ·conv=>whnf
   refine aj.int ?_;have h5': ¬ ((i:Int)+1<l.length):=of_decide_eq_false h5
   have:Hq l=true:=by
    rw[hinc];rcases hd:l.drop i with _|⟨a,_|⟨b,r⟩⟩
    ·rfl
    ·rfl
    ·have:=congrArg List.length hd;simp only[List.length_drop,List.length_cons] at this;omega
   rw[iZ,hall,this]; rfl
def acQ(n:Int):Bool:=decide (n>= -100)&&decide (n<=100)
theorem S.iK(n:Int):ak Tryz.prog 156 [.int n] (.bool (acQ n)):=by
 refine ak.of Bd.iK (by simp) rfl rfl ?_;repeat(refine VC.mk id ?_)
 exact aj.bool rfl
def Uo(l:Lin):Bool:=acQ l.c&&acQ l.n&&acQ l.t&&acQ l.f
theorem S.jS(l:Lin):ak Tryz.prog 133 [.dat (.lin l)] (.bool (Uo l)):=by
 refine ak.of Bd.jS (by simp) rfl rfl ?_;refine ah.pure (S.iK l.c) rfl ?_;repeat(refine VC.mk id ?_)
 refine ah.ig (fun _=>S.iK l.n) rfl ?_;repeat(refine VC.mk id ?_)
 refine ah.ig (fun _=>S.iK l.t) rfl ?_;repeat(refine VC.mk id ?_)
 refine ah.ig (fun _=>S.iK l.f) rfl ?_;refine VC.mk id ?_;exact aj.bool rfl
def jT(p:aI)(v:Int):Int:=dQ (decide (v< -1)||decide (v>=p.values.length)) 5
theorem S.gI(p:aI)(v:Int):ak Tryz.prog 162 [.dat (.fV p),.int v] (.int (jT p v)):=by
 refine ak.of Bd.gI (by simp) rfl rfl ?_;repeat(refine VC.mk (by first|exact id|exact fun h=>⟨h,h⟩|(intro h; rw[h]; rfl)) ?_)
 refine ah.pure (S.bT _ 5) rfl ?_;exact aj.int rfl
theorem Ux{a:Int}(h:(a !=0)=true):a≠0:=by simpa using h
theorem BD{a:Int}(h:(a !=0)=false):a=0:=by simpa using h
def vP(k t:Int):Bool:=bif k==1||k==2||k==3 then t==1 else bif k==4||k==5 then !(t==1) else false
theorem S.qR(k t:Int):ak Tryz.prog 159 [.int k,.int t] (.bool (vP k t)):=by
 refine ak.of Bd.qR (by simp) rfl rfl ?_;refine⟨fun h1=>?_,fun h1=>?_⟩
 ·conv=>whnf
  refine Fork.mk (fun _=>?_) (fun q=>absurd (q.symm.trans (h1)) Bool.false_ne_true);exact aj.bool (by simp[vP,h1])
 ·conv=>whnf
  refine⟨fun h2=>?_,fun h2=>?_⟩
  ·conv=>whnf
   refine Fork.mk (fun _=>?_) (fun q=>absurd (q.symm.trans (h2)) Bool.false_ne_true);exact aj.bool (by simp[vP,h1,h2])
  ·conv=>whnf
   refine⟨fun h3=>?_,fun h3=>?_⟩
   ·conv=>whnf
    exact aj.bool (by simp[vP,h1,h2,h3])
   ·conv=>whnf
    refine⟨fun h4=>?_,fun h4=>?_⟩
    ·conv=>whnf
     refine Fork.mk (fun _=>?_) (fun q=>absurd (q.symm.trans (h4)) Bool.false_ne_true);exact aj.bool (by simp[vP,h1,h2,h3,h4,bne])
    ·conv=>whnf
     refine⟨fun h5=>?_,fun h5=>?_⟩
     ·conv=>whnf
      exact aj.bool (by simp[vP,h1,h2,h3,h4,h5,bne])
     ·conv=>whnf
      exact aj.bool (by simp[vP,h1,h2,h3,h4,h5])
def qW:List Int->Int->Int
 |[],_=>0
 |x::r,n=>if cZ x n=0 then qW r n else cZ x n
def FP(l:List Int)(n:Int):Int:=bif (l.length:Int) !=n then 1 else qW l n
theorem S.kF(l:List Int)(n:Int)(f:Bool)(hl:l.length<2^40):ak Tryz.prog 163 [.row 0 f (.ints l),.int n] (.int (FP l n)):=by
 refine ak.of Bd.kF (by simp) rfl rfl ?_;refine⟨fun h=>?_,fun h=>?_⟩
 ·conv=>whnf
  exact aj.int (by rw[FP,h]; rfl)
 ·conv=>whnf
  refine aA.same [0,1,12,13] (fun i:Nat=>[(14,.int i)]) (fun i=>i<=l.length/\qW l n=qW (l.drop i) n) (fun i=>l.length-i) 0 rfl (by decide) rfl (fun _=>rfl) ⟨by omega,by simp⟩ ⟨⟨_,rfl,rfl⟩,trivial⟩ ?_;refine⟨rfl,?_⟩;rintro i ⟨hi,hall⟩;refine⟨fun h3=>?_,fun h3=>?_⟩
  ·have hi':i<l.length:=by simpa using h3
   rw[bY 0 hi'] at hall;simp only[qW] at hall;refine .mk (by simp only[Rw.rng] at *; omega) ?_;refine ah.pure (S.bV (l.getD i 0) n) rfl ?_;refine⟨fun h4=>?_,fun h4=>?_⟩
   ·conv=>whnf
    refine aj.int ?_
    have:cZ (l.getD i 0) n≠0:=by simpa using h4
    rw[FP,h,cond_false,hall,if_neg this]
   ·conv=>whnf
    refine .mk (by simp only[okI] at *; omega) ?_;conv=>whnf
    have:cZ (l.getD i 0) n=0:=by simpa using h4
    rw[if_pos this] at hall;refine⟨i+1,⟨by omega,hall⟩,by omega,⟨⟨_,rfl,rfl⟩,trivial⟩,?_,rfl⟩;repeat' (first|exact trivial|exact⟨_,rfl,rfl⟩|constructor)
  ·conv=>whnf
   refine aj.int ?_;have hi':l.length<=i:=by simpa using h3
   rw[FP,h,cond_false,hall,List.drop_eq_nil_of_le hi']; rfl
def guardE(p:aI)(g:Bq):Int:=bD [cZ g.message p.messages.length,dQ (decide (g.Gw<1)||decide (g.Gw>100)) 1,dQ (!(Uo g.bound)) 4]
def kJ(p:aI):List Bq->Int
 |[]=>0
 |g::r=>if guardE p g=0 then kJ p r else guardE p g
def yL(p:aI)(l:List Bq):Int:=if kJ p l=0 then dQ (decide ((l.length:Int)>2)) 4 else kJ p l
theorem S.nX(p:aI)(l:List Bq)(f:Bool)(hl:l.length<2^40):ak Tryz.prog 161 [.dat (.fV p),.row 7 f (.rU l)] (.int (yL p l)):=by
 refine ak.of Bd.nX (by simp) rfl rfl ?_;refine aA.same [1,2,8,9] (fun i:Nat=>[(10,.int i)]) (fun i=>i<=l.length/\kJ p l=kJ p (l.drop i)) (fun i=>l.length-i) 0 rfl (by decide) rfl (fun _=>rfl) ⟨by omega,by simp⟩ ⟨⟨_,rfl,rfl⟩,trivial⟩ ?_;refine⟨rfl,?_⟩;rintro i ⟨hi,hall⟩;refine⟨fun h3=>?_,fun h3=>?_⟩
 ·have hi':i<l.length:=by simpa using h3
  rw[bY default hi'] at hall;simp only[kJ] at hall;refine .mk (by simp only[Rw.rng] at *; omega) ?_;refine ah.pure (S.bV (l.getD i default).message p.messages.length) rfl ?_;repeat(refine VC.mk (by first|exact id|(intro h; rw[h]; rfl)) ?_)
  refine ah.pure (S.bT (decide ((l.getD i default).Gw<1)||decide ((l.getD i default).Gw>100)) 1) rfl ?_;refine ah.pure (S.jS (l.getD i default).bound) rfl ?_;refine ah.pure (S.bT (!(Uo (l.getD i default).bound)) 4) rfl ?_;refine ah.pure (S.bK [cZ (l.getD i default).message p.messages.length,dQ (decide ((l.getD i default).Gw<1)||decide ((l.getD i default).Gw>100)) 1,dQ (!(Uo (l.getD i default).bound)) 4] true (show 3<2^40 by decide)) rfl ?_;refine⟨fun h4=>?_,fun h4=>?_⟩
  ·conv=>whnf
   refine aj.int ?_;have h4':guardE p (l.getD i default)≠0:=Ux h4;rw[if_neg h4'] at hall;rw[yL,hall,if_neg h4']; rfl
  ·conv=>whnf
   refine .mk (by simp only[okI] at *; omega) ?_;conv=>whnf
   have h4':guardE p (l.getD i default)=0:=BD h4;rw[if_pos h4'] at hall;refine⟨i+1,⟨by omega,hall⟩,by omega,⟨⟨_,rfl,rfl⟩,trivial⟩,?_,rfl⟩;repeat' (first|exact trivial|exact⟨_,rfl,rfl⟩|constructor)
 ·have hi':l.length<=i:=by simpa using h3
  rw[List.drop_eq_nil_of_le hi'] at hall;refine ah.pure (S.bT (decide ((l.length:Int)>2)) 4) rfl ?_;exact aj.int (by rw[yL,hall]; rfl)
structure vG(r:Rule):Prop where
 response:r.response.length<2^30
 guards:r.guards.length<2^30
 ex:r.ex.length<2^30
 all:r.all.length<2^30
 send:r.send.length<2^30
 left:r.left.length<2^30
 right:r.right.length<2^30
 parent:r.parent.length<2^30
def FD(r:Rule):Bool :=
 decide ((r.response.length:Int)+r.guards.length+r.ex.length+r.all.length+r.send.length+r.left.length+r.right.length+r.parent.length>0)||r.jh !=0||r.zV !=0||r.pos !=0||r.direction !=0||r.read != -1||r.write != -1
def kY(r:Rule)(t:Int):Bool :=
 bif r.kind==1 then FD {r with guards:=[],ex:=[],all:=[],send:=[],read:= -1,write:= -1} else
 bif r.kind==2 then(bif decide ((r.response.length:Int)>0) then true else FD {r with jh:=0,zV:=0,response:=[],read:= -1,write:= -1}) else
 bif r.kind==3 then FD {r with response:=[],read:= -1,write:= -1} else
 bif r.kind==4 then(bif t==4 then FD {r with pos:=0,left:=[],right:=[],parent:=[]} else FD {r with pos:=0,left:=[],right:=[]}) else
 bif r.kind==5 then FD {r with jh:=0,zV:=0,direction:=0} else FD r
theorem S.mO(r:Rule)(t:Int)(hs:vG r):ak Tryz.prog 160 [.dat (.rule r),.int t] (.bool (kY r t)):=by
 obtain⟨g1,g2,g3,g4,g5,g6,g7,g8⟩:=hs;refine ak.of Bd.mO (by simp) rfl rfl ?_;refine⟨fun h1=>?_,fun h1=>?_⟩
 ·conv=>whnf
  repeat(refine VC.mk (by first|exact id|(intro h; rw[h]; rfl)|(simp only[okI] at *; omega)) ?_)
  exact aj.bool (by simp[kY,FD,h1])
 ·conv=>whnf
  refine⟨fun h2=>?_,fun h2=>?_⟩
  ·conv=>whnf
   refine⟨fun h6=>?_,fun h6=>?_⟩
   ·conv=>whnf
    exact aj.bool (by rw[kY,h1,h2,show decide ((r.response.length:Int)>0)=true from h6]; rfl)
   ·conv=>whnf
    repeat(refine VC.mk (by first|exact id|(intro h; rw[h]; rfl)|(simp only[okI] at *; omega)) ?_)
    exact aj.bool (by rw[kY,h1,h2,show decide ((r.response.length:Int)>0)=false from h6]; simp[FD])
  ·conv=>whnf
   refine⟨fun h3=>?_,fun h3=>?_⟩
   ·conv=>whnf
    repeat(refine VC.mk (by first|exact id|(intro h; rw[h]; rfl)|(simp only[okI] at *; omega)) ?_)
    exact aj.bool (by simp[kY,FD,h1,h2,h3])
   ·conv=>whnf
    refine⟨fun h4=>?_,fun h4=>?_⟩
    ·conv=>whnf
     refine⟨fun h7=>?_,fun h7=>?_⟩
     ·conv=>whnf
      repeat(refine VC.mk (by first|exact id|(intro h; rw[h]; rfl)|(simp only[okI] at *; omega)) ?_)
      exact aj.bool (by simp[kY,FD,h1,h2,h3,h4,h7])
     ·conv=>whnf
      repeat(refine VC.mk (by first|exact id|(intro h; rw[h]; rfl)|(simp only[okI] at *; omega)) ?_)
      exact aj.bool (by simp[kY,FD,h1,h2,h3,h4,h7])
    ·conv=>whnf
     refine⟨fun h5=>?_,fun h5=>?_⟩
     ·conv=>whnf
      repeat(refine VC.mk (by first|exact id|(intro h; rw[h]; rfl)|(simp only[okI] at *; omega)) ?_)
      exact aj.bool (by simp[kY,FD,h1,h2,h3,h4,h5])
     ·conv=>whnf
      repeat(refine VC.mk (by first|exact id|(intro h; rw[h]; rfl)|(simp only[okI] at *; omega)) ?_)
      exact aj.bool (by simp[kY,FD,h1,h2,h3,h4,h5])
def acR(h:Hz):Hz->Prop
 |[]=>True
 |(i,o)::r=>h.get i=o/\acR h r
theorem ZX{h:Hz}: ∀ {h0:Hz},acR h h0-> ∀ {i:Nat} {o:OV},h0.get i=some o->h.get i=some o:=by
 intro h0;induction h0 with
 |nil=>intro _ i o e; cases e
 |cons p r ih =>
  obtain⟨j,u⟩:=p;intro hs i o e;simp only[Hz.get] at e;cases hb:Nat.beq j i with
  |true=>rw[hb] at e; simp only[cond_true] at e; rw[<- Nat.eq_of_beq_eq_true hb,hs.1,e]
  |false=>rw[hb] at e; exact ih hs.2 e
def ZY:Hz->Bool
 |[]=>true
 |(_,some o)::r=>o.Dz&&ZY r
 |(_,none)::r=>ZY r
theorem UE: ∀ {h0:Hz},ZY h0=true-> ∀ {i:Nat} {o:OV},h0.get i=some o->o.Dz=true:=by
 intro h0;induction h0 with
 |nil=>intro _ i o e; cases e
 |cons p r ih =>
  obtain⟨j,u⟩:=p;intro hs i o e;simp only[Hz.get] at e;cases hb:Nat.beq j i with
  |true =>
   rw[hb] at e; simp only[cond_true] at e; subst e;simp only[ZY,Bool.and_eq_true] at hs; exact hs.1
  |false =>
   rw[hb] at e;refine ih ?_ e;cases u with
   |none=>exact hs
   |some o=>simp only[ZY,Bool.and_eq_true] at hs; exact hs.2
theorem OV.UF{o:OV}(h:o.Dz=true):T.aS (fun _=>False) o.au.l:=OV.Aq h
theorem iP.same{nx:Nat}{h0 h:Hz}{n:Nat}{post:T->Hp->Prop}{v:V}(hf:v.free=true)(hs:acR h h0)(hg:Jr nx h0=true)(hfr:ZY h0=true)(hp:post v.aH h0.ay):iP h0 n post v h:=by
 have hG:=GR hg;have get: ∀ i ob,h0.ay i=some ob-> ∃ o,h0.get i=some o/\ob=o.au:=fun i ob e=>by
  simp only[Hz.ay,Option.map_eq_some_iff] at e;obtain⟨o,e1,e2⟩:=e;exact⟨o,e1,e2.symm⟩
 have hfree:=V.pq v hf;refine⟨fun _=>False,id,v.aH,h0.ay,hp,?_,fun i ob hi=>?_,fun i j _ _ e=>e,T.bg (fun _ h=>h.elim) _ (fM hfree),fun i ob hi=>?_,fun i _ _=>rfl⟩
 ·rw[VA]; exact aC _
 ·obtain⟨o,e1,rfl⟩:=get i ob hi;refine⟨o.au,aN (ZX hs e1),fun h=>h,rfl,rfl,?_,yV (hG i _ hi).2.2⟩;rw[wo _ (OV.UF (UE hfr e1))]; exact dJ _
 ·obtain⟨o,e1,rfl⟩:=get i ob hi;exact⟨.inl (by rw[hi]; rfl),T.aB (fun _ h=>h.elim) _ (OV.UF (UE hfr e1))⟩
abbrev hRP(p:aI)(r:Rule):Hz:=[(7,some (.box 86 19 (.dat (.rule r)))),(0,some (.box 27 11 (.dat (.fV p))))]
theorem S.QM(p:aI)(r x:Rule)(n:Nat):aP Tryz.prog 158 (V.aU [.dat (.rule x),.ptr 7 0 0]) (hRP p r).ay n (fun t hp=>t= .bool (x.name==r.name)/\hp=(hRP p r).ay):=by
 refine oL.of (nx:=8) Bd.oK (by simp) ⟨_,_,rfl,rfl⟩ rfl rfl ?_;exact iP.same (nx:=8) rfl ⟨rfl,rfl,trivial⟩ rfl rfl ⟨rfl,rfl⟩
def H8(s:Str):List Rule->Nat->Int
 |[],_=> -1
 |x::r,i=>bif x.name==s then(i:Int) else H8 s r (i+1)
theorem S.Z4(p:aI)(r:Rule)(l:List Rule)(f:Bool)(hl:l.length<2^30)(n:Nat):aP Tryz.prog 174 (V.aU [.row 19 f (.rules l),.fn 158 [.ptr 7 0 0]]) (hRP p r).ay n (fun t hp=>t= .int (H8 r.name l 0)/\hp=(hRP p r).ay):=by
 refine oL.of (nx:=8) Bd.gJ (by simp) ⟨_,_,rfl,rfl⟩ rfl rfl ?_;refine aA.same [0,1,6,7] (fun i:Nat=>[(8,.int i)]) (fun i=>i<=l.length/\H8 r.name l 0=H8 r.name (l.drop i) i) (fun i=>l.length-i) 0 rfl (by decide) rfl (fun _=>rfl) ⟨by omega,by simp⟩ ⟨⟨_,rfl,rfl⟩,trivial⟩ ?_;refine⟨rfl,?_⟩;rintro i ⟨hi,hall⟩;refine⟨fun h3=>?_,fun h3=>?_⟩
 ·have hi':i<l.length:=by simpa using h3
  rw[bY default hi'] at hall;simp only[H8] at hall;refine .mk (by simp only[Rw.rng] at *; omega) ?_;refine ah.heap (S.QM p r (l.getD i default) _) ?_;rintro t hp ⟨rfl,rfl⟩;refine⟨.bool _,hRP p r,rfl,rfl,?_⟩;refine⟨fun h4=>?_,fun h4=>?_⟩
  ·conv=>whnf
   rw[h4] at hall;exact iP.same (nx:=8) rfl ⟨rfl,rfl,trivial⟩ rfl rfl ⟨by rw[hall]; rfl,rfl⟩
  ·conv=>whnf
   refine .mk (by simp only[okI] at *; omega) ?_;conv=>whnf
   rw[h4] at hall;refine⟨i+1,⟨by omega,hall⟩,by omega,⟨⟨_,rfl,rfl⟩,trivial⟩,?_,rfl⟩;repeat' (first|exact trivial|exact⟨_,rfl,rfl⟩|constructor)
 ·conv=>whnf
  have hi':l.length<=i:=by simpa using h3
  rw[List.drop_eq_nil_of_le hi'] at hall;exact iP.same (nx:=8) rfl ⟨rfl,rfl,trivial⟩ rfl rfl ⟨by rw[hall]; rfl,rfl⟩
theorem acS{s:Str}{l:List Rule}{i:Nat}:decide (0<=H8 s l i)=l.any fun x=>x.name==s:=by
 have: ∀ {l:List Rule} {i:Nat},0<=H8 s l i↔(l.any fun x=>x.name==s)=true:=by
  intro l;induction l with
  |nil=>intro i; simp[H8]
  |cons x r ih =>
   intro i;rw[List.any_cons,Bool.or_eq_true,<- ih (i:=i+1)];show(0:Int)<=(bif x.name==s then(i:Int) else H8 s r (i+1))↔_;generalize (x.name==s)=b;cases b<;>simp
 rw[Bool.eq_iff_iff,decide_eq_true_eq]; exact this
theorem S.QN(p:aI)(r:Rule)(l:List Rule)(f:Bool)(hl:l.length<2^30)(n:Nat):aP Tryz.prog 157 (V.aU [.row 19 f (.rules l),.fn 158 [.ptr 7 0 0]]) (hRP p r).ay n (fun t hp=>t= .bool (l.any fun x=>x.name==r.name)/\hp=(hRP p r).ay):=by
 refine oL.of (nx:=8) Bd.fP (by simp) ⟨_,_,rfl,rfl⟩ rfl rfl ?_;refine ah.heap (S.Z4 p r l f hl _) ?_;rintro t hp ⟨rfl,rfl⟩;refine⟨.int _,hRP p r,rfl,rfl,?_⟩;exact iP.same (nx:=8) rfl ⟨rfl,rfl,trivial⟩ rfl rfl ⟨by rw[<- acS (i:=0)]; rfl,rfl⟩
theorem ah.mkRow{P:Program}{f:FuncId}{args:List V}{h:Hz}{n ty k:Nat}{r:Rw}{K:V->Hz->Prop}{KW:Nat->V->Hz->Prop}(H:BR P f (V.aU args) (fun n=>.own n) (some ⟨ty,k,r.aU⟩))(hK:K (.own n) ((n,some (.row ty k r []))::h)):ah P false none f args h n K KW :=
 ah.heap (BR.frame H _ _) (by rintro t hp ⟨rfl,rfl⟩; exact⟨.own n,_,rfl,by rw[dF]; simp[jC,OV.au,V.aU],hK⟩)
theorem S.Concat(a b c:List Str)(n:Nat)(h0:0<a.length)(ha:a.length<2^20)(hb:b.length<2^20)(hc:c.length<2^20) :
  aP Tryz.prog 154 (V.aU [.II 0 false [.row 0 false (.strs a),.row 0 false (.strs b),.row 0 false (.strs c)]]) no n (fun t hp=>t= .own n/\hp=Hz.ay [(n,some (.row 9 0 (.strs (a++b++c)) []))]):=by
 refine oL.of (nx:=0) (h0:=[]) Bd.jF (by simp) ⟨_,_,rfl,rfl⟩ rfl rfl ?_;refine aA.times 4 rfl ?_;refine Fork.mk (fun _=>?_) (fun q=>absurd (q.symm.trans (rfl)) Bool.false_ne_true);repeat(refine VC.mk (by first|(omega)|(simp only[okI] at *; omega)) ?_)
 refine Fork.mk (fun q=>absurd (q.symm.trans (decide_eq_false (by omega))).symm Bool.false_ne_true) (fun _=>?_);refine .mk (by simp only[okI] at *; omega) ?_;refine Fork.mk (fun _=>?_) (fun q=>absurd (q.symm.trans (rfl)) Bool.false_ne_true);repeat(refine VC.mk (by first|(omega)|(simp only[okI] at *; omega)) ?_)
 refine Fork.mk (fun q=>absurd (q.symm.trans (decide_eq_false (by omega))).symm Bool.false_ne_true) (fun _=>?_);refine .mk (by simp only[okI] at *; omega) ?_;refine Fork.mk (fun _=>?_) (fun q=>absurd (q.symm.trans (rfl)) Bool.false_ne_true);repeat(refine VC.mk (by first|(omega)|(simp only[okI] at *; omega)) ?_)
 refine Fork.mk (fun q=>absurd (q.symm.trans (decide_eq_false (by omega))).symm Bool.false_ne_true) (fun _=>?_);refine .mk (by simp only[okI] at *; omega) ?_;refine Fork.mk (fun q=>absurd (q.symm.trans (rfl)).symm Bool.false_ne_true) (fun _=>?_);conv=>whnf
 have e:(0+(a.length:Int)+b.length+c.length)=((a.length+b.length+c.length:Nat):Int):=by omega
 rw[e];refine ah.mkRow (r:=.strs []) (S.Grow (a.length+b.length+c.length) (by omega) (by omega)) ?_;refine aA.times 4 rfl ?_;refine Fork.mk (fun _=>?_) (fun q=>absurd (q.symm.trans (rfl)) Bool.false_ne_true);repeat(refine VC.mk (by first|(omega)|(simp only[jH,jP,Rw.len,List.length_nil]; omega)|(simp only[okI] at *; omega)) ?_)
 refine Fork.mk (fun _=>?_) (fun q=>absurd (q.symm.trans (rfl)) Bool.false_ne_true);repeat(refine VC.mk (by first|(omega)|(simp only[jH,jP,Rw.len,List.length_append,List.length_nil]; omega)|(simp only[okI] at *; omega)) ?_)
 refine Fork.mk (fun _=>?_) (fun q=>absurd (q.symm.trans (rfl)) Bool.false_ne_true);repeat(refine VC.mk (by first|(omega)|(simp only[jH,jP,Rw.len,List.length_append,List.length_nil]; omega)|(simp only[okI] at *; omega)) ?_)
 refine Fork.mk (fun q=>absurd (q.symm.trans (rfl)).symm Bool.false_ne_true) (fun _=>?_);refine iP.one (c:=n) (o:=.row 9 0 (.strs (a++b++c)) []) (t:=.own n) rfl rfl rfl nofun (.inr rfl) rfl (.eq rfl) ⟨rfl,rfl⟩
theorem S.aeQ(a b c:List Str)(h0:0<a.length)(ha:a.length<2^20)(hb:b.length<2^20)(hc:c.length<2^20) :
  BR Tryz.prog 154 (V.aU [.II 0 false [.row 0 false (.strs a),.row 0 false (.strs b),.row 0 false (.strs c)]]) (fun n=>.own n) (some ⟨9,0,(Rw.strs (a++b++c)).aU⟩):=by
 refine⟨rfl,fun _=>rfl,(fun ob h=>by cases h; rw[fZ]; intro t ht; obtain⟨x,_,rfl⟩:=List.mem_map.1 ht; rfl),(fun ob h=>by cases h; exact fun e=>absurd e (by decide:(0:Nat)≠iL)),fun n=>(S.Concat a b c n h0 ha hb hc).mono ?_⟩;rintro t hp ⟨rfl,rfl⟩;refine⟨rfl,?_⟩;rw[dF]; simp[jC,OV.au,V.aU]; rfl
theorem ah.aeR{P:Program}{f:FuncId}{args:List V}{ts:List T}{h:Hz}{n ty k:Nat}{r:Rw}{K:V->Hz->Prop}{KW:Nat->V->Hz->Prop}(H:BR P f ts (fun n=>.own n) (some ⟨ty,k,r.aU⟩))(hs:T.dA (fun _=>True) h.ay ts (V.aU args))(hh:T.xM r.aU=true)(hK:K (.own n) ((n,some (.row ty k r []))::h)):ah P false none f args h n K KW :=
 ⟨.inl (BR.lend H hs rfl (fun _ e=>by cases e; exact hh) ⟨.own n,_,rfl,by rw[dF]; simp[jC,OV.au,V.aU],(fun e=>by cases e),hK⟩)⟩
theorem ahB{h:Hz}{j ty:Nat}{Z:Nat->Prop}{l:List V}(hz:Z j)(q:h.get j=some (.row ty 0 .nil l))(hf:V.bW l=true):T.sub Z h.ay (V.II 0 false l).aH (V.own j).aH:=by
 show T.sub Z h.ay (.sl 0 false (V.aU l)) (.own j);simp only[T.sub];exact⟨trivial,hz,V.iJ l hf,by decide,ty,by rw[aN q]; rfl⟩
theorem Z5{l:List Str}:T.xM (Rw.strs l).aU=true:=by
 show T.xM (l.map eS)=true;induction l with
 |nil=>rfl
 |cons s r ih=>simp only[List.map_cons,T.xM,ih]; rfl
theorem ahC{h:Hz}{j i ty:Nat}{Z:Nat->Prop}{l:List Str}(hz:Z j)(q:h.get j=some (.row ty 0 (.strs l) []))(hi:i<=l.length):T.sub Z h.ay (V.row 0 false (.strs (l.take i))).aH (V.qE j 0 i).aH:=by
 show T.sub Z h.ay (.sl 0 false ((l.take i).map eS)) (.qE j 0 i);simp only[T.sub];refine⟨trivial,hz,?_,by decide,ty,l.map eS,?_,by simpa using hi,by simp[List.map_take]⟩
 ·rw[fZ]; intro t ht; obtain⟨x,_,rfl⟩:=List.mem_map.1 ht; rfl
 ·rw[aN q]; simp[OV.au,Rw.aU,V.aU]
def allNames(p:aI):List Str:=p.states++p.messages++p.values
def QI(l:List Str)(i:Nat):Bool:= !(validName (l.getD i []))||(l.take i).any fun x=>l.getD i []==x
def AQ(p:aI):Int:=bif (List.range (allNames p).length).any (QI (allNames p)) then 2 else 0
theorem Dy{n:Nat}{f:Nat->Bool}:(List.range n).any f=true↔ ∃ i,i<n/\f i=true:=by
 simp[List.any_eq_true]
theorem S.pK(p:aI)(h0:0<p.states.length)(h1:p.states.length<2^20)(h2:p.messages.length<2^20)(h3:p.values.length<2^20):ak Tryz.prog 132 [.dat (.fV p)] (.int (AQ p)):=by
 have hlen:(allNames p).length<2^30:=by simp only[allNames,List.length_append]; omega
 refine ak.of Bd.pK (by simp) rfl rfl ?_;refine ah.aeR (r:=.strs (allNames p)) (S.aeQ p.states p.messages p.values h0 h1 h2 h3) (And.intro (ahB (ty:=22) trivial rfl rfl) trivial) Z5 ?_;refine aA.same [3,14,15] (fun i:Nat=>[(16,.int i)]) (fun i=>i<=(allNames p).length/\(List.range i).any (QI (allNames p))=false) (fun i=>(allNames p).length-i) 0 rfl (by decide) rfl (fun _=>rfl) ⟨Nat.zero_le _,rfl⟩ ⟨⟨_,rfl,rfl⟩,trivial⟩ ?_;refine⟨rfl,?_⟩;rintro i ⟨hi,hall⟩;refine⟨fun h4=>?_,fun h4=>?_⟩
 ·have hi':i<(allNames p).length:=by simpa using h4
  repeat(refine VC.mk (by simp only[Rw.rng] at *; omega) ?_)
  refine ah.pure (S.gQ ((allNames p).getD i [])) rfl ?_;repeat(refine VC.mk (by first|exact fun h=>⟨h,h⟩|(intro h; (repeat' apply And.intro)<;>first|exact h|omega|(simp only[Rw.qY]; omega)|(simp only[Rw.rng]; omega))) ?_)
  refine ah.aeU (fun _=>S.slices_Contains_string ((allNames p).take i) ((allNames p).getD i []) false (by rw[List.length_take]; omega)) (fun _=>And.intro (ahC (ty:=9) trivial rfl (by omega)) (And.intro (aC _) trivial)) rfl rfl ?_;refine .mk (by intro h; rw[h]; rfl) ?_;refine⟨fun h5=>?_,fun h5=>?_⟩
  ·conv=>whnf
   refine aj.int ?_;rw[AQ,Dy.2 ⟨i,hi',h5⟩]; rfl
  ·conv=>whnf
   refine .mk (by simp only[okI] at *; omega) ?_;refine⟨i+1,⟨by omega,?_⟩,by omega,⟨⟨_,rfl,rfl⟩,trivial⟩,?_,rfl⟩
   ·rw[List.range_succ,List.any_append,hall];simp only[List.any_cons,List.any_nil,Bool.or_false,Bool.false_or]; exact h5
   ·repeat' (first|exact trivial|exact⟨_,rfl,rfl⟩|constructor)
 ·have hi':(allNames p).length<=i:=by simpa using h4
  have e:i=(allNames p).length:=Nat.le_antisymm hi hi';subst e;exact aj.int (by rw[AQ,hall]; rfl)
theorem ah.qA{P:Program}{f:FuncId}{args:List V}{h:Hz}{hp0:Hp}{n:Nat}{K:V->Hz->Prop}{KW:Nat->V->Hz->Prop}{post:T->Hp->Prop}(S:aP P f (V.aU args) hp0 n post)(e:h.ay=hp0)(hK: ∀ t hp,post t hp-> ∃ v h',t=v.aH/\hp=Hz.ay h'/\K v h'):ah P false none f args h n K KW:=by
 subst e; exact ah.heap S hK
theorem UG{i:Nat}{a b:Option OV}{r:Hz}:Hz.ay ((i,a)::(i,b)::r)=Hz.ay ((i,a)::r):=funext fun j=>by
 simp only[Hz.ay,Hz.get]; cases Nat.beq i j<;>rfl
structure eU(p:aI):Prop where
 states:p.states.length<2^20
 messages:p.messages.length<2^20
 values:p.values.length<2^20
 cu:p.cu.length<2^30
 initial:p.initial.length<2^30
 leader:p.leader.length<2^30
 rules:p.rules.length<2^30
 rule: ∀ i,vG (p.rules.getD i default)
 rU:(p.rules.flatMap Rule.guards).length<2^30
def tX(p:aI)(i:Nat):Bool:= !(validName (p.rules.getD i default).name)||(p.rules.take i).any fun x=>x.name==(p.rules.getD i default).name
def rZ(p:aI)(i:Nat):Bool:= !(vP (p.rules.getD i default).kind p.topology)||kY (p.rules.getD i default) p.topology
def yc(p:aI)(r:Rule):Int:=bD [cZ r.fr p.states.length,cZ r.to p.states.length]
def acG(p:aI)(r:Rule):Bool:=decide (r.pos<0)||decide (r.pos>2)||(r.pos !=0&&p.topology==3)
def gX(p:aI)(i:Nat):Int :=
 let r:=p.rules.getD i default
 let n:Int:=p.states.length
 bif tX p i then 2 else bif rZ p i then 6 else bif yc p r !=0 then yc p r else
 bif r.kind==1 then bD [yL p r.guards,iZ r.ex n,iZ r.all n,jT p r.read,jT p r.write,iZ r.send p.messages.length] else
 bif r.kind==2 then bD [cZ r.jh n,cZ r.zV n,jT p r.read,jT p r.write] else
 bif r.kind==3 then bD [FP r.response n,jT p r.read,jT p r.write] else
 bif r.kind==4 then bD [iZ r.left n,iZ r.right n,iZ r.parent n,dQ (acG p r) 1] else
 bif p.topology==4 then bD [cZ r.jh n,cZ r.zV n,dQ (decide (r.direction<3)||decide (r.direction>4)) 1]
 else bD [cZ r.jh n,cZ r.zV n,dQ (decide (r.direction<1)||decide (r.direction>2)) 1]
theorem S.kE(p:aI)(i:Nat)(hi:i<p.rules.length)(hp:eU p):ak Tryz.prog 134 [.dat (.fV p),.int i] (.int (gX p i)):=by
 have hr:=hp.rule i;have hp1:=hp.rules;have hp2:=hp.states;have hp3:=hp.messages;refine ak.of Bd.kE (by simp) rfl rfl ?_;repeat(refine VC.mk (by first|(simp only[Rw.qY]; omega)|(simp only[Rw.rng] at *; omega)) ?_)
 refine ah.qA (S.QN p (p.rules.getD i default) (p.rules.take i) false (by rw[List.length_take]; omega) _) UG ?_;rintro t hp' ⟨rfl,rfl⟩;refine⟨.bool _,hRP p (p.rules.getD i default),rfl,rfl,?_⟩;refine ah.pure (S.gQ (p.rules.getD i default).name) rfl ?_;refine .mk (by intro h; rw[h]; rfl) ?_;refine⟨fun h1=>?_,fun h1=>?_⟩
 ·conv=>whnf
  exact aj.int (by rw[gX,show tX p i=true from h1]; rfl)
 ·conv=>whnf
  refine ah.pure (S.qR (p.rules.getD i default).kind p.topology) rfl ?_;repeat(refine VC.mk (by first|exact id|exact fun h=>⟨h,h⟩) ?_)
  refine ah.ig (fun _=>S.mO (p.rules.getD i default) p.topology hr) rfl ?_;refine .mk (by intro h; rw[h]; rfl) ?_;refine⟨fun h2=>?_,fun h2=>?_⟩
  ·conv=>whnf
   exact aj.int (by rw[gX,show tX p i=false from h1,show rZ p i=true from h2]; rfl)
  ·conv=>whnf
   refine ah.pure (S.bV (p.rules.getD i default).fr p.states.length) rfl ?_;refine ah.pure (S.bV (p.rules.getD i default).to p.states.length) rfl ?_;refine ah.pure (S.bK [cZ (p.rules.getD i default).fr p.states.length,cZ (p.rules.getD i default).to p.states.length] true (show 2<2^40 by decide)) rfl ?_;refine⟨fun h3=>?_,fun h3=>?_⟩
   ·conv=>whnf
    exact aj.int (by rw[gX,show tX p i=false from h1,show rZ p i=false from h2,show(yc p (p.rules.getD i default) !=0)=true from h3]; rfl)
   ·conv=>whnf
    refine⟨fun h4=>?_,fun h4=>?_⟩
    ·conv=>whnf
     refine ah.pure (S.nX p (p.rules.getD i default).guards false (by have:=hr.guards; omega)) rfl ?_;refine ah.pure (S.eX (p.rules.getD i default).ex p.states.length false (by have:=hr.ex; omega)) rfl ?_;refine ah.pure (S.eX (p.rules.getD i default).all p.states.length false (by have:=hr.all; omega)) rfl ?_;refine ah.pure (S.gI p (p.rules.getD i default).read) rfl ?_;refine ah.pure (S.gI p (p.rules.getD i default).write) rfl ?_;refine ah.pure (S.eX (p.rules.getD i default).send p.messages.length false (by have:=hr.send; omega)) rfl ?_;refine ah.pure (S.bK [yL p (p.rules.getD i default).guards,iZ (p.rules.getD i default).ex p.states.length,iZ (p.rules.getD i default).all p.states.length,jT p (p.rules.getD i default).read,jT p (p.rules.getD i default).write,iZ (p.rules.getD i default).send p.messages.length] true (show 6<2^40 by decide)) rfl ?_;exact aj.int (by rw[gX,show tX p i=false from h1,show rZ p i=false from h2,show(yc p (p.rules.getD i default) !=0)=false from h3,h4]; rfl)
    ·conv=>whnf
     refine⟨fun h5=>?_,fun h5=>?_⟩
     ·conv=>whnf
      refine ah.pure (S.bV (p.rules.getD i default).jh p.states.length) rfl ?_;refine ah.pure (S.bV (p.rules.getD i default).zV p.states.length) rfl ?_;refine ah.pure (S.gI p (p.rules.getD i default).read) rfl ?_;refine ah.pure (S.gI p (p.rules.getD i default).write) rfl ?_;refine ah.pure (S.bK [cZ (p.rules.getD i default).jh p.states.length,cZ (p.rules.getD i default).zV p.states.length,jT p (p.rules.getD i default).read,jT p (p.rules.getD i default).write] true (show 4<2^40 by decide)) rfl ?_;exact aj.int (by rw[gX,show tX p i=false from h1,show rZ p i=false from h2,show(yc p (p.rules.getD i default) !=0)=false from h3,h4,h5]; rfl)
     ·conv=>whnf
      refine⟨fun h6=>?_,fun h6=>?_⟩
      ·conv=>whnf
       refine ah.pure (S.kF (p.rules.getD i default).response p.states.length false (by have:=hr.response; omega)) rfl ?_;refine ah.pure (S.gI p (p.rules.getD i default).read) rfl ?_;refine ah.pure (S.gI p (p.rules.getD i default).write) rfl ?_;refine ah.pure (S.bK [FP (p.rules.getD i default).response p.states.length,jT p (p.rules.getD i default).read,jT p (p.rules.getD i default).write] true (show 3<2^40 by decide)) rfl ?_;exact aj.int (by rw[gX,show tX p i=false from h1,show rZ p i=false from h2,show(yc p (p.rules.getD i default) !=0)=false from h3,h4,h5,h6]; rfl)
      ·conv=>whnf
       refine⟨fun h7=>?_,fun h7=>?_⟩
       ·conv=>whnf
        repeat(refine VC.mk (by first|exact id|(intro h; rw[h]; rfl)|(intro h; simp_all; done)) ?_)
        refine ah.pure (S.eX (p.rules.getD i default).left p.states.length false (by have:=hr.left; omega)) rfl ?_;refine ah.pure (S.eX (p.rules.getD i default).right p.states.length false (by have:=hr.right; omega)) rfl ?_;refine ah.pure (S.eX (p.rules.getD i default).parent p.states.length false (by have:=hr.parent; omega)) rfl ?_;refine ah.pure (S.bT (acG p (p.rules.getD i default)) 1) rfl ?_;refine ah.pure (S.bK [iZ (p.rules.getD i default).left p.states.length,iZ (p.rules.getD i default).right p.states.length,iZ (p.rules.getD i default).parent p.states.length,dQ (acG p (p.rules.getD i default)) 1] true (show 4<2^40 by decide)) rfl ?_;exact aj.int (by rw[gX,show tX p i=false from h1,show rZ p i=false from h2,show(yc p (p.rules.getD i default) !=0)=false from h3,h4,h5,h6,h7]; rfl)
       ·conv=>whnf
        refine⟨fun h8=>?_,fun h8=>?_⟩
        ·conv=>whnf
         refine ah.pure (S.bV (p.rules.getD i default).jh p.states.length) rfl ?_;refine ah.pure (S.bV (p.rules.getD i default).zV p.states.length) rfl ?_;repeat(refine VC.mk (by first|exact id|exact fun h=>⟨h,h⟩|(intro h; rw[h]; rfl)) ?_)
         refine ah.pure (S.bT (decide ((p.rules.getD i default).direction<3)||decide ((p.rules.getD i default).direction>4)) 1) rfl ?_;refine ah.pure (S.bK [cZ (p.rules.getD i default).jh p.states.length,cZ (p.rules.getD i default).zV p.states.length,dQ (decide ((p.rules.getD i default).direction<3)||decide ((p.rules.getD i default).direction>4)) 1] true (show 3<2^40 by decide)) rfl ?_;exact aj.int (by rw[gX,show tX p i=false from h1,show rZ p i=false from h2,show(yc p (p.rules.getD i default) !=0)=false from h3,h4,h5,h6,h7,h8]; rfl)
        ·conv=>whnf
         refine ah.pure (S.bV (p.rules.getD i default).jh p.states.length) rfl ?_;refine ah.pure (S.bV (p.rules.getD i default).zV p.states.length) rfl ?_;repeat(refine VC.mk (by first|exact id|exact fun h=>⟨h,h⟩|(intro h; rw[h]; rfl)) ?_)
         refine ah.pure (S.bT (decide ((p.rules.getD i default).direction<1)||decide ((p.rules.getD i default).direction>2)) 1) rfl ?_;refine ah.pure (S.bK [cZ (p.rules.getD i default).jh p.states.length,cZ (p.rules.getD i default).zV p.states.length,dQ (decide ((p.rules.getD i default).direction<1)||decide ((p.rules.getD i default).direction>2)) 1] true (show 3<2^40 by decide)) rfl ?_;exact aj.int (by rw[gX,show tX p i=false from h1,show rZ p i=false from h2,show(yc p (p.rules.getD i default) !=0)=false from h3,h4,h5,h6,h7,h8]; rfl)
def yK(g:Bq):List Bq->Nat->Int
 |[],_=> -1
 |x::r,i=>bif g==x then(i:Int) else yK g r (i+1)
theorem Uu{g:Bq}{l:List Bq}{i:Nat}:decide (0<=yK g l i)=l.any fun x=>g==x:=by
 have: ∀ {l:List Bq} {i:Nat},0<=yK g l i↔(l.any fun x=>g==x)=true:=by
  intro l;induction l with
  |nil=>intro i; simp[yK]
  |cons x r ih =>
   intro i;rw[List.any_cons,Bool.or_eq_true,<- ih (i:=i+1)];show(0:Int)<=(bif g==x then(i:Int) else yK g r (i+1))↔_;generalize (g==x)=b;cases b<;>simp
 rw[Bool.eq_iff_iff,decide_eq_true_eq]; exact this
theorem S.acT(l:List Bq)(g:Bq)(f:Bool)(hl:l.length<2^40):ak Tryz.prog 175 [.row 7 f (.rU l),.dat (.UM g)] (.int (yK g l 0)):=by
 refine ak.of Bd.fB (by simp) rfl rfl ?_;refine aA.same [0,3,6,7] (fun i:Nat=>[(8,.int i)]) (fun i=>i<=l.length/\yK g l 0=yK g (l.drop i) i) (fun i=>l.length-i) 0 rfl (by decide) rfl (fun _=>rfl) ⟨by omega,by simp⟩ ⟨⟨_,rfl,rfl⟩,trivial⟩ ?_;refine⟨rfl,?_⟩;rintro i ⟨hi,hall⟩;refine⟨fun h3=>?_,fun h3=>?_⟩
 ·have hi':i<l.length:=by simpa using h3
  rw[bY default hi'] at hall;simp only[yK] at hall;refine .mk (by simp only[Rw.rng] at *; omega) ?_;refine⟨fun h4=>?_,fun h4=>?_⟩
  ·conv=>whnf
   refine aj.int ?_;have h4':(g==l.getD i default)=true:=h4;rw[hall,h4']; rfl
  ·conv=>whnf
   refine .mk (by simp only[okI] at *; omega) ?_;refine⟨i+1,⟨by omega,?_⟩,by omega,⟨⟨_,rfl,rfl⟩,trivial⟩,?_,rfl⟩
   ·have h4':(g==l.getD i default)=false:=h4;rw[hall,h4']; rfl
   ·repeat' (first|exact trivial|exact⟨_,rfl,rfl⟩|constructor)
 ·conv=>whnf
  refine aj.int ?_;have hi':l.length<=i:=by simpa using h3
  rw[hall,List.drop_eq_nil_of_le hi']; rfl
theorem S.UH(l:List Bq)(g:Bq)(f:Bool)(hl:l.length<2^40):ak Tryz.prog 164 [.row 7 f (.rU l),.dat (.UM g)] (.bool (l.any fun x=>g==x)):=by
 refine ak.of Bd.eG (by simp) rfl rfl ?_;refine ah.pure (S.acT l g f hl) rfl ?_;exact aj.bool Uu.symm
theorem acD{h:Hz}{j:Nat}{Z:Nat->Prop}{l:List Bq}(hz:Z j)(q:h.get j=some (.row 148 7 (.rU l) [])):T.sub Z h.ay (V.row 7 false (.rU l)).aH (V.own j).aH:=by
 show T.sub Z h.ay (.sl 7 false (l.map SE)) (.own j);simp only[T.sub];refine⟨trivial,hz,?_,by decide,148,?_⟩
 ·rw[fZ]; intro t ht; obtain⟨x,_,rfl⟩:=List.mem_map.1 ht; rfl
 ·have:=aN q;rw[this]; simp[OV.au,Rw.aU,V.aU]
theorem Dv{α β:Type}{f:β->α->β}{b:β}{l:List α}{i:Nat}{d:α}(h:i<l.length):(l.take (i+1)).foldl f b=f ((l.take i).foldl f b) (l.getD i d):=by
 rw[List.take_add_one,List.foldl_append];simp[List.getElem?_eq_getElem h]
theorem aj.ahy{h:Hz}{j:Nat}{l:List Bq}(q:h.get j=some (.row 148 7 (.rU l) [])):aj (.row 7 false (.rU l)) (.own j) h:=⟨acD trivial q⟩
def JI(acc:List Bq)(g:Bq):List Bq:=bif acc.any (fun x=>g==x) then acc else acc++[g]
def zS(l:List Rule):List Bq:=(l.flatMap Rule.guards).foldl JI []
theorem acU{acc:List Bq}{g:Bq}:(JI acc g).length<=acc.length+1:=by
 unfold JI; cases acc.any (fun x=>g==x)<;>simp
theorem UJ: ∀ {l acc:List Bq},(l.foldl JI acc).length<=acc.length+l.length:=by
 intro l;induction l with
 |nil=>intro acc; simp
 |cons g r ih =>
  intro acc;have:=ih (acc:=JI acc g);have h2:=acU (acc:=acc) (g:=g);simp only[List.foldl_cons,List.length_cons]; omega
abbrev rowT(l:List Bq):OV:=.row 148 7 (.rU l) []
def zT(p:aI)(i k:Nat):List Bq:=((p.rules.getD i default).guards.take k).foldl JI (zS (p.rules.take i))
theorem Uw(p:aI)(hp:eU p)(i k:Nat)(_hi:i<p.rules.length):(zT p i k).length<2^31:=by
 have h1:=UJ (l:=(p.rules.getD i default).guards.take k) (acc:=zS (p.rules.take i));have h2:=UJ (l:=(p.rules.take i).flatMap Rule.guards) (acc:=[]);have h3:=(hp.rule i).guards;have h4:((p.rules.take i).flatMap Rule.guards).length<=(p.rules.flatMap Rule.guards).length:=by
  conv=>rhs; rw[<- List.take_append_drop i p.rules,List.flatMap_append,List.length_append]
  omega
 have h5:=hp.rU;have h6:((p.rules.getD i default).guards.take k).length<=(p.rules.getD i default).guards.length:=by simp[List.length_take]; omega
 unfold zT;unfold zS at h1 ⊢;simp only[List.length_nil,Nat.zero_add] at h2;omega
theorem Pn(p:aI){i:Nat}(hi:i<p.rules.length):zS (p.rules.take (i+1))=zT p i (p.rules.getD i default).guards.length:=by
 unfold zT;rw[List.take_of_length_le (Nat.le_refl _)];unfold zS;rw[List.take_add_one,List.flatMap_append,List.foldl_append];simp[List.getElem?_eq_getElem hi]
theorem S.jJ(p:aI)(hp:eU p):ak Tryz.prog 135 [.dat (.fV p)] (.row 7 false (.rU (zS p.rules))):=by
 have hp1:=hp.rules;refine ak.of Bd.jJ (by simp) rfl rfl ?_;refine aA.nil 3 148 7 (by rfl) rfl rfl rfl ?_;refine aA.objs 1 [9,10] (fun i:Nat=>[(11,.int i),(3,.own 0)]) (fun i=>[(0,rowT (zS (p.rules.take i)))]) (fun i=>i<=p.rules.length) (fun i=>p.rules.length-i) 0 [7] rfl (by decide) (fun _=>rfl) (Nat.zero_le _) ?_ ?_ ?_
 ·exact(sR rfl)
 ·exact⟨dL rfl rfl,trivial⟩
 refine⟨(sR rfl),rfl,?_⟩;rintro i hi;refine⟨fun h3=>?_,fun h3=>?_⟩
 ·have hi':i<p.rules.length:=by simpa using h3
  refine .mk (by simp only[Rw.rng] at *; first|omega|(simp_all; done)|(simp_all; omega)) ?_;refine aA.objs 1 [9,10,11,16,17] (fun k:Nat=>[(18,.int k),(3,.own 0)]) (fun k=>[(0,rowT (zT p i k))]) (fun k=>k<=(p.rules.getD i default).guards.length) (fun k=>(p.rules.getD i default).guards.length-k) 0 [0] rfl (by decide) (fun _=>rfl) (Nat.zero_le _) ?_ ?_ ?_
  ·exact(sR rfl)
  ·exact⟨dL rfl rfl,trivial⟩
  refine⟨(sR rfl),rfl,?_⟩;rintro k hk;have hacc:=Uw p hp i k hi';have hg:=(hp.rule i).guards;refine⟨fun h4=>?_,fun h4=>?_⟩
  ·have hk':k<(p.rules.getD i default).guards.length:=by simpa using h4
   have hst:zT p i (k+1)=JI (zT p i k) ((p.rules.getD i default).guards.getD k default):=Dv hk';refine .mk (by simp only[Rw.rng] at *; first|omega|(simp_all; done)|(simp_all; omega)) ?_;refine ah.lend (S.UH (zT p i k) ((p.rules.getD i default).guards.getD k default) false (by omega)) (And.intro (acD trivial rfl) (And.intro (aC _) trivial)) rfl rfl ?_;refine⟨fun h5=>?_,fun h5=>?_⟩
   ·conv=>whnf
    repeat(refine VC.mk (by first|(show((zT p i k).length+(0+1))*48<=140737488355328/\(zT p i k).length+(0+1)<=1152921504606846976; omega)|(simp only[okI] at *; first|omega|(simp_all; done)|(simp_all; omega))) ?_)
    have h5':((zT p i k).any fun x=>(p.rules.getD i default).guards.getD k default==x)=false:=by simpa using h5
    refine⟨k+1,[13],by omega,by omega,(sR rfl),(sR rfl),⟨rfl,nofun,rfl,rfl,rfl,_,rfl,rfl,rfl,dP.of_eq ?_⟩,trivial⟩;rw[hst,JI,h5'];rfl
   ·conv=>whnf
    refine .mk (by simp only[okI] at *; first|omega|(simp_all; done)|(simp_all; omega)) ?_;conv=>whnf
    have h5':((zT p i k).any fun x=>(p.rules.getD i default).guards.getD k default==x)=true:=by simpa using h5
    refine⟨k+1,[0],by omega,by omega,(sR rfl),(sR rfl),⟨rfl,nofun,rfl,rfl,rfl,_,rfl,rfl,rfl,dP.of_eq ?_⟩,trivial⟩;rw[hst,JI,h5']; rfl
  ·have hk':(p.rules.getD i default).guards.length<=k:=by simpa using h4
   have e:k=(p.rules.getD i default).guards.length:=Nat.le_antisymm hk hk';subst e;refine .mk (by simp only[okI] at *; first|omega|(simp_all; done)|(simp_all; omega)) ?_;refine⟨i+1,[0],by omega,by omega,(sR rfl),(sR rfl),⟨rfl,nofun,rfl,rfl,rfl,_,rfl,rfl,rfl,dP.of_eq ?_⟩,trivial⟩;rw[Pn p hi']
 ·have hi':p.rules.length<=i:=by simpa using h3
  rw[List.take_of_length_le hi'];exact aj.ahy rfl
def vO(p:aI):Bool:=decide (p.topology<1)||decide (p.topology>4)||decide (p.fault<0)||decide (p.fault>3)
def wV(p:aI):Bool:=decide ((p.states.length:Int)>6)||decide ((p.messages.length:Int)>3)||decide ((p.values.length:Int)>3)||decide ((p.cu.length:Int)>4)||decide ((p.rules.length:Int)>8)
def Uy(p:aI):Bool:=(!(p.topology==1)&&(decide ((p.messages.length:Int)>0)||decide ((p.values.length:Int)>0)||decide ((p.cu.length:Int)>0)||p.fault !=0))||((p.topology==1)&&decide ((p.leader.length:Int)>0))
def y5(p:aI):Int:=bD [iZ p.initial p.states.length,dQ ((p.initial.length:Int)==0) 1,iZ p.leader p.states.length]
def EF(p:aI):Int:=bD ((List.range p.rules.length).map (gX p))
def bI(p:aI):Int :=
 bif !(validName p.name) then 2 else bif vO p then 1 else bif (p.states.length:Int)==0 then 1 else bif wV p then 4 else
 bif AQ p !=0 then AQ p else bif Uy p then 1 else
 bif p.cu.any (fun l=> !(Uo l)) then 4 else
 bif y5 p !=0 then y5 p else
 bif EF p !=0 then EF p else dQ (decide (((zS p.rules).length:Int)>3)) 4
theorem Nk{n i:Nat}{f:Nat->Int}(h:i<n):((List.range n).drop i).map f=f i::((List.range n).drop (i+1)).map f:=by
 rw[List.drop_eq_getElem_cons (by simpa using h)]; simp
theorem S.jq(p:aI)(hp:eU p):ak Tryz.prog 107 [.dat (.fV p)] (.int (bI p)):=by
 have g1:=hp.states; have g2:=hp.messages; have g3:=hp.values; have g4:=hp.cu; have g5:=hp.initial; have g6:=hp.leader; have g7:=hp.rules;refine ak.of Bd.jq (by simp) rfl rfl ?_;refine ah.pure (S.gQ p.name) rfl ?_;refine⟨fun h1=>?_,fun h1=>?_⟩
 ·conv=>whnf
  exact aj.int (by rw[bI,h1]; rfl)
 repeat(refine VC.mk (by first|exact id|(intro h; rw[h]; rfl)) ?_)
 refine⟨fun h2=>?_,fun h2=>?_⟩
 ·conv=>whnf
  exact aj.int (by rw[bI,h1,show vO p=true from h2]; rfl)
 refine⟨fun h3=>?_,fun h3=>?_⟩
 ·conv=>whnf
  exact aj.int (by rw[bI,h1,show vO p=false from h2,h3]; rfl)
 repeat(refine VC.mk (by first|exact id|(intro h; rw[h]; rfl)) ?_)
 refine⟨fun h4=>?_,fun h4=>?_⟩
 ·conv=>whnf
  exact aj.int (by rw[bI,h1,show vO p=false from h2,h3,show wV p=true from h4]; rfl)
 conv=>whnf
 have h0:0<p.states.length:=by
  rcases Nat.eq_zero_or_pos p.states.length with e|e
  ·rw[e] at h3; exact absurd h3 (by decide)
  ·exact e
 refine ah.pure (S.pK p h0 g1 g2 g3) rfl ?_;refine⟨fun h5=>?_,fun h5=>?_⟩
 ·conv=>whnf
  exact aj.int (by rw[bI,h1,show vO p=false from h2,h3,show wV p=false from h4,h5]; rfl)
 repeat(refine VC.mk (by first|exact id|(intro h; rw[h]; rfl)|(intro h; simp_all; done)) ?_)
 refine⟨fun h6=>?_,fun h6=>?_⟩
 ·conv=>whnf
  exact aj.int (by rw[bI,h1,show vO p=false from h2,h3,show wV p=false from h4,h5,show Uy p=true from h6]; rfl)
 refine aA.same [1,4,111,112] (fun i:Nat=>[(113,.int i)]) (fun i=>i<=p.cu.length/\(p.cu.take i).any (fun l=> !(Uo l))=false) (fun i=>p.cu.length-i) 0 rfl (by decide) rfl (fun _=>rfl) ⟨by omega,by simp⟩ ⟨⟨_,rfl,rfl⟩,trivial⟩ ?_;refine⟨rfl,?_⟩;rintro i ⟨hi,hall⟩;refine⟨fun h7=>?_,fun h7=>?_⟩
 ·have hi':i<p.cu.length:=by simpa using h7
  refine .mk (by simp only[Rw.rng] at *; omega) ?_;refine ah.pure (S.jS (p.cu.getD i default)) rfl ?_;refine⟨fun h8=>?_,fun h8=>?_⟩
  ·conv=>whnf
   exact aj.int (by rw[bI,h1,show vO p=false from h2,h3,show wV p=false from h4,h5,show Uy p=false from h6,iQ (d:=default) hi' h8]; rfl)
  ·conv=>whnf
   refine .mk (by simp only[okI] at *; omega) ?_;refine⟨i+1,⟨by omega,?_⟩,by omega,⟨⟨_,rfl,rfl⟩,trivial⟩,?_,rfl⟩
   ·rw[kS (d:=default) hi' hall]; exact h8
   ·repeat' (first|exact trivial|exact⟨_,rfl,rfl⟩|constructor)
 have hi':p.cu.length<=i:=by simpa using h7
 rw[List.take_of_length_le hi'] at hall;refine ah.pure (S.eX p.initial p.states.length false (by omega)) rfl ?_;refine ah.pure (S.bT ((p.initial.length:Int)==0) 1) rfl ?_;refine ah.pure (S.eX p.leader p.states.length false (by omega)) rfl ?_;refine ah.pure (S.bK [iZ p.initial p.states.length,dQ ((p.initial.length:Int)==0) 1,iZ p.leader p.states.length] true (show 3<2^40 by decide)) rfl ?_;refine⟨fun h9=>?_,fun h9=>?_⟩
 ·conv=>whnf
  exact aj.int (by rw[bI,h1,show vO p=false from h2,h3,show wV p=false from h4,h5,show Uy p=false from h6,hall,show(y5 p !=0)=true from h9]; rfl)
 refine aA.same [1,140,141] (fun i:Nat=>[(142,.int i)]) (fun i=>i<=p.rules.length/\EF p=bD (((List.range p.rules.length).drop i).map (gX p))) (fun i=>p.rules.length-i) 0 rfl (by decide) rfl (fun _=>rfl) ⟨by omega,by simp[EF]⟩ ⟨⟨_,rfl,rfl⟩,trivial⟩ ?_;refine⟨rfl,?_⟩;rintro i ⟨hi,hr⟩;refine⟨fun h10=>?_,fun h10=>?_⟩
 ·have hi':i<p.rules.length:=by simpa using h10
  rw[Nk hi'] at hr;simp only[bD] at hr;refine ah.pure (S.kE p i hi' hp) rfl ?_;refine⟨fun h11=>?_,fun h11=>?_⟩
  ·conv=>whnf
   have agB:gX p i≠0:=Ux h11;rw[if_neg agB] at hr;exact aj.int (by rw[bI,h1,show vO p=false from h2,h3,show wV p=false from h4,h5,show Uy p=false from h6,hall,show(y5 p !=0)=false from h9,hr,h11]; rfl)
  ·conv=>whnf
   refine .mk (by simp only[okI] at *; omega) ?_;conv=>whnf
   have agB:gX p i=0:=BD h11;rw[if_pos agB] at hr;refine⟨i+1,⟨by omega,hr⟩,by omega,⟨⟨_,rfl,rfl⟩,trivial⟩,?_,rfl⟩;repeat' (first|exact trivial|exact⟨_,rfl,rfl⟩|constructor)
 have hi':p.rules.length<=i:=by simpa using h10
 rw[List.drop_eq_nil_of_le (by simpa using hi')] at hr;refine ah.pure (S.jJ p hp) rfl ?_;refine ah.pure (S.bT (decide (((zS p.rules).length:Int)>3)) 4) rfl ?_;exact aj.int (by rw[bI,h1,show vO p=false from h2,h3,show wV p=false from h4,h5,show Uy p=false from h6,hall,show(y5 p !=0)=false from h9,hr]; rfl)
theorem aj.eqv{a b:V}{h:Hz}(e:a.aH=b.aH):aj a b h:=⟨by rw[e]; exact aC _⟩
def UA(acc:Bool)(r:Rule):Bool:=acc&&(r.kind==1)&&decide (r.fr<r.to)&&((r.ex.length:Int)==0)&&((r.all.length:Int)==0)
def QY(acc:Bool)(r:Rule):Bool:=acc||decide ((r.all.length:Int)>0)
def sF(p:aI):Bool:=(p.topology==1)&&(p.fault==0)&&((p.messages.length:Int)==0)&&((p.cu.length:Int)==0)
structure Cls where
 UM:Bool
 cover:Bool
 word:Bool
 tree:Bool
 monadic:Bool
def kT(p:aI):Cls :=
 ⟨(p.topology==1)&&((p.values.length:Int)==0)&&p.rules.foldl UA true,sF p&& !(p.rules.foldl QY false),(p.topology==2)||(p.topology==3),p.topology==4,sF p&&decide ((p.states.length:Int)<=4)⟩
def ahA(c:Cls):V:=.agg [.bool c.UM,.bool c.cover,.bool c.word,.bool c.tree,.bool c.monadic]
def QZ:Cls:=⟨false,false,false,false,false⟩
def Je(p:aI):V:=.dW [ahA (bif bI p !=0 then QZ else kT p),.int (bI p)]
theorem S.jr(p:aI)(hp:eU p):ak Tryz.prog 69 [.dat (.fV p)] (Je p):=by
 have g1:=hp.states; have g2:=hp.messages; have g3:=hp.values; have g4:=hp.cu; have g7:=hp.rules;refine ak.of Bd.jr (by simp) rfl rfl ?_;refine ah.pure (S.jq p hp) rfl ?_;refine⟨fun h1=>?_,fun h1=>?_⟩
 ·conv=>whnf
  refine aj.eqv ?_;rw[Je,h1]; rfl
 have h1':bI p=0:=BD h1;refine aA.same [1,2,3,18,19] (fun i:Nat=>[(20,.int i),(5,.bool ((p.rules.take i).foldl UA true)),(6,.bool ((p.rules.take i).foldl QY false))]) (fun i=>i<=p.rules.length) (fun i=>p.rules.length-i) 0 rfl (by decide) rfl (fun _=>rfl) (Nat.zero_le _) ⟨⟨_,rfl,rfl⟩,⟨_,rfl,rfl⟩,⟨_,rfl,rfl⟩,trivial⟩ ?_;refine⟨rfl,?_⟩;rintro i hi;have g8:=hp.rule i;have g9:=g8.ex; have g10:=g8.all;refine⟨fun h7=>?_,fun h7=>?_⟩
 ·have hi':i<p.rules.length:=by simpa using h7
  repeat(refine VC.mk (by first|exact id|exact fun h=>⟨h,h⟩|(intro h; rw[h]; rfl)|(simp only[okI,Rw.rng] at *; omega)) ?_)
  refine⟨i+1,by omega,by omega,⟨⟨_,rfl,rfl⟩,⟨_,rfl,?_⟩,⟨_,rfl,?_⟩,trivial⟩,?_,rfl⟩
  ·rw[Dv (d:=default) hi']; rfl
  ·rw[Dv (d:=default) hi']; rfl
  ·repeat' (first|exact trivial|exact⟨_,rfl,rfl⟩|constructor)
 have hi':p.rules.length<=i:=by simpa using h7
 rw[List.take_of_length_le hi'];repeat(refine VC.mk (by first|exact id|(intro h; rw[h]; rfl)) ?_)
 refine aj.eqv ?_;rw[Je,h1'];rfl
def mV(r:Rule)(t:Int):Bool :=
 bif !(r.kind==1)&&(decide ((r.guards.length:Int)>0)||decide ((r.ex.length:Int)>0)||decide ((r.all.length:Int)>0)||decide ((r.send.length:Int)>0)) then true else
 bif !(r.kind==1)&& !(r.kind==2)&& !(r.kind==3)&&(r.read != -1||r.write != -1) then true else
 bif !(r.kind==2)&& !(r.kind==5)&&(r.jh !=0||r.zV !=0) then true else
 bif (!(r.kind==3)&&decide ((r.response.length:Int)>0))||(!(r.kind==5)&&r.direction !=0) then true else
 bif !(r.kind==4)&&(r.pos !=0||decide ((r.left.length:Int)>0)||decide ((r.right.length:Int)>0)) then true else
 decide ((r.parent.length:Int)>0)&& !((r.kind==4)&&(t==4))
theorem gt0{n:Nat}:decide ((n:Int)>0)= !(n==0):=by
 cases n with
 |zero=>rfl
 |succ n=>rw[decide_eq_true (by omega)]; rfl
theorem aif(a b c d e f g h:Nat):decide ((a:Int)+b+c+d+e+f+g+h>0)=(!(a==0)|| !(b==0)|| !(c==0)|| !(d==0)|| !(e==0)|| !(f==0)|| !(g==0)|| !(h==0)):=by
 rw[Bool.eq_iff_iff];simp only[decide_eq_true_eq,Bool.or_eq_true,Bool.not_eq_true',beq_eq_false_iff_ne,ne_eq];omega
theorem BI{r:Rule}{t:Int}(h:1<=r.kind/\r.kind<=5):mV r t=kY r t:=by
 have hk:r.kind=1\/r.kind=2\/r.kind=3\/r.kind=4\/r.kind=5:=by omega
 simp only[mV,kY,FD,gt0,aif,bne];generalize (r.guards.length==0)=g1;generalize (r.ex.length==0)=g2;generalize (r.all.length==0)=g3;generalize (r.send.length==0)=g4;generalize (r.response.length==0)=g5;generalize (r.left.length==0)=g6;generalize (r.right.length==0)=g7;generalize (r.parent.length==0)=g8;generalize (r.read== -1)=g9;generalize (r.write== -1)=g10;generalize (r.jh==0)=g11;generalize (r.zV==0)=g12;generalize (r.direction==0)=g13;generalize (r.pos==0)=g14
 rcases hk with hk|hk|hk|hk|hk<;>rw[hk] <;>
  (first
   |(simp; done)
   |(cases (t==4)<;>simp<;>grind)
   |(simp; grind))
end Go.Proofs.YtkmldgihhaooaaaGreatDoor
