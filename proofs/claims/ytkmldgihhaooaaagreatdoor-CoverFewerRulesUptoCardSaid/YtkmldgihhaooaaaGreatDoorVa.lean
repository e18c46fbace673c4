/-
 A part of the proof. No condition.
-/
import Derived.Test.YtkmldgihhaooaaaGreatDoorNb
import Derived.Test.YtkmldgihhaooaaaGreatDoorLg
namespace Go.Proofs.YtkmldgihhaooaaaGreatDoor
open Go.Ab Go.Proofs
set_option maxRecDepth 100000
def dB(b:Bool)(e:Int):Int:=bif b then e else 0
theorem S.bV(b:Bool)(e:Int):aj Tryz.prog 111 [.bool b,.int e] (.int (dB b e)):=by
 refine aj.of Bd.bV (by simp) rfl rfl ?_
 conv=>whnf
 refine⟨fun h=>?_,fun h=>?_⟩
 ·conv=>whnf
  exact ak.int (by rw[h]; rfl)
 ·conv=>whnf
  exact ak.int (by rw[h]; rfl)
def oI(i n:Int):Bool:=decide (i<0)||decide (i>=n)
def bH(i n:Int):Int:=dB (oI i n) 5
theorem S.bY(i n:Int):aj Tryz.prog 137 [.int i,.int n] (.int (bH i n)):=by
 refine aj.of Bd.bY (by simp) rfl rfl ?_
 conv=>whnf
 repeat(refine VC.mk (by first|exact fun h=>⟨h,h⟩|(intro h; rw[h]; rfl)) ?_; conv=>whnf)
 refine ah.pure (S.bV (oI i n) 5) rfl ?_
 conv=>whnf
 exact ak.int rfl
def aX:List Int->Int
 |[]=>0
 |e::r=>if e=0 then aX r else e
theorem S.bM(l:List Int)(f:Bool)(hl:l.length<2^40):aj Tryz.prog 110 [.row 0 f (.ints l)] (.int (aX l)):=by
 refine aj.of Bd.bM (by simp) rfl rfl ?_
 conv=>whnf
 refine aH.same [5,6] (fun i:Nat=>[(7,.int i)]) (fun i=>i<=l.length/\aX l=aX (l.drop i)) (fun i=>l.length-i) 0 rfl (by decide) rfl (fun _=>rfl) ⟨by omega,by simp⟩ ⟨⟨_,rfl,rfl⟩,trivial⟩ ?_
 conv=>whnf
 refine⟨rfl,?_⟩
 rintro i ⟨hi,hall⟩
 conv=>whnf
 refine⟨fun h3=>?_,fun h3=>?_⟩
 ·have hi':i<l.length:=by simpa using h3
  rw[cZ 0 hi'] at hall
  simp only[aX] at hall
  conv=>whnf
  refine .mk (by simp only[Rw.rng] at *; omega) ?_
  conv=>whnf
  refine⟨fun h4=>?_,fun h4=>?_⟩
  ·conv=>whnf
   refine ak.int ?_
   have:l.getD i 0≠0:=by simpa using h4
   rw[hall,if_neg this]; rfl
  ·conv=>whnf
   refine .mk (by simp only[okI] at *; omega) ?_
   conv=>whnf
   have:l.getD i 0=0:=by simpa using h4
   rw[if_pos this] at hall
   refine⟨i+1,⟨by omega,hall⟩,by omega,⟨⟨_,rfl,rfl⟩,trivial⟩,?_,rfl⟩
   repeat' (first|exact trivial|exact⟨_,rfl,rfl⟩|constructor)
 ·conv=>whnf
  refine ak.int ?_
  have hi':l.length<=i:=by simpa using h3
  rw[hall,List.drop_eq_nil_of_le hi']; rfl
def zZ:List Int->Bool
 |a::b::r=>decide (a<b)&&zZ (b::r)
 |_=>true
def fV(l:List Int)(n:Int):Int:=bif l.any (fun i=>oI i n) then 5 else bif zZ l then 0 else 1
theorem S.dY(l:List Int)(n:Int)(f:Bool)(hl:l.length<2^40):aj Tryz.prog 109 [.row 0 f (.ints l),.int n] (.int (fV l n)):=by
 refine aj.of Bd.dY (by simp) rfl rfl ?_
 conv=>whnf
 refine aH.same [0,1,8,9] (fun i:Nat=>[(10,.int i)]) (fun i=>i<=l.length/\(l.take i).any (fun i=>oI i n)=false) (fun i=>l.length-i) 0 rfl (by decide) rfl (fun _=>rfl) ⟨by omega,by simp⟩ ⟨⟨_,rfl,rfl⟩,trivial⟩ ?_
 conv=>whnf
 refine⟨rfl,?_⟩
 rintro i ⟨hi,hall⟩
 conv=>whnf
 refine⟨fun h3=>?_,fun h3=>?_⟩
 ·have hi':i<l.length:=by simpa using h3
  conv=>whnf
  repeat(refine VC.mk (by first|exact fun h=>⟨h,h⟩|(intro h; rw[h]; rfl)|(simp only[Rw.rng] at *; omega)) ?_; conv=>whnf)
  refine⟨fun h4=>?_,fun h4=>?_⟩
  ·conv=>whnf
   refine ak.int ?_
   rw[fV,jm (d:=0) hi' h4]; rfl
  ·conv=>whnf
   refine .mk (by simp only[okI] at *; omega) ?_
   conv=>whnf
   refine⟨i+1,⟨by omega,?_⟩,by omega,⟨⟨_,rfl,rfl⟩,trivial⟩,?_,rfl⟩
   ·rw[lg (d:=0) hi' hall]; exact h4
   ·repeat' (first|exact trivial|exact⟨_,rfl,rfl⟩|constructor)
 ·have hi':l.length<=i:=by simpa using h3
  rw[List.take_of_length_le hi'] at hall
  conv=>whnf
  refine aH.same [0] (fun i:Nat=>[(7,.int (i+1))]) (fun i=>(i<l.length\/i=0)/\zZ l=zZ (l.drop i)) (fun i=>l.length-i) 0 rfl (by decide) rfl (fun _=>rfl) ⟨by omega,by simp⟩ ⟨⟨_,rfl,rfl⟩,trivial⟩ ?_
  conv=>whnf
  refine⟨rfl,?_⟩
  rintro i ⟨hi,hinc⟩
  conv=>whnf
  refine⟨fun h5=>?_,fun h5=>?_⟩
  ·have hi1:i+1<l.length:=by have:=of_decide_eq_true h5; omega
   rw[cZ 0 (show i<l.length by omega),cZ 0 hi1] at hinc
   simp only[zZ] at hinc
   rw[<- cZ 0 hi1] at hinc
   conv=>whnf
   repeat(refine VC.mk (by simp only[okI,Rw.rng] at *; omega) ?_; conv=>whnf)
   refine⟨fun h6=>?_,fun h6=>?_⟩
   ·conv=>whnf
    refine ak.int ?_
    have e1:((i:Int)+1).toNat=i+1:=by omega
    have e2:((i:Int)+1-1).toNat=i:=by omega
    rw[e1,e2] at h6
    have h6':l.getD (i+1) 0<=l.getD i 0:=of_decide_eq_true h6
    rw[fV,hall,hinc,decide_eq_false (by omega)]; rfl
   ·conv=>whnf
    refine .mk (by simp only[okI] at *; omega) ?_
    conv=>whnf
    have e1:((i:Int)+1).toNat=i+1:=by omega
    have e2:((i:Int)+1-1).toNat=i:=by omega
    rw[e1,e2] at h6
    have h6': ¬ l.getD (i+1) 0<=l.getD i 0:=of_decide_eq_false h6
    rw[decide_eq_true (by omega),Bool.true_and] at hinc
    refine⟨i+1,⟨by omega,hinc⟩,by omega,⟨⟨_,rfl,rfl⟩,trivial⟩,?_,rfl⟩
    repeat' (first|exact trivial|exact⟨_,rfl,rfl⟩|constructor)
  ·conv=>whnf
   refine ak.int ?_
   have h5': ¬ ((i:Int)+1<l.length):=of_decide_eq_false h5
   have:zZ l=true:=by
    rw[hinc]
    rcases hd:l.drop i with _|⟨a,_|⟨b,r⟩⟩
    ·rfl
    ·rfl
    ·have:=congrArg List.length hd
     simp only[List.length_drop,List.length_cons] at this
     omega
   rw[fV,hall,this]; rfl
def aaK(n:Int):Bool:=decide (n>= -100)&&decide (n<=100)
theorem S.iG(n:Int):aj Tryz.prog 156 [.int n] (.bool (aaK n)):=by
 refine aj.of Bd.iG (by simp) rfl rfl ?_
 conv=>whnf
 repeat(refine VC.mk id ?_; conv=>whnf)
 exact ak.bool rfl
def NP(l:Lin):Bool:=aaK l.c&&aaK l.n&&aaK l.t&&aaK l.f
theorem S.jJ(l:Lin):aj Tryz.prog 133 [.dat (.lin l)] (.bool (NP l)):=by
 refine aj.of Bd.jJ (by simp) rfl rfl ?_
 conv=>whnf
 refine ah.pure (S.iG l.c) rfl ?_
 conv=>whnf
 repeat(refine VC.mk id ?_; conv=>whnf)
 refine ah.fM (fun _=>S.iG l.n) rfl ?_
 conv=>whnf
 repeat(refine VC.mk id ?_; conv=>whnf)
 refine ah.fM (fun _=>S.iG l.t) rfl ?_
 conv=>whnf
 repeat(refine VC.mk id ?_; conv=>whnf)
 refine ah.fM (fun _=>S.iG l.f) rfl ?_
 conv=>whnf
 refine VC.mk id ?_
 conv=>whnf
 exact ak.bool rfl
def gY(p:aI)(v:Int):Int:=dB (decide (v< -1)||decide (v>=p.values.length)) 5
theorem S.gq(p:aI)(v:Int):aj Tryz.prog 162 [.dat (.iF p),.int v] (.int (gY p v)):=by
 refine aj.of Bd.gq (by simp) rfl rfl ?_
 conv=>whnf
 repeat(refine VC.mk (by first|exact id|exact fun h=>⟨h,h⟩|(intro h; rw[h]; rfl)) ?_; conv=>whnf)
 refine ah.pure (S.bV _ 5) rfl ?_
 conv=>whnf
 exact ak.int rfl
theorem RZ{a:Int}(h:(a !=0)=true):a≠0:=by simpa using h
theorem Ce{a:Int}(h:(a !=0)=false):a=0:=by simpa using h
def rX(k t:Int):Bool:=bif k==1||k==2||k==3 then t==1 else bif k==4||k==5 then !(t==1) else false
theorem S.pK(k t:Int):aj Tryz.prog 159 [.int k,.int t] (.bool (rX k t)):=by
 refine aj.of Bd.pK (by simp) rfl rfl ?_
 conv=>whnf
 refine⟨fun h1=>?_,fun h1=>?_⟩
 ·conv=>whnf
  refine Fork.mk (fun _=>?_) (fun q=>absurd (q.symm.trans (h1)) Bool.false_ne_true)
  conv=>whnf
  exact ak.bool (by simp[rX,h1])
 ·conv=>whnf
  refine⟨fun h2=>?_,fun h2=>?_⟩
  ·conv=>whnf
   refine Fork.mk (fun _=>?_) (fun q=>absurd (q.symm.trans (h2)) Bool.false_ne_true)
   conv=>whnf
   exact ak.bool (by simp[rX,h1,h2])
  ·conv=>whnf
   refine⟨fun h3=>?_,fun h3=>?_⟩
   ·conv=>whnf
    exact ak.bool (by simp[rX,h1,h2,h3])
   ·conv=>whnf
    refine⟨fun h4=>?_,fun h4=>?_⟩
    ·conv=>whnf
     refine Fork.mk (fun _=>?_) (fun q=>absurd (q.symm.trans (h4)) Bool.false_ne_true)
     conv=>whnf
     exact ak.bool (by simp[rX,h1,h2,h3,h4,bne])
    ·conv=>whnf
     refine⟨fun h5=>?_,fun h5=>?_⟩
     ·conv=>whnf
      exact ak.bool (by simp[rX,h1,h2,h3,h4,h5,bne])
     ·conv=>whnf
      exact ak.bool (by simp[rX,h1,h2,h3,h4,h5])
def pV:List Int->Int->Int
 |[],_=>0
 |x::r,n=>if bH x n=0 then pV r n else bH x n
def CJ(l:List Int)(n:Int):Int:=bif (l.length:Int) !=n then 1 else pV l n
theorem S.jW(l:List Int)(n:Int)(f:Bool)(hl:l.length<2^40):aj Tryz.prog 163 [.row 0 f (.ints l),.int n] (.int (CJ l n)):=by
 refine aj.of Bd.jW (by simp) rfl rfl ?_
 conv=>whnf
 refine⟨fun h=>?_,fun h=>?_⟩
 ·conv=>whnf
  exact ak.int (by rw[CJ,h]; rfl)
 ·conv=>whnf
  refine aH.same [0,1,12,13] (fun i:Nat=>[(14,.int i)]) (fun i=>i<=l.length/\pV l n=pV (l.drop i) n) (fun i=>l.length-i) 0 rfl (by decide) rfl (fun _=>rfl) ⟨by omega,by simp⟩ ⟨⟨_,rfl,rfl⟩,trivial⟩ ?_
  conv=>whnf
  refine⟨rfl,?_⟩
  rintro i ⟨hi,hall⟩
  conv=>whnf
  refine⟨fun h3=>?_,fun h3=>?_⟩
  ·have hi':i<l.length:=by simpa using h3
   rw[cZ 0 hi'] at hall
   simp only[pV] at hall
   conv=>whnf
   refine .mk (by simp only[Rw.rng] at *; omega) ?_
   conv=>whnf
   refine ah.pure (S.bY (l.getD i 0) n) rfl ?_
   conv=>whnf
   refine⟨fun h4=>?_,fun h4=>?_⟩
   ·conv=>whnf
    refine ak.int ?_
    have:bH (l.getD i 0) n≠0:=by simpa using h4
    rw[CJ,h,cond_false,hall,if_neg this]
   ·conv=>whnf
    refine .mk (by simp only[okI] at *; omega) ?_
    conv=>whnf
    have:bH (l.getD i 0) n=0:=by simpa using h4
    rw[if_pos this] at hall
    refine⟨i+1,⟨by omega,hall⟩,by omega,⟨⟨_,rfl,rfl⟩,trivial⟩,?_,rfl⟩
    repeat' (first|exact trivial|exact⟨_,rfl,rfl⟩|constructor)
  ·conv=>whnf
   refine ak.int ?_
   have hi':l.length<=i:=by simpa using h3
   rw[CJ,h,cond_false,hall,List.drop_eq_nil_of_le hi']; rfl
def guardE(p:aI)(g:zJ):Int:=aX [bH g.message p.messages.length,dB (decide (g.EU<1)||decide (g.EU>100)) 1,dB (!(NP g.bound)) 4]
def gZ(p:aI):List zJ->Int
 |[]=>0
 |g::r=>if guardE p g=0 then gZ p r else guardE p g
def nH(p:aI)(l:List zJ):Int:=if gZ p l=0 then dB (decide ((l.length:Int)>2)) 4 else gZ p l
theorem S.mP(p:aI)(l:List zJ)(f:Bool)(hl:l.length<2^40):aj Tryz.prog 161 [.dat (.iF p),.row 7 f (.pU l)] (.int (nH p l)):=by
 refine aj.of Bd.mP (by simp) rfl rfl ?_
 conv=>whnf
 refine aH.same [1,2,8,9] (fun i:Nat=>[(10,.int i)]) (fun i=>i<=l.length/\gZ p l=gZ p (l.drop i)) (fun i=>l.length-i) 0 rfl (by decide) rfl (fun _=>rfl) ⟨by omega,by simp⟩ ⟨⟨_,rfl,rfl⟩,trivial⟩ ?_
 conv=>whnf
 refine⟨rfl,?_⟩
 rintro i ⟨hi,hall⟩
 conv=>whnf
 refine⟨fun h3=>?_,fun h3=>?_⟩
 ·have hi':i<l.length:=by simpa using h3
  rw[cZ default hi'] at hall
  simp only[gZ] at hall
  conv=>whnf
  refine .mk (by simp only[Rw.rng] at *; omega) ?_
  conv=>whnf
  refine ah.pure (S.bY (l.getD i default).message p.messages.length) rfl ?_
  conv=>whnf
  repeat(refine VC.mk (by first|exact id|(intro h; rw[h]; rfl)) ?_; conv=>whnf)
  refine ah.pure (S.bV (decide ((l.getD i default).EU<1)||decide ((l.getD i default).EU>100)) 1) rfl ?_
  conv=>whnf
  refine ah.pure (S.jJ (l.getD i default).bound) rfl ?_
  conv=>whnf
  refine ah.pure (S.bV (!(NP (l.getD i default).bound)) 4) rfl ?_
  conv=>whnf
  refine ah.pure (S.bM [bH (l.getD i default).message p.messages.length,dB (decide ((l.getD i default).EU<1)||decide ((l.getD i default).EU>100)) 1,dB (!(NP (l.getD i default).bound)) 4] true (show 3<2^40 by decide)) rfl ?_
  conv=>whnf
  refine⟨fun h4=>?_,fun h4=>?_⟩
  ·conv=>whnf
   refine ak.int ?_
   have h4':guardE p (l.getD i default)≠0:=RZ h4
   rw[if_neg h4'] at hall
   rw[nH,hall,if_neg h4']; rfl
  ·conv=>whnf
   refine .mk (by simp only[okI] at *; omega) ?_
   conv=>whnf
   have h4':guardE p (l.getD i default)=0:=Ce h4
   rw[if_pos h4'] at hall
   refine⟨i+1,⟨by omega,hall⟩,by omega,⟨⟨_,rfl,rfl⟩,trivial⟩,?_,rfl⟩
   repeat' (first|exact trivial|exact⟨_,rfl,rfl⟩|constructor)
 ·have hi':l.length<=i:=by simpa using h3
  rw[List.drop_eq_nil_of_le hi'] at hall
  conv=>whnf
  refine ah.pure (S.bV (decide ((l.length:Int)>2)) 4) rfl ?_
  conv=>whnf
  exact ak.int (by rw[nH,hall]; rfl)
structure sJ(r:Rule):Prop where
 response:r.response.length<2^30
 guards:r.guards.length<2^30
 ex:r.ex.length<2^30
 all:r.all.length<2^30
 send:r.send.length<2^30
 left:r.left.length<2^30
 right:r.right.length<2^30
 parent:r.parent.length<2^30
def Ee(r:Rule):Bool :=
 decide ((r.response.length:Int)+r.guards.length+r.ex.length+r.all.length+r.send.length+r.left.length+r.right.length+r.parent.length>0)||r.jE !=0||r.zX !=0||r.pos !=0||r.direction !=0||r.read != -1||r.write != -1
def jM(r:Rule)(t:Int):Bool :=
 bif r.kind==1 then Ee {r with guards:=[],ex:=[],all:=[],send:=[],read:= -1,write:= -1} else
 bif r.kind==2 then(bif decide ((r.response.length:Int)>0) then true else Ee {r with jE:=0,zX:=0,response:=[],read:= -1,write:= -1}) else
 bif r.kind==3 then Ee {r with response:=[],read:= -1,write:= -1} else
 bif r.kind==4 then(bif t==4 then Ee {r with pos:=0,left:=[],right:=[],parent:=[]} else Ee {r with pos:=0,left:=[],right:=[]}) else
 bif r.kind==5 then Ee {r with jE:=0,zX:=0,direction:=0} else Ee r
theorem S.lQ(r:Rule)(t:Int)(hs:sJ r):aj Tryz.prog 160 [.dat (.rule r),.int t] (.bool (jM r t)):=by
 obtain⟨g1,g2,g3,g4,g5,g6,g7,g8⟩:=hs
 refine aj.of Bd.lQ (by simp) rfl rfl ?_
 conv=>whnf
 refine⟨fun h1=>?_,fun h1=>?_⟩
 ·conv=>whnf
  repeat(refine VC.mk (by first|exact id|(intro h; rw[h]; rfl)|(simp only[okI] at *; omega)) ?_; conv=>whnf)
  exact ak.bool (by simp[jM,Ee,h1])
 ·conv=>whnf
  refine⟨fun h2=>?_,fun h2=>?_⟩
  ·conv=>whnf
   refine⟨fun h6=>?_,fun h6=>?_⟩
   ·conv=>whnf
    exact ak.bool (by rw[jM,h1,h2,show decide ((r.response.length:Int)>0)=true from h6]; rfl)
   ·conv=>whnf
    repeat(refine VC.mk (by first|exact id|(intro h; rw[h]; rfl)|(simp only[okI] at *; omega)) ?_; conv=>whnf)
    exact ak.bool (by rw[jM,h1,h2,show decide ((r.response.length:Int)>0)=false from h6]; simp[Ee])
  ·conv=>whnf
   refine⟨fun h3=>?_,fun h3=>?_⟩
   ·conv=>whnf
    repeat(refine VC.mk (by first|exact id|(intro h; rw[h]; rfl)|(simp only[okI] at *; omega)) ?_; conv=>whnf)
    exact ak.bool (by simp[jM,Ee,h1,h2,h3])
   ·conv=>whnf
    refine⟨fun h4=>?_,fun h4=>?_⟩
    ·conv=>whnf
     refine⟨fun h7=>?_,fun h7=>?_⟩
     ·conv=>whnf
      repeat(refine VC.mk (by first|exact id|(intro h; rw[h]; rfl)|(simp only[okI] at *; omega)) ?_; conv=>whnf)
      exact ak.bool (by simp[jM,Ee,h1,h2,h3,h4,h7])
     ·conv=>whnf
      repeat(refine VC.mk (by first|exact id|(intro h; rw[h]; rfl)|(simp only[okI] at *; omega)) ?_; conv=>whnf)
      exact ak.bool (by simp[jM,Ee,h1,h2,h3,h4,h7])
    ·conv=>whnf
     refine⟨fun h5=>?_,fun h5=>?_⟩
     ·conv=>whnf
      repeat(refine VC.mk (by first|exact id|(intro h; rw[h]; rfl)|(simp only[okI] at *; omega)) ?_; conv=>whnf)
      exact ak.bool (by simp[jM,Ee,h1,h2,h3,h4,h5])
     ·conv=>whnf
      repeat(refine VC.mk (by first|exact id|(intro h; rw[h]; rfl)|(simp only[okI] at *; omega)) ?_; conv=>whnf)
      exact ak.bool (by simp[jM,Ee,h1,h2,h3,h4,h5])
def aaL(h:Hz):Hz->Prop
 |[]=>True
 |(i,o)::r=>h.get i=o/\aaL h r
theorem X8{h:Hz}: ∀ {h0:Hz},aaL h h0-> ∀ {i:Nat} {o:OV},h0.get i=some o->h.get i=some o:=by
 intro h0
 induction h0 with
 |nil=>intro _ i o e; cases e
 |cons p r ih =>
  obtain⟨j,u⟩:=p
  intro hs i o e
  simp only[Hz.get] at e
  cases hb:Nat.beq j i with
  |true=>rw[hb] at e; simp only[cond_true] at e; rw[<- Nat.eq_of_beq_eq_true hb,hs.1,e]
  |false=>rw[hb] at e; exact ih hs.2 e
def X9:Hz->Bool
 |[]=>true
 |(_,some o)::r=>o.Ef&&X9 r
 |(_,none)::r=>X9 r
theorem Sl: ∀ {h0:Hz},X9 h0=true-> ∀ {i:Nat} {o:OV},h0.get i=some o->o.Ef=true:=by
 intro h0
 induction h0 with
 |nil=>intro _ i o e; cases e
 |cons p r ih =>
  obtain⟨j,u⟩:=p
  intro hs i o e
  simp only[Hz.get] at e
  cases hb:Nat.beq j i with
  |true =>
   rw[hb] at e; simp only[cond_true] at e; subst e
   simp only[X9,Bool.and_eq_true] at hs; exact hs.1
  |false =>
   rw[hb] at e
   refine ih ?_ e
   cases u with
   |none=>exact hs
   |some o=>simp only[X9,Bool.and_eq_true] at hs; exact hs.2
theorem OV.Sm{o:OV}(h:o.Ef=true):T.aO (fun _=>False) o.aA.l:=OV.BM h
theorem jG.same{nx:Nat}{h0 h:Hz}{n:Nat}{post:T->Hp->Prop}{v:V}(hf:v.free=true)(hs:aaL h h0)(hg:H8 nx h0=true)(hfr:X9 h0=true)(hp:post v.aG h0.au):jG h0 n post v h:=by
 have hG:=Fa hg
 have get: ∀ i ob,h0.au i=some ob-> ∃ o,h0.get i=some o/\ob=o.aA:=fun i ob e=>by
  simp only[Hz.au,Option.map_eq_some_iff] at e
  obtain⟨o,e1,e2⟩:=e
  exact⟨o,e1,e2.symm⟩
 have hfree:=V.nY v hf
 refine⟨fun _=>False,id,v.aG,h0.au,hp,?_,fun i ob hi=>?_,fun i j _ _ e=>e,T.bg (fun _ h=>h.elim) _ (fJ hfree),fun i ob hi=>?_,fun i _ _=>rfl⟩
 ·rw[Ud]; exact aC _
 ·obtain⟨o,e1,rfl⟩:=get i ob hi
  refine⟨o.aA,aP (X8 hs e1),fun h=>h,rfl,rfl,?_,zq (hG i _ hi).2.2⟩
  rw[uX _ (OV.Sm (Sl hfr e1))]; exact eU _
 ·obtain⟨o,e1,rfl⟩:=get i ob hi
  exact⟨.inl (by rw[hi]; rfl),T.aB (fun _ h=>h.elim) _ (OV.Sm (Sl hfr e1))⟩
abbrev hRP(p:aI)(r:Rule):Hz:=[(7,some (.box 86 19 (.dat (.rule r)))),(0,some (.box 27 11 (.dat (.iF p))))]
theorem S.Pv(p:aI)(r x:Rule)(n:Nat):aS Tryz.prog 158 (V.aV [.dat (.rule x),.ptr 7 0 0]) (hRP p r).au n (fun t hp=>t= .bool (x.name==r.name)/\hp=(hRP p r).au):=by
 refine qA.of (nx:=8) Bd.nG (by simp) ⟨_,_,rfl,rfl⟩ rfl rfl ?_
 conv=>whnf
 exact jG.same (nx:=8) rfl ⟨rfl,rfl,trivial⟩ rfl rfl ⟨rfl,rfl⟩
def FP(s:Str):List Rule->Nat->Int
 |[],_=> -1
 |x::r,i=>bif x.name==s then(i:Int) else FP s r (i+1)
theorem S.Ya(p:aI)(r:Rule)(l:List Rule)(f:Bool)(hl:l.length<2^30)(n:Nat):aS Tryz.prog 174 (V.aV [.row 19 f (.rules l),.fn 158 [.ptr 7 0 0]]) (hRP p r).au n (fun t hp=>t= .int (FP r.name l 0)/\hp=(hRP p r).au):=by
 refine qA.of (nx:=8) Bd.gB (by simp) ⟨_,_,rfl,rfl⟩ rfl rfl ?_
 conv=>whnf
 refine aH.same [0,1,6,7] (fun i:Nat=>[(8,.int i)]) (fun i=>i<=l.length/\FP r.name l 0=FP r.name (l.drop i) i) (fun i=>l.length-i) 0 rfl (by decide) rfl (fun _=>rfl) ⟨by omega,by simp⟩ ⟨⟨_,rfl,rfl⟩,trivial⟩ ?_
 conv=>whnf
 refine⟨rfl,?_⟩
 rintro i ⟨hi,hall⟩
 conv=>whnf
 refine⟨fun h3=>?_,fun h3=>?_⟩
 ·have hi':i<l.length:=by simpa using h3
  rw[cZ default hi'] at hall
  simp only[FP] at hall
  conv=>whnf
  refine .mk (by simp only[Rw.rng] at *; omega) ?_
  conv=>whnf
  refine ah.heap (S.Pv p r (l.getD i default) _) ?_
  rintro t hp ⟨rfl,rfl⟩
  refine⟨.bool _,hRP p r,rfl,rfl,?_⟩
  conv=>whnf
  refine⟨fun h4=>?_,fun h4=>?_⟩
  ·conv=>whnf
   rw[h4] at hall
   exact jG.same (nx:=8) rfl ⟨rfl,rfl,trivial⟩ rfl rfl ⟨by rw[hall]; rfl,rfl⟩
  ·conv=>whnf
   refine .mk (by simp only[okI] at *; omega) ?_
   conv=>whnf
   rw[h4] at hall
   refine⟨i+1,⟨by omega,hall⟩,by omega,⟨⟨_,rfl,rfl⟩,trivial⟩,?_,rfl⟩
   repeat' (first|exact trivial|exact⟨_,rfl,rfl⟩|constructor)
 ·conv=>whnf
  have hi':l.length<=i:=by simpa using h3
  rw[List.drop_eq_nil_of_le hi'] at hall
  exact jG.same (nx:=8) rfl ⟨rfl,rfl,trivial⟩ rfl rfl ⟨by rw[hall]; rfl,rfl⟩
theorem aaM{s:Str}{l:List Rule}{i:Nat}:decide (0<=FP s l i)=l.any fun x=>x.name==s:=by
 have: ∀ {l:List Rule} {i:Nat},0<=FP s l i↔(l.any fun x=>x.name==s)=true:=by
  intro l
  induction l with
  |nil=>intro i; simp[FP]
  |cons x r ih =>
   intro i
   rw[List.any_cons,Bool.or_eq_true,<- ih (i:=i+1)]
   show(0:Int)<=(bif x.name==s then(i:Int) else FP s r (i+1))↔_
   generalize (x.name==s)=b
   cases b<;>simp
 rw[Bool.eq_iff_iff,decide_eq_true_eq]; exact this
theorem S.Px(p:aI)(r:Rule)(l:List Rule)(f:Bool)(hl:l.length<2^30)(n:Nat):aS Tryz.prog 157 (V.aV [.row 19 f (.rules l),.fn 158 [.ptr 7 0 0]]) (hRP p r).au n (fun t hp=>t= .bool (l.any fun x=>x.name==r.name)/\hp=(hRP p r).au):=by
 refine qA.of (nx:=8) Bd.fK (by simp) ⟨_,_,rfl,rfl⟩ rfl rfl ?_
 conv=>whnf
 refine ah.heap (S.Ya p r l f hl _) ?_
 rintro t hp ⟨rfl,rfl⟩
 refine⟨.int _,hRP p r,rfl,rfl,?_⟩
 conv=>whnf
 exact jG.same (nx:=8) rfl ⟨rfl,rfl,trivial⟩ rfl rfl ⟨by rw[<- aaM (i:=0)]; rfl,rfl⟩
theorem ah.mkRow{P:Program}{f:FuncId}{args:List V}{h:Hz}{n ty k:Nat}{r:Rw}{K:V->Hz->Prop}{KW:Nat->V->Hz->Prop}(H:Ai P f (V.aV args) (fun n=>.own n) (some ⟨ty,k,r.aV⟩))(hK:K (.own n) ((n,some (.row ty k r []))::h)):ah P false none f args h n K KW :=
 ah.heap (Ai.frame H _ _) (by rintro t hp ⟨rfl,rfl⟩; exact⟨.own n,_,rfl,by rw[cO]; simp[jq,OV.aA,V.aV],hK⟩)
theorem S.Concat(a b c:List Str)(n:Nat)(h0:0<a.length)(ha:a.length<2^20)(hb:b.length<2^20)(hc:c.length<2^20) :
  aS Tryz.prog 154 (V.aV [.Gy 0 false [.row 0 false (.strs a),.row 0 false (.strs b),.row 0 false (.strs c)]]) no n (fun t hp=>t= .own n/\hp=Hz.au [(n,some (.row 9 0 (.strs (a++b++c)) []))]):=by
 refine qA.of (nx:=0) (h0:=[]) Bd.jv (by simp) ⟨_,_,rfl,rfl⟩ rfl rfl ?_
 conv=>whnf
 refine aH.times 4 rfl ?_
 conv=>whnf
 refine Fork.mk (fun _=>?_) (fun q=>absurd (q.symm.trans (rfl)) Bool.false_ne_true)
 conv=>whnf
 repeat(refine VC.mk (by first|(omega)|(simp only[okI] at *; omega)) ?_; conv=>whnf)
 refine Fork.mk (fun q=>absurd (q.symm.trans (decide_eq_false (by omega))).symm Bool.false_ne_true) (fun _=>?_)
 conv=>whnf
 refine .mk (by simp only[okI] at *; omega) ?_
 conv=>whnf
 refine Fork.mk (fun _=>?_) (fun q=>absurd (q.symm.trans (rfl)) Bool.false_ne_true)
 conv=>whnf
 repeat(refine VC.mk (by first|(omega)|(simp only[okI] at *; omega)) ?_; conv=>whnf)
 refine Fork.mk (fun q=>absurd (q.symm.trans (decide_eq_false (by omega))).symm Bool.false_ne_true) (fun _=>?_)
 conv=>whnf
 refine .mk (by simp only[okI] at *; omega) ?_
 conv=>whnf
 refine Fork.mk (fun _=>?_) (fun q=>absurd (q.symm.trans (rfl)) Bool.false_ne_true)
 conv=>whnf
 repeat(refine VC.mk (by first|(omega)|(simp only[okI] at *; omega)) ?_; conv=>whnf)
 refine Fork.mk (fun q=>absurd (q.symm.trans (decide_eq_false (by omega))).symm Bool.false_ne_true) (fun _=>?_)
 conv=>whnf
 refine .mk (by simp only[okI] at *; omega) ?_
 conv=>whnf
 refine Fork.mk (fun q=>absurd (q.symm.trans (rfl)).symm Bool.false_ne_true) (fun _=>?_)
 conv=>whnf
 have e:(0+(a.length:Int)+b.length+c.length)=((a.length+b.length+c.length:Nat):Int):=by omega
 rw[e]
 refine ah.mkRow (r:=.strs []) (S.Grow (a.length+b.length+c.length) (by omega) (by omega)) ?_
 conv=>whnf
 refine aH.times 4 rfl ?_
 conv=>whnf
 refine Fork.mk (fun _=>?_) (fun q=>absurd (q.symm.trans (rfl)) Bool.false_ne_true)
 conv=>whnf
 repeat(refine VC.mk (by first|(omega)|(simp only[nI,nU,Rw.len,List.length_nil]; omega)|(simp only[okI] at *; omega)) ?_; conv=>whnf)
 refine Fork.mk (fun _=>?_) (fun q=>absurd (q.symm.trans (rfl)) Bool.false_ne_true)
 conv=>whnf
 repeat(refine VC.mk (by first|(omega)|(simp only[nI,nU,Rw.len,List.length_append,List.length_nil]; omega)|(simp only[okI] at *; omega)) ?_; conv=>whnf)
 refine Fork.mk (fun _=>?_) (fun q=>absurd (q.symm.trans (rfl)) Bool.false_ne_true)
 conv=>whnf
 repeat(refine VC.mk (by first|(omega)|(simp only[nI,nU,Rw.len,List.length_append,List.length_nil]; omega)|(simp only[okI] at *; omega)) ?_; conv=>whnf)
 refine Fork.mk (fun q=>absurd (q.symm.trans (rfl)).symm Bool.false_ne_true) (fun _=>?_)
 conv=>whnf
 refine jG.one (c:=n) (o:=.row 9 0 (.strs (a++b++c)) []) (t:=.own n) rfl rfl rfl nofun (.inr rfl) rfl (.eq rfl) ⟨rfl,rfl⟩
theorem S.acF(a b c:List Str)(h0:0<a.length)(ha:a.length<2^20)(hb:b.length<2^20)(hc:c.length<2^20) :
  Ai Tryz.prog 154 (V.aV [.Gy 0 false [.row 0 false (.strs a),.row 0 false (.strs b),.row 0 false (.strs c)]]) (fun n=>.own n) (some ⟨9,0,(Rw.strs (a++b++c)).aV⟩):=by
 refine⟨rfl,fun _=>rfl,(fun ob h=>by cases h; rw[gK]; intro t ht; obtain⟨x,_,rfl⟩:=List.mem_map.1 ht; rfl),(fun ob h=>by cases h; exact fun e=>absurd e (by decide:(0:Nat)≠fU)),fun n=>(S.Concat a b c n h0 ha hb hc).mono ?_⟩
 rintro t hp ⟨rfl,rfl⟩
 refine⟨rfl,?_⟩
 rw[cO]; simp[jq,OV.aA,V.aV]; rfl
theorem ah.acG{P:Program}{f:FuncId}{args:List V}{ts:List T}{h:Hz}{n ty k:Nat}{r:Rw}{K:V->Hz->Prop}{KW:Nat->V->Hz->Prop}(H:Ai P f ts (fun n=>.own n) (some ⟨ty,k,r.aV⟩))(hs:T.dN (fun _=>True) h.au ts (V.aV args))(hh:T.wS r.aV=true)(hK:K (.own n) ((n,some (.row ty k r []))::h)):ah P false none f args h n K KW :=
 ⟨.inl (Ai.lend H hs rfl (fun _ e=>by cases e; exact hh) ⟨.own n,_,rfl,by rw[cO]; simp[jq,OV.aA,V.aV],(fun e=>by cases e),hK⟩)⟩
theorem afu{h:Hz}{j ty:Nat}{Z:Nat->Prop}{l:List V}(hz:Z j)(q:h.get j=some (.row ty 0 .nil l))(hf:V.cu l=true):T.sub Z h.au (V.Gy 0 false l).aG (V.own j).aG:=by
 show T.sub Z h.au (.sl 0 false (V.aV l)) (.own j)
 simp only[T.sub]
 exact⟨trivial,hz,V.iE l hf,by decide,ty,by rw[aP q]; rfl⟩
theorem Yb{l:List Str}:T.wS (Rw.strs l).aV=true:=by
 show T.wS (l.map eS)=true
 induction l with
 |nil=>rfl
 |cons s r ih=>simp only[List.map_cons,T.wS,ih]; rfl
theorem afv{h:Hz}{j i ty:Nat}{Z:Nat->Prop}{l:List Str}(hz:Z j)(q:h.get j=some (.row ty 0 (.strs l) []))(hi:i<=l.length):T.sub Z h.au (V.row 0 false (.strs (l.take i))).aG (V.oV j 0 i).aG:=by
 show T.sub Z h.au (.sl 0 false ((l.take i).map eS)) (.oV j 0 i)
 simp only[T.sub]
 refine⟨trivial,hz,?_,by decide,ty,l.map eS,?_,by simpa using hi,by simp[List.map_take]⟩
 ·rw[gK]; intro t ht; obtain⟨x,_,rfl⟩:=List.mem_map.1 ht; rfl
 ·rw[aP q]; simp[OV.aA,Rw.aV,V.aV]
def allNames(p:aI):List Str:=p.states++p.messages++p.values
def O8(l:List Str)(i:Nat):Bool:= !(validName (l.getD i []))||(l.take i).any fun x=>l.getD i []==x
def vV(p:aI):Int:=bif (List.range (allNames p).length).any (O8 (allNames p)) then 2 else 0
theorem Bo{n:Nat}{f:Nat->Bool}:(List.range n).any f=true↔ ∃ i,i<n/\f i=true:=by
 simp[List.any_eq_true]
theorem S.oG(p:aI)(h0:0<p.states.length)(h1:p.states.length<2^20)(h2:p.messages.length<2^20)(h3:p.values.length<2^20):aj Tryz.prog 132 [.dat (.iF p)] (.int (vV p)):=by
 have hlen:(allNames p).length<2^30:=by simp only[allNames,List.length_append]; omega
 refine aj.of Bd.oG (by simp) rfl rfl ?_
 conv=>whnf
 refine ah.acG (r:=.strs (allNames p)) (S.acF p.states p.messages p.values h0 h1 h2 h3) (And.intro (afu (ty:=22) trivial rfl rfl) trivial) Yb ?_
 conv=>whnf
 refine aH.same [3,14,15] (fun i:Nat=>[(16,.int i)]) (fun i=>i<=(allNames p).length/\(List.range i).any (O8 (allNames p))=false) (fun i=>(allNames p).length-i) 0 rfl (by decide) rfl (fun _=>rfl) ⟨Nat.zero_le _,rfl⟩ ⟨⟨_,rfl,rfl⟩,trivial⟩ ?_
 conv=>whnf
 refine⟨rfl,?_⟩
 rintro i ⟨hi,hall⟩
 conv=>whnf
 refine⟨fun h4=>?_,fun h4=>?_⟩
 ·have hi':i<(allNames p).length:=by simpa using h4
  conv=>whnf
  repeat(refine VC.mk (by simp only[Rw.rng] at *; omega) ?_; conv=>whnf)
  refine ah.pure (S.gJ ((allNames p).getD i [])) rfl ?_
  conv=>whnf
  repeat(refine VC.mk (by first|exact fun h=>⟨h,h⟩|(intro h; (repeat' apply And.intro)<;>first|exact h|omega|(simp only[Rw.rV]; omega)|(simp only[Rw.rng]; omega))) ?_; conv=>whnf)
  refine ah.aez (fun _=>S.slices_Contains_string ((allNames p).take i) ((allNames p).getD i []) false (by rw[List.length_take]; omega)) (fun _=>And.intro (afv (ty:=9) trivial rfl (by omega)) (And.intro (aC _) trivial)) rfl rfl ?_
  conv=>whnf
  refine .mk (by intro h; rw[h]; rfl) ?_
  conv=>whnf
  refine⟨fun h5=>?_,fun h5=>?_⟩
  ·conv=>whnf
   refine ak.int ?_
   rw[vV,Bo.2 ⟨i,hi',h5⟩]; rfl
  ·conv=>whnf
   refine .mk (by simp only[okI] at *; omega) ?_
   conv=>whnf
   refine⟨i+1,⟨by omega,?_⟩,by omega,⟨⟨_,rfl,rfl⟩,trivial⟩,?_,rfl⟩
   ·rw[List.range_succ,List.any_append,hall]
    simp only[List.any_cons,List.any_nil,Bool.or_false,Bool.false_or]; exact h5
   ·repeat' (first|exact trivial|exact⟨_,rfl,rfl⟩|constructor)
 ·have hi':(allNames p).length<=i:=by simpa using h4
  have e:i=(allNames p).length:=Nat.le_antisymm hi hi'
  subst e
  conv=>whnf
  exact ak.int (by rw[vV,hall]; rfl)
theorem ah.oQ{P:Program}{f:FuncId}{args:List V}{h:Hz}{hp0:Hp}{n:Nat}{K:V->Hz->Prop}{KW:Nat->V->Hz->Prop}{post:T->Hp->Prop}(S:aS P f (V.aV args) hp0 n post)(e:h.au=hp0)(hK: ∀ t hp,post t hp-> ∃ v h',t=v.aG/\hp=Hz.au h'/\K v h'):ah P false none f args h n K KW:=by
 subst e; exact ah.heap S hK
theorem Sr{i:Nat}{a b:Option OV}{r:Hz}:Hz.au ((i,a)::(i,b)::r)=Hz.au ((i,a)::r):=funext fun j=>by
 simp only[Hz.au,Hz.get]; cases Nat.beq i j<;>rfl
structure fA(p:aI):Prop where
 states:p.states.length<2^20
 messages:p.messages.length<2^20
 values:p.values.length<2^20
 bW:p.bW.length<2^30
 initial:p.initial.length<2^30
 leader:p.leader.length<2^30
 rules:p.rules.length<2^30
 rule: ∀ i,sJ (p.rules.getD i default)
 pU:(p.rules.flatMap Rule.guards).length<2^30
def kM(p:aI)(i:Nat):Bool:= !(validName (p.rules.getD i default).name)||(p.rules.take i).any fun x=>x.name==(p.rules.getD i default).name
def qU(p:aI)(i:Nat):Bool:= !(rX (p.rules.getD i default).kind p.topology)||jM (p.rules.getD i default) p.topology
def tX(p:aI)(r:Rule):Int:=aX [bH r.fr p.states.length,bH r.to p.states.length]
def V7(p:aI)(r:Rule):Bool:=decide (r.pos<0)||decide (r.pos>2)||(r.pos !=0&&p.topology==3)
def fO(p:aI)(i:Nat):Int :=
 let r:=p.rules.getD i default
 let n:Int:=p.states.length
 bif kM p i then 2 else bif qU p i then 6 else bif tX p r !=0 then tX p r else
 bif r.kind==1 then aX [nH p r.guards,fV r.ex n,fV r.all n,gY p r.read,gY p r.write,fV r.send p.messages.length] else
 bif r.kind==2 then aX [bH r.jE n,bH r.zX n,gY p r.read,gY p r.write] else
 bif r.kind==3 then aX [CJ r.response n,gY p r.read,gY p r.write] else
 bif r.kind==4 then aX [fV r.left n,fV r.right n,fV r.parent n,dB (V7 p r) 1] else
 bif p.topology==4 then aX [bH r.jE n,bH r.zX n,dB (decide (r.direction<3)||decide (r.direction>4)) 1]
 else aX [bH r.jE n,bH r.zX n,dB (decide (r.direction<1)||decide (r.direction>2)) 1]
theorem S.jV(p:aI)(i:Nat)(hi:i<p.rules.length)(hp:fA p):aj Tryz.prog 134 [.dat (.iF p),.int i] (.int (fO p i)):=by
 have hr:=hp.rule i
 have hp1:=hp.rules
 have hp2:=hp.states
 have hp3:=hp.messages
 refine aj.of Bd.jV (by simp) rfl rfl ?_
 conv=>whnf
 repeat(refine VC.mk (by first|(simp only[Rw.rV]; omega)|(simp only[Rw.rng] at *; omega)) ?_; conv=>whnf)
 refine ah.oQ (S.Px p (p.rules.getD i default) (p.rules.take i) false (by rw[List.length_take]; omega) _) Sr ?_
 rintro t hp' ⟨rfl,rfl⟩
 refine⟨.bool _,hRP p (p.rules.getD i default),rfl,rfl,?_⟩
 conv=>whnf
 refine ah.pure (S.gJ (p.rules.getD i default).name) rfl ?_
 conv=>whnf
 refine .mk (by intro h; rw[h]; rfl) ?_
 conv=>whnf
 refine⟨fun h1=>?_,fun h1=>?_⟩
 ·conv=>whnf
  exact ak.int (by rw[fO,show kM p i=true from h1]; rfl)
 ·conv=>whnf
  refine ah.pure (S.pK (p.rules.getD i default).kind p.topology) rfl ?_
  conv=>whnf
  repeat(refine VC.mk (by first|exact id|exact fun h=>⟨h,h⟩) ?_; conv=>whnf)
  refine ah.fM (fun _=>S.lQ (p.rules.getD i default) p.topology hr) rfl ?_
  conv=>whnf
  refine .mk (by intro h; rw[h]; rfl) ?_
  conv=>whnf
  refine⟨fun h2=>?_,fun h2=>?_⟩
  ·conv=>whnf
   exact ak.int (by rw[fO,show kM p i=false from h1,show qU p i=true from h2]; rfl)
  ·conv=>whnf
   refine ah.pure (S.bY (p.rules.getD i default).fr p.states.length) rfl ?_
   conv=>whnf
   refine ah.pure (S.bY (p.rules.getD i default).to p.states.length) rfl ?_
   conv=>whnf
   refine ah.pure (S.bM [bH (p.rules.getD i default).fr p.states.length,bH (p.rules.getD i default).to p.states.length] true (show 2<2^40 by decide)) rfl ?_
   conv=>whnf
   refine⟨fun h3=>?_,fun h3=>?_⟩
   ·conv=>whnf
    exact ak.int (by rw[fO,show kM p i=false from h1,show qU p i=false from h2,show(tX p (p.rules.getD i default) !=0)=true from h3]; rfl)
   ·conv=>whnf
    refine⟨fun h4=>?_,fun h4=>?_⟩
    ·conv=>whnf
     refine ah.pure (S.mP p (p.rules.getD i default).guards false (by have:=hr.guards; omega)) rfl ?_
     conv=>whnf
     refine ah.pure (S.dY (p.rules.getD i default).ex p.states.length false (by have:=hr.ex; omega)) rfl ?_
     conv=>whnf
     refine ah.pure (S.dY (p.rules.getD i default).all p.states.length false (by have:=hr.all; omega)) rfl ?_
     conv=>whnf
     refine ah.pure (S.gq p (p.rules.getD i default).read) rfl ?_
     conv=>whnf
     refine ah.pure (S.gq p (p.rules.getD i default).write) rfl ?_
     conv=>whnf
     refine ah.pure (S.dY (p.rules.getD i default).send p.messages.length false (by have:=hr.send; omega)) rfl ?_
     conv=>whnf
     refine ah.pure (S.bM [nH p (p.rules.getD i default).guards,fV (p.rules.getD i default).ex p.states.length,fV (p.rules.getD i default).all p.states.length,gY p (p.rules.getD i default).read,gY p (p.rules.getD i default).write,fV (p.rules.getD i default).send p.messages.length] true (show 6<2^40 by decide)) rfl ?_
     conv=>whnf
     exact ak.int (by rw[fO,show kM p i=false from h1,show qU p i=false from h2,show(tX p (p.rules.getD i default) !=0)=false from h3,h4]; rfl)
    ·conv=>whnf
     refine⟨fun h5=>?_,fun h5=>?_⟩
     ·conv=>whnf
      refine ah.pure (S.bY (p.rules.getD i default).jE p.states.length) rfl ?_
      conv=>whnf
      refine ah.pure (S.bY (p.rules.getD i default).zX p.states.length) rfl ?_
      conv=>whnf
      refine ah.pure (S.gq p (p.rules.getD i default).read) rfl ?_
      conv=>whnf
      refine ah.pure (S.gq p (p.rules.getD i default).write) rfl ?_
      conv=>whnf
      refine ah.pure (S.bM [bH (p.rules.getD i default).jE p.states.length,bH (p.rules.getD i default).zX p.states.length,gY p (p.rules.getD i default).read,gY p (p.rules.getD i default).write] true (show 4<2^40 by decide)) rfl ?_
      conv=>whnf
      exact ak.int (by rw[fO,show kM p i=false from h1,show qU p i=false from h2,show(tX p (p.rules.getD i default) !=0)=false from h3,h4,h5]; rfl)
     ·conv=>whnf
      refine⟨fun h6=>?_,fun h6=>?_⟩
      ·conv=>whnf
       refine ah.pure (S.jW (p.rules.getD i default).response p.states.length false (by have:=hr.response; omega)) rfl ?_
       conv=>whnf
       refine ah.pure (S.gq p (p.rules.getD i default).read) rfl ?_
       conv=>whnf
       refine ah.pure (S.gq p (p.rules.getD i default).write) rfl ?_
       conv=>whnf
       refine ah.pure (S.bM [CJ (p.rules.getD i default).response p.states.length,gY p (p.rules.getD i default).read,gY p (p.rules.getD i default).write] true (show 3<2^40 by decide)) rfl ?_
       conv=>whnf
       exact ak.int (by rw[fO,show kM p i=false from h1,show qU p i=false from h2,show(tX p (p.rules.getD i default) !=0)=false from h3,h4,h5,h6]; rfl)
      ·conv=>whnf
       refine⟨fun h7=>?_,fun h7=>?_⟩
       ·conv=>whnf
        repeat(refine VC.mk (by first|exact id|(intro h; rw[h]; rfl)|(intro h; simp_all; done)) ?_; conv=>whnf)
        refine ah.pure (S.dY (p.rules.getD i default).left p.states.length false (by have:=hr.left; omega)) rfl ?_
        conv=>whnf
        refine ah.pure (S.dY (p.rules.getD i default).right p.states.length false (by have:=hr.right; omega)) rfl ?_
        conv=>whnf
        refine ah.pure (S.dY (p.rules.getD i default).parent p.states.length false (by have:=hr.parent; omega)) rfl ?_
        conv=>whnf
        refine ah.pure (S.bV (V7 p (p.rules.getD i default)) 1) rfl ?_
        conv=>whnf
        refine ah.pure (S.bM [fV (p.rules.getD i default).left p.states.length,fV (p.rules.getD i default).right p.states.length,fV (p.rules.getD i default).parent p.states.length,dB (V7 p (p.rules.getD i default)) 1] true (show 4<2^40 by decide)) rfl ?_
        conv=>whnf
        exact ak.int (by rw[fO,show kM p i=false from h1,show qU p i=false from h2,show(tX p (p.rules.getD i default) !=0)=false from h3,h4,h5,h6,h7]; rfl)
       ·conv=>whnf
        refine⟨fun h8=>?_,fun h8=>?_⟩
        ·conv=>whnf
         refine ah.pure (S.bY (p.rules.getD i default).jE p.states.length) rfl ?_
         conv=>whnf
         refine ah.pure (S.bY (p.rules.getD i default).zX p.states.length) rfl ?_
         conv=>whnf
         repeat(refine VC.mk (by first|exact id|exact fun h=>⟨h,h⟩|(intro h; rw[h]; rfl)) ?_; conv=>whnf)
         refine ah.pure (S.bV (decide ((p.rules.getD i default).direction<3)||decide ((p.rules.getD i default).direction>4)) 1) rfl ?_
         conv=>whnf
         refine ah.pure (S.bM [bH (p.rules.getD i default).jE p.states.length,bH (p.rules.getD i default).zX p.states.length,dB (decide ((p.rules.getD i default).direction<3)||decide ((p.rules.getD i default).direction>4)) 1] true (show 3<2^40 by decide)) rfl ?_
         conv=>whnf
         exact ak.int (by rw[fO,show kM p i=false from h1,show qU p i=false from h2,show(tX p (p.rules.getD i default) !=0)=false from h3,h4,h5,h6,h7,h8]; rfl)
        ·conv=>whnf
         refine ah.pure (S.bY (p.rules.getD i default).jE p.states.length) rfl ?_
         conv=>whnf
         refine ah.pure (S.bY (p.rules.getD i default).zX p.states.length) rfl ?_
         conv=>whnf
         repeat(refine VC.mk (by first|exact id|exact fun h=>⟨h,h⟩|(intro h; rw[h]; rfl)) ?_; conv=>whnf)
         refine ah.pure (S.bV (decide ((p.rules.getD i default).direction<1)||decide ((p.rules.getD i default).direction>2)) 1) rfl ?_
         conv=>whnf
         refine ah.pure (S.bM [bH (p.rules.getD i default).jE p.states.length,bH (p.rules.getD i default).zX p.states.length,dB (decide ((p.rules.getD i default).direction<1)||decide ((p.rules.getD i default).direction>2)) 1] true (show 3<2^40 by decide)) rfl ?_
         conv=>whnf
         exact ak.int (by rw[fO,show kM p i=false from h1,show qU p i=false from h2,show(tX p (p.rules.getD i default) !=0)=false from h3,h4,h5,h6,h7,h8]; rfl)
def xU(g:zJ):List zJ->Nat->Int
 |[],_=> -1
 |x::r,i=>bif g==x then(i:Int) else xU g r (i+1)
theorem RX{g:zJ}{l:List zJ}{i:Nat}:decide (0<=xU g l i)=l.any fun x=>g==x:=by
 have: ∀ {l:List zJ} {i:Nat},0<=xU g l i↔(l.any fun x=>g==x)=true:=by
  intro l
  induction l with
  |nil=>intro i; simp[xU]
  |cons x r ih =>
   intro i
   rw[List.any_cons,Bool.or_eq_true,<- ih (i:=i+1)]
   show(0:Int)<=(bif g==x then(i:Int) else xU g r (i+1))↔_
   generalize (g==x)=b
   cases b<;>simp
 rw[Bool.eq_iff_iff,decide_eq_true_eq]; exact this
theorem S.aaN(l:List zJ)(g:zJ)(f:Bool)(hl:l.length<2^40):aj Tryz.prog 175 [.row 7 f (.pU l),.dat (.SC g)] (.int (xU g l 0)):=by
 refine aj.of Bd.eH (by simp) rfl rfl ?_
 conv=>whnf
 refine aH.same [0,3,6,7] (fun i:Nat=>[(8,.int i)]) (fun i=>i<=l.length/\xU g l 0=xU g (l.drop i) i) (fun i=>l.length-i) 0 rfl (by decide) rfl (fun _=>rfl) ⟨by omega,by simp⟩ ⟨⟨_,rfl,rfl⟩,trivial⟩ ?_
 conv=>whnf
 refine⟨rfl,?_⟩
 rintro i ⟨hi,hall⟩
 conv=>whnf
 refine⟨fun h3=>?_,fun h3=>?_⟩
 ·have hi':i<l.length:=by simpa using h3
  rw[cZ default hi'] at hall
  simp only[xU] at hall
  conv=>whnf
  refine .mk (by simp only[Rw.rng] at *; first|omega|(simp_all; done)|(simp_all; omega)) ?_
  conv=>whnf
  refine⟨fun h4=>?_,fun h4=>?_⟩
  ·conv=>whnf
   refine ak.int ?_
   have h4':(g==l.getD i default)=true:=h4
   rw[hall,h4']; rfl
  ·conv=>whnf
   refine .mk (by simp only[okI] at *; first|omega|(simp_all; done)|(simp_all; omega)) ?_
   conv=>whnf
   refine⟨i+1,⟨by omega,?_⟩,by omega,⟨⟨_,rfl,rfl⟩,trivial⟩,?_,rfl⟩
   ·have h4':(g==l.getD i default)=false:=h4
    rw[hall,h4']; rfl
   ·repeat' (first|exact trivial|exact⟨_,rfl,rfl⟩|constructor)
 ·conv=>whnf
  refine ak.int ?_
  have hi':l.length<=i:=by simpa using h3
  rw[hall,List.drop_eq_nil_of_le hi']; rfl
theorem S.Sv(l:List zJ)(g:zJ)(f:Bool)(hl:l.length<2^40):aj Tryz.prog 164 [.row 7 f (.pU l),.dat (.SC g)] (.bool (l.any fun x=>g==x)):=by
 refine aj.of Bd.dS (by simp) rfl rfl ?_
 conv=>whnf
 refine ah.pure (S.aaN l g f hl) rfl ?_
 conv=>whnf
 exact ak.bool RX.symm
theorem aaE{h:Hz}{j:Nat}{Z:Nat->Prop}{l:List zJ}(hz:Z j)(q:h.get j=some (.row 148 7 (.pU l) [])):T.sub Z h.au (V.row 7 false (.pU l)).aG (V.own j).aG:=by
 show T.sub Z h.au (.sl 7 false (l.map QE)) (.own j)
 simp only[T.sub]
 refine⟨trivial,hz,?_,by decide,148,?_⟩
 ·rw[gK]; intro t ht; obtain⟨x,_,rfl⟩:=List.mem_map.1 ht; rfl
 ·have:=aP q
  rw[this]; simp[OV.aA,Rw.aV,V.aV]
theorem FN{α β:Type}{f:β->α->β}{b:β}{l:List α}{i:Nat}{d:α}(h:i<l.length):(l.take (i+1)).foldl f b=f ((l.take i).foldl f b) (l.getD i d):=by
 rw[List.take_add_one,List.foldl_append]
 simp[List.getElem?_eq_getElem h]
theorem ak.afs{h:Hz}{j:Nat}{l:List zJ}(q:h.get j=some (.row 148 7 (.pU l) [])):ak (.row 7 false (.pU l)) (.own j) h:=⟨aaE trivial q⟩
def Ii(acc:List zJ)(g:zJ):List zJ:=bif acc.any (fun x=>g==x) then acc else acc++[g]
def uP(l:List Rule):List zJ:=(l.flatMap Rule.guards).foldl Ii []
theorem aaO{acc:List zJ}{g:zJ}:(Ii acc g).length<=acc.length+1:=by
 unfold Ii; cases acc.any (fun x=>g==x)<;>simp
theorem Sz: ∀ {l acc:List zJ},(l.foldl Ii acc).length<=acc.length+l.length:=by
 intro l
 induction l with
 |nil=>intro acc; simp
 |cons g r ih =>
  intro acc
  have:=ih (acc:=Ii acc g)
  have h2:=aaO (acc:=acc) (g:=g)
  simp only[List.foldl_cons,List.length_cons]; omega
abbrev rowT(l:List zJ):OV:=.row 148 7 (.pU l) []
def yT(p:aI)(i k:Nat):List zJ:=((p.rules.getD i default).guards.take k).foldl Ii (uP (p.rules.take i))
theorem RY(p:aI)(hp:fA p)(i k:Nat)(_hi:i<p.rules.length):(yT p i k).length<2^31:=by
 have h1:=Sz (l:=(p.rules.getD i default).guards.take k) (acc:=uP (p.rules.take i))
 have h2:=Sz (l:=(p.rules.take i).flatMap Rule.guards) (acc:=[])
 have h3:=(hp.rule i).guards
 have h4:((p.rules.take i).flatMap Rule.guards).length<=(p.rules.flatMap Rule.guards).length:=by
  conv=>rhs; rw[<- List.take_append_drop i p.rules,List.flatMap_append,List.length_append]
  omega
 have h5:=hp.pU
 have h6:((p.rules.getD i default).guards.take k).length<=(p.rules.getD i default).guards.length:=by simp[List.length_take]; omega
 unfold yT
 unfold uP at h1 ⊢
 simp only[List.length_nil,Nat.zero_add] at h2
 omega
theorem ND(p:aI){i:Nat}(hi:i<p.rules.length):uP (p.rules.take (i+1))=yT p i (p.rules.getD i default).guards.length:=by
 unfold yT
 rw[List.take_of_length_le (Nat.le_refl _)]
 unfold uP
 rw[List.take_add_one,List.flatMap_append,List.foldl_append]
 simp[List.getElem?_eq_getElem hi]
theorem S.jy(p:aI)(hp:fA p):aj Tryz.prog 135 [.dat (.iF p)] (.row 7 false (.pU (uP p.rules))):=by
 have hp1:=hp.rules
 refine aj.of Bd.jy (by simp) rfl rfl ?_
 conv=>whnf
 refine aH.nil 3 148 7 (by rfl) rfl rfl rfl ?_
 refine aH.objs 1 [9,10] (fun i:Nat=>[(11,.int i),(3,.own 0)]) (fun i=>[(0,rowT (uP (p.rules.take i)))]) (fun i=>i<=p.rules.length) (fun i=>p.rules.length-i) 0 [7] rfl (by decide) (fun _=>rfl) (Nat.zero_le _) ?_ ?_ ?_
 ·exact(sR rfl)
 ·exact⟨⟨rfl,nofun,rfl,rfl,rfl,_,rfl,rfl,rfl,aQ.of_eq rfl⟩,trivial⟩
 conv=>whnf
 refine⟨(sR rfl),rfl,?_⟩
 rintro i hi
 conv=>whnf
 refine⟨fun h3=>?_,fun h3=>?_⟩
 ·have hi':i<p.rules.length:=by simpa using h3
  conv=>whnf
  refine .mk (by simp only[Rw.rng] at *; first|omega|(simp_all; done)|(simp_all; omega)) ?_
  conv=>whnf
  refine aH.objs 1 [9,10,11,16,17] (fun k:Nat=>[(18,.int k),(3,.own 0)]) (fun k=>[(0,rowT (yT p i k))]) (fun k=>k<=(p.rules.getD i default).guards.length) (fun k=>(p.rules.getD i default).guards.length-k) 0 [0] rfl (by decide) (fun _=>rfl) (Nat.zero_le _) ?_ ?_ ?_
  ·exact(sR rfl)
  ·exact⟨⟨rfl,nofun,rfl,rfl,rfl,_,rfl,rfl,rfl,aQ.of_eq rfl⟩,trivial⟩
  conv=>whnf
  refine⟨(sR rfl),rfl,?_⟩
  rintro k hk
  have hacc:=RY p hp i k hi'
  have hg:=(hp.rule i).guards
  conv=>whnf
  refine⟨fun h4=>?_,fun h4=>?_⟩
  ·have hk':k<(p.rules.getD i default).guards.length:=by simpa using h4
   have hst:yT p i (k+1)=Ii (yT p i k) ((p.rules.getD i default).guards.getD k default):=FN hk'
   conv=>whnf
   refine .mk (by simp only[Rw.rng] at *; first|omega|(simp_all; done)|(simp_all; omega)) ?_
   conv=>whnf
   refine ah.lend (S.Sv (yT p i k) ((p.rules.getD i default).guards.getD k default) false (by omega)) (And.intro (aaE trivial rfl) (And.intro (aC _) trivial)) rfl rfl ?_
   conv=>whnf
   refine⟨fun h5=>?_,fun h5=>?_⟩
   ·conv=>whnf
    repeat(refine VC.mk (by first|(show((yT p i k).length+(0+1))*48<=140737488355328/\(yT p i k).length+(0+1)<=1152921504606846976; omega)|(simp only[okI] at *; first|omega|(simp_all; done)|(simp_all; omega))) ?_; conv=>whnf)
    have h5':((yT p i k).any fun x=>(p.rules.getD i default).guards.getD k default==x)=false:=by simpa using h5
    refine⟨k+1,[13],by omega,by omega,(sR rfl),(sR rfl),⟨rfl,nofun,rfl,rfl,rfl,_,rfl,rfl,rfl,aQ.of_eq ?_⟩,trivial⟩
    rw[hst,Ii,h5']
    rfl
   ·conv=>whnf
    refine .mk (by simp only[okI] at *; first|omega|(simp_all; done)|(simp_all; omega)) ?_
    conv=>whnf
    have h5':((yT p i k).any fun x=>(p.rules.getD i default).guards.getD k default==x)=true:=by simpa using h5
    refine⟨k+1,[0],by omega,by omega,(sR rfl),(sR rfl),⟨rfl,nofun,rfl,rfl,rfl,_,rfl,rfl,rfl,aQ.of_eq ?_⟩,trivial⟩
    rw[hst,Ii,h5']; rfl
  ·have hk':(p.rules.getD i default).guards.length<=k:=by simpa using h4
   have e:k=(p.rules.getD i default).guards.length:=Nat.le_antisymm hk hk'
   subst e
   conv=>whnf
   refine .mk (by simp only[okI] at *; first|omega|(simp_all; done)|(simp_all; omega)) ?_
   conv=>whnf
   refine⟨i+1,[0],by omega,by omega,(sR rfl),(sR rfl),⟨rfl,nofun,rfl,rfl,rfl,_,rfl,rfl,rfl,aQ.of_eq ?_⟩,trivial⟩
   rw[ND p hi']
 ·have hi':p.rules.length<=i:=by simpa using h3
  rw[List.take_of_length_le hi']
  conv=>whnf
  exact ak.afs rfl
def sH(p:aI):Bool:=decide (p.topology<1)||decide (p.topology>4)||decide (p.fault<0)||decide (p.fault>3)
def qR(p:aI):Bool:=decide ((p.states.length:Int)>6)||decide ((p.messages.length:Int)>3)||decide ((p.values.length:Int)>3)||decide ((p.bW.length:Int)>4)||decide ((p.rules.length:Int)>8)
def NM(p:aI):Bool:=(!(p.topology==1)&&(decide ((p.messages.length:Int)>0)||decide ((p.values.length:Int)>0)||decide ((p.bW.length:Int)>0)||p.fault !=0))||((p.topology==1)&&decide ((p.leader.length:Int)>0))
def vW(p:aI):Int:=aX [fV p.initial p.states.length,dB ((p.initial.length:Int)==0) 1,fV p.leader p.states.length]
def vU(p:aI):Int:=aX ((List.range p.rules.length).map (fO p))
def bF(p:aI):Int :=
 bif !(validName p.name) then 2 else bif sH p then 1 else bif (p.states.length:Int)==0 then 1 else bif qR p then 4 else
 bif vV p !=0 then vV p else bif NM p then 1 else
 bif p.bW.any (fun l=> !(NP l)) then 4 else
 bif vW p !=0 then vW p else
 bif vU p !=0 then vU p else dB (decide (((uP p.rules).length:Int)>3)) 4
theorem KL{n i:Nat}{f:Nat->Int}(h:i<n):((List.range n).drop i).map f=f i::((List.range n).drop (i+1)).map f:=by
 rw[List.drop_eq_getElem_cons (by simpa using h)]; simp
theorem S.jd(p:aI)(hp:fA p):aj Tryz.prog 107 [.dat (.iF p)] (.int (bF p)):=by
 have g1:=hp.states; have g2:=hp.messages; have g3:=hp.values; have g4:=hp.bW; have g5:=hp.initial; have g6:=hp.leader; have g7:=hp.rules
 refine aj.of Bd.jd (by simp) rfl rfl ?_
 conv=>whnf
 refine ah.pure (S.gJ p.name) rfl ?_
 conv=>whnf
 refine⟨fun h1=>?_,fun h1=>?_⟩
 ·conv=>whnf
  exact ak.int (by rw[bF,h1]; rfl)
 conv=>whnf
 repeat(refine VC.mk (by first|exact id|(intro h; rw[h]; rfl)) ?_; conv=>whnf)
 refine⟨fun h2=>?_,fun h2=>?_⟩
 ·conv=>whnf
  exact ak.int (by rw[bF,h1,show sH p=true from h2]; rfl)
 conv=>whnf
 refine⟨fun h3=>?_,fun h3=>?_⟩
 ·conv=>whnf
  exact ak.int (by rw[bF,h1,show sH p=false from h2,h3]; rfl)
 conv=>whnf
 repeat(refine VC.mk (by first|exact id|(intro h; rw[h]; rfl)) ?_; conv=>whnf)
 refine⟨fun h4=>?_,fun h4=>?_⟩
 ·conv=>whnf
  exact ak.int (by rw[bF,h1,show sH p=false from h2,h3,show qR p=true from h4]; rfl)
 conv=>whnf
 have h0:0<p.states.length:=by
  rcases Nat.eq_zero_or_pos p.states.length with e|e
  ·rw[e] at h3; exact absurd h3 (by decide)
  ·exact e
 refine ah.pure (S.oG p h0 g1 g2 g3) rfl ?_
 conv=>whnf
 refine⟨fun h5=>?_,fun h5=>?_⟩
 ·conv=>whnf
  exact ak.int (by rw[bF,h1,show sH p=false from h2,h3,show qR p=false from h4,h5]; rfl)
 conv=>whnf
 repeat(refine VC.mk (by first|exact id|(intro h; rw[h]; rfl)|(intro h; simp_all; done)) ?_; conv=>whnf)
 refine⟨fun h6=>?_,fun h6=>?_⟩
 ·conv=>whnf
  exact ak.int (by rw[bF,h1,show sH p=false from h2,h3,show qR p=false from h4,h5,show NM p=true from h6]; rfl)
 conv=>whnf
 refine aH.same [1,4,111,112] (fun i:Nat=>[(113,.int i)]) (fun i=>i<=p.bW.length/\(p.bW.take i).any (fun l=> !(NP l))=false) (fun i=>p.bW.length-i) 0 rfl (by decide) rfl (fun _=>rfl) ⟨by omega,by simp⟩ ⟨⟨_,rfl,rfl⟩,trivial⟩ ?_
 conv=>whnf
 refine⟨rfl,?_⟩
 rintro i ⟨hi,hall⟩
 conv=>whnf
 refine⟨fun h7=>?_,fun h7=>?_⟩
 ·have hi':i<p.bW.length:=by simpa using h7
  conv=>whnf
  refine .mk (by simp only[Rw.rng] at *; omega) ?_
  conv=>whnf
  refine ah.pure (S.jJ (p.bW.getD i default)) rfl ?_
  conv=>whnf
  refine⟨fun h8=>?_,fun h8=>?_⟩
  ·conv=>whnf
   exact ak.int (by rw[bF,h1,show sH p=false from h2,h3,show qR p=false from h4,h5,show NM p=false from h6,jm (d:=default) hi' h8]; rfl)
  ·conv=>whnf
   refine .mk (by simp only[okI] at *; omega) ?_
   conv=>whnf
   refine⟨i+1,⟨by omega,?_⟩,by omega,⟨⟨_,rfl,rfl⟩,trivial⟩,?_,rfl⟩
   ·rw[lg (d:=default) hi' hall]; exact h8
   ·repeat' (first|exact trivial|exact⟨_,rfl,rfl⟩|constructor)
 have hi':p.bW.length<=i:=by simpa using h7
 rw[List.take_of_length_le hi'] at hall
 conv=>whnf
 refine ah.pure (S.dY p.initial p.states.length false (by omega)) rfl ?_
 conv=>whnf
 refine ah.pure (S.bV ((p.initial.length:Int)==0) 1) rfl ?_
 conv=>whnf
 refine ah.pure (S.dY p.leader p.states.length false (by omega)) rfl ?_
 conv=>whnf
 refine ah.pure (S.bM [fV p.initial p.states.length,dB ((p.initial.length:Int)==0) 1,fV p.leader p.states.length] true (show 3<2^40 by decide)) rfl ?_
 conv=>whnf
 refine⟨fun h9=>?_,fun h9=>?_⟩
 ·conv=>whnf
  exact ak.int (by rw[bF,h1,show sH p=false from h2,h3,show qR p=false from h4,h5,show NM p=false from h6,hall,show(vW p !=0)=true from h9]; rfl)
 conv=>whnf
 refine aH.same [1,140,141] (fun i:Nat=>[(142,.int i)]) (fun i=>i<=p.rules.length/\vU p=aX (((List.range p.rules.length).drop i).map (fO p))) (fun i=>p.rules.length-i) 0 rfl (by decide) rfl (fun _=>rfl) ⟨by omega,by simp[vU]⟩ ⟨⟨_,rfl,rfl⟩,trivial⟩ ?_
 conv=>whnf
 refine⟨rfl,?_⟩
 rintro i ⟨hi,hr⟩
 conv=>whnf
 refine⟨fun h10=>?_,fun h10=>?_⟩
 ·have hi':i<p.rules.length:=by simpa using h10
  rw[KL hi'] at hr
  simp only[aX] at hr
  conv=>whnf
  refine ah.pure (S.jV p i hi' hp) rfl ?_
  conv=>whnf
  refine⟨fun h11=>?_,fun h11=>?_⟩
  ·conv=>whnf
   have aeo:fO p i≠0:=RZ h11
   rw[if_neg aeo] at hr
   exact ak.int (by rw[bF,h1,show sH p=false from h2,h3,show qR p=false from h4,h5,show NM p=false from h6,hall,show(vW p !=0)=false from h9,hr,h11]; rfl)
  ·conv=>whnf
   refine .mk (by simp only[okI] at *; omega) ?_
   conv=>whnf
   have aeo:fO p i=0:=Ce h11
   rw[if_pos aeo] at hr
   refine⟨i+1,⟨by omega,hr⟩,by omega,⟨⟨_,rfl,rfl⟩,trivial⟩,?_,rfl⟩
   repeat' (first|exact trivial|exact⟨_,rfl,rfl⟩|constructor)
 have hi':p.rules.length<=i:=by simpa using h10
 rw[List.drop_eq_nil_of_le (by simpa using hi')] at hr
 conv=>whnf
 refine ah.pure (S.jy p hp) rfl ?_
 conv=>whnf
 refine ah.pure (S.bV (decide (((uP p.rules).length:Int)>3)) 4) rfl ?_
 conv=>whnf
 exact ak.int (by rw[bF,h1,show sH p=false from h2,h3,show qR p=false from h4,h5,show NM p=false from h6,hall,show(vW p !=0)=false from h9,hr]; rfl)
theorem ak.eqv{a b:V}{h:Hz}(e:a.aG=b.aG):ak a b h:=⟨by rw[e]; exact aC _⟩
def afw(acc:Bool)(r:Rule):Bool:=acc&&(r.kind==1)&&decide (r.fr<r.to)&&((r.ex.length:Int)==0)&&((r.all.length:Int)==0)
def SQ(acc:Bool)(r:Rule):Bool:=acc||decide ((r.all.length:Int)>0)
def uI(p:aI):Bool:=(p.topology==1)&&(p.fault==0)&&((p.messages.length:Int)==0)&&((p.bW.length:Int)==0)
structure Cls where
 SC:Bool
 cover:Bool
 word:Bool
 tree:Bool
 monadic:Bool
def jA(p:aI):Cls :=
 ⟨(p.topology==1)&&((p.values.length:Int)==0)&&p.rules.foldl afw true,uI p&& !(p.rules.foldl SQ false),(p.topology==2)||(p.topology==3),p.topology==4,uI p&&decide ((p.states.length:Int)<=4)⟩
def af9(c:Cls):V:=.agg [.bool c.SC,.bool c.cover,.bool c.word,.bool c.tree,.bool c.monadic]
def U3:Cls:=⟨false,false,false,false,false⟩
def UQ(p:aI):V:=.dH [af9 (bif bF p !=0 then U3 else jA p),.int (bF p)]
theorem S.je(p:aI)(hp:fA p):aj Tryz.prog 69 [.dat (.iF p)] (UQ p):=by
 have g1:=hp.states; have g2:=hp.messages; have g3:=hp.values; have g4:=hp.bW; have g7:=hp.rules
 refine aj.of Bd.je (by simp) rfl rfl ?_
 conv=>whnf
 refine ah.pure (S.jd p hp) rfl ?_
 conv=>whnf
 refine⟨fun h1=>?_,fun h1=>?_⟩
 ·conv=>whnf
  refine ak.eqv ?_
  rw[UQ,h1]; rfl
 have h1':bF p=0:=Ce h1
 conv=>whnf
 refine aH.same [1,2,3,18,19] (fun i:Nat=>[(20,.int i),(5,.bool ((p.rules.take i).foldl afw true)),(6,.bool ((p.rules.take i).foldl SQ false))]) (fun i=>i<=p.rules.length) (fun i=>p.rules.length-i) 0 rfl (by decide) rfl (fun _=>rfl) (Nat.zero_le _) ⟨⟨_,rfl,rfl⟩,⟨_,rfl,rfl⟩,⟨_,rfl,rfl⟩,trivial⟩ ?_
 conv=>whnf
 refine⟨rfl,?_⟩
 rintro i hi
 have g8:=hp.rule i
 have g9:=g8.ex; have g10:=g8.all
 conv=>whnf
 refine⟨fun h7=>?_,fun h7=>?_⟩
 ·have hi':i<p.rules.length:=by simpa using h7
  conv=>whnf
  repeat(refine VC.mk (by first|exact id|exact fun h=>⟨h,h⟩|(intro h; rw[h]; rfl)|(simp only[okI,Rw.rng] at *; omega)) ?_; conv=>whnf)
  refine⟨i+1,by omega,by omega,⟨⟨_,rfl,rfl⟩,⟨_,rfl,?_⟩,⟨_,rfl,?_⟩,trivial⟩,?_,rfl⟩
  ·rw[FN (d:=default) hi']; rfl
  ·rw[FN (d:=default) hi']; rfl
  ·repeat' (first|exact trivial|exact⟨_,rfl,rfl⟩|constructor)
 have hi':p.rules.length<=i:=by simpa using h7
 rw[List.take_of_length_le hi']
 conv=>whnf
 repeat(refine VC.mk (by first|exact id|(intro h; rw[h]; rfl)) ?_; conv=>whnf)
 refine ak.eqv ?_
 rw[UQ,h1']
 rfl
def kN(r:Rule)(t:Int):Bool :=
 bif !(r.kind==1)&&(decide ((r.guards.length:Int)>0)||decide ((r.ex.length:Int)>0)||decide ((r.all.length:Int)>0)||decide ((r.send.length:Int)>0)) then true else
 bif !(r.kind==1)&& !(r.kind==2)&& !(r.kind==3)&&(r.read != -1||r.write != -1) then true else
 bif !(r.kind==2)&& !(r.kind==5)&&(r.jE !=0||r.zX !=0) then true else
 bif (!(r.kind==3)&&decide ((r.response.length:Int)>0))||(!(r.kind==5)&&r.direction !=0) then true else
 bif !(r.kind==4)&&(r.pos !=0||decide ((r.left.length:Int)>0)||decide ((r.right.length:Int)>0)) then true else
 decide ((r.parent.length:Int)>0)&& !((r.kind==4)&&(t==4))
theorem gt0{n:Nat}:decide ((n:Int)>0)= !(n==0):=by
 cases n with
 |zero=>rfl
 |succ n=>rw[decide_eq_true (by omega)]; rfl
theorem aga(a b c d e f g h:Nat):decide ((a:Int)+b+c+d+e+f+g+h>0)=(!(a==0)|| !(b==0)|| !(c==0)|| !(d==0)|| !(e==0)|| !(f==0)|| !(g==0)|| !(h==0)):=by
 rw[Bool.eq_iff_iff]
 simp only[decide_eq_true_eq,Bool.or_eq_true,Bool.not_eq_true',beq_eq_false_iff_ne,ne_eq]
 omega
theorem vT{r:Rule}{t:Int}(h:1<=r.kind/\r.kind<=5):kN r t=jM r t:=by
 have hk:r.kind=1\/r.kind=2\/r.kind=3\/r.kind=4\/r.kind=5:=by omega
 simp only[kN,jM,Ee,gt0,aga,bne]
 generalize (r.guards.length==0)=g1
 generalize (r.ex.length==0)=g2
 generalize (r.all.length==0)=g3
 generalize (r.send.length==0)=g4
 generalize (r.response.length==0)=g5
 generalize (r.left.length==0)=g6
 generalize (r.right.length==0)=g7
 generalize (r.parent.length==0)=g8
 generalize (r.read== -1)=g9
 generalize (r.write== -1)=g10
 generalize (r.jE==0)=g11
 generalize (r.zX==0)=g12
 generalize (r.direction==0)=g13
 generalize (r.pos==0)=g14
 rcases hk with hk|hk|hk|hk|hk<;>rw[hk] <;>
  (first
   |(simp; done)
   |(cases (t==4)<;>simp<;>grind)
   |(simp; grind))
end Go.Proofs.YtkmldgihhaooaaaGreatDoor
