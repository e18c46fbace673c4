/-
 A part of the proof. No condition.
-/
import Derived.Test.YtajmbgljnaljiaaGreatDoorNb
import Derived.Test.YtajmbgljnaljiaaGreatDoorLg
namespace Go.Proofs.YtajmbgljnaljiaaGreatDoor
open Go.Ab Go.Proofs
set_option maxRecDepth 100000
def fG(b:Bool)(e:Int):Int:=bif b then e else 0
theorem S.dh(b:Bool)(e:Int):aj Tryz.prog 103 [.bool b,.int e] (.int (fG b e)):=by
 refine aj.of Bd.dh (by simp) rfl rfl ?_
 conv=>whnf
 refine⟨fun h=>?_,fun h=>?_⟩
 ·conv=>whnf
  exact ak.int (by rw[h]; rfl)
 ·conv=>whnf
  exact ak.int (by rw[h]; rfl)
def pY(i n:Int):Bool:=decide (i<0)||decide (i>=n)
def dH(i n:Int):Int:=fG (pY i n) 5
theorem S.dB(i n:Int):aj Tryz.prog 130 [.int i,.int n] (.int (dH i n)):=by
 refine aj.of Bd.dB (by simp) rfl rfl ?_
 conv=>whnf
 repeat(refine VC.mk (by first|exact fun h=>⟨h,h⟩|(intro h; rw[h]; rfl)) ?_; conv=>whnf)
 refine ah.pure (S.dh (pY i n) 5) rfl ?_
 conv=>whnf
 exact ak.int rfl
def bF:List Int->Int
 |[]=>0
 |e::r=>if e=0 then bF r else e
theorem S.bW(l:List Int)(f:Bool)(hl:l.length<2^40):aj Tryz.prog 102 [.row 0 f (.ints l)] (.int (bF l)):=by
 refine aj.of Bd.bW (by simp) rfl rfl ?_
 conv=>whnf
 refine aB.same [5,6] (fun i:Nat=>[(7,.int i)]) (fun i=>i<=l.length/\bF l=bF (l.drop i)) (fun i=>l.length-i) 0 rfl (by decide) rfl (fun _=>rfl) ⟨by omega,by simp⟩ ⟨⟨_,rfl,rfl⟩,trivial⟩ ?_
 conv=>whnf
 refine⟨rfl,?_⟩
 rintro i ⟨hi,hall⟩
 conv=>whnf
 refine⟨fun h3=>?_,fun h3=>?_⟩
 ·have hi':i<l.length:=by simpa using h3
  rw[dU 0 hi'] at hall
  simp only[bF] at hall
  conv=>whnf
  refine .mk (by simp only[Rw.rng] at *; omega) ?_
  conv=>whnf
  refine⟨fun h4=>?_,fun h4=>?_⟩
  ·conv=>whnf
   refine ak.int ?_
   have:l.getD i 0≠0:=by simpa using h4
   rw[hall,if_neg this]; rfl
  ·conv=>whnf
   refine .mk (by simp only[okI] at *; omega) ?_
   conv=>whnf
   have:l.getD i 0=0:=by simpa using h4
   rw[if_pos this] at hall
   refine⟨i+1,⟨by omega,hall⟩,by omega,⟨⟨_,rfl,rfl⟩,trivial⟩,?_,rfl⟩
   repeat' (first|exact trivial|exact⟨_,rfl,rfl⟩|constructor)
 ·conv=>whnf
  refine ak.int ?_
  have hi':l.length<=i:=by simpa using h3
  rw[hall,List.drop_eq_nil_of_le hi']; rfl
def MJ:List Int->Bool
 |a::b::r=>decide (a<b)&&MJ (b::r)
 |_=>true
def jv(l:List Int)(n:Int):Int:=bif l.any (fun i=>pY i n) then 5 else bif MJ l then 0 else 1
theorem S.eG(l:List Int)(n:Int)(f:Bool)(hl:l.length<2^40):aj Tryz.prog 101 [.row 0 f (.ints l),.int n] (.int (jv l n)):=by
 refine aj.of Bd.eG (by simp) rfl rfl ?_
 conv=>whnf
 refine aB.same [0,1,8,9] (fun i:Nat=>[(10,.int i)]) (fun i=>i<=l.length/\(l.take i).any (fun i=>pY i n)=false) (fun i=>l.length-i) 0 rfl (by decide) rfl (fun _=>rfl) ⟨by omega,by simp⟩ ⟨⟨_,rfl,rfl⟩,trivial⟩ ?_
 conv=>whnf
 refine⟨rfl,?_⟩
 rintro i ⟨hi,hall⟩
 conv=>whnf
 refine⟨fun h3=>?_,fun h3=>?_⟩
 ·have hi':i<l.length:=by simpa using h3
  conv=>whnf
  repeat(refine VC.mk (by first|exact fun h=>⟨h,h⟩|(intro h; rw[h]; rfl)|(simp only[Rw.rng] at *; omega)) ?_; conv=>whnf)
  refine⟨fun h4=>?_,fun h4=>?_⟩
  ·conv=>whnf
   refine ak.int ?_
   rw[jv,iU (d:=0) hi' h4]; rfl
  ·conv=>whnf
   refine .mk (by simp only[okI] at *; omega) ?_
   conv=>whnf
   refine⟨i+1,⟨by omega,?_⟩,by omega,⟨⟨_,rfl,rfl⟩,trivial⟩,?_,rfl⟩
   ·rw[kN (d:=0) hi' hall]; exact h4
   ·repeat' (first|exact trivial|exact⟨_,rfl,rfl⟩|constructor)
 ·have hi':l.length<=i:=by simpa using h3
  rw[List.take_of_length_le hi'] at hall
  conv=>whnf
  refine aB.same [0] (fun i:Nat=>[(7,.int (i+1))]) (fun i=>(i<l.length\/i=0)/\MJ l=MJ (l.drop i)) (fun i=>l.length-i) 0 rfl (by decide) rfl (fun _=>rfl) ⟨by omega,by simp⟩ ⟨⟨_,rfl,rfl⟩,trivial⟩ ?_
  conv=>whnf
  refine⟨rfl,?_⟩
  rintro i ⟨hi,hinc⟩
  conv=>whnf
  refine⟨fun h5=>?_,fun h5=>?_⟩
  ·have hi1:i+1<l.length:=by have:=of_decide_eq_true h5; omega
   rw[dU 0 (show i<l.length by omega),dU 0 hi1] at hinc
   simp only[MJ] at hinc
   rw[<- dU 0 hi1] at hinc
   conv=>whnf
   repeat(refine VC.mk (by simp only[okI,Rw.rng] at *; omega) ?_; conv=>whnf)
   refine⟨fun h6=>?_,fun h6=>?_⟩
   ·conv=>whnf
    refine ak.int ?_
    have e1:((i:Int)+1).toNat=i+1:=by omega
    have e2:((i:Int)+1-1).toNat=i:=by omega
    rw[e1,e2] at h6
    have h6':l.getD (i+1) 0<=l.getD i 0:=of_decide_eq_true h6
    rw[jv,hall,hinc,decide_eq_false (by omega)]; rfl
   ·conv=>whnf
    refine .mk (by simp only[okI] at *; omega) ?_
    conv=>whnf
    have e1:((i:Int)+1).toNat=i+1:=by omega
    have e2:((i:Int)+1-1).toNat=i:=by omega
    rw[e1,e2] at h6
    have h6': ¬ l.getD (i+1) 0<=l.getD i 0:=of_decide_eq_false h6
    rw[decide_eq_true (by omega),Bool.true_and] at hinc
    refine⟨i+1,⟨by omega,hinc⟩,by omega,⟨⟨_,rfl,rfl⟩,trivial⟩,?_,rfl⟩
    repeat' (first|exact trivial|exact⟨_,rfl,rfl⟩|constructor)
  ·conv=>whnf
   refine ak.int ?_
   have h5': ¬ ((i:Int)+1<l.length):=of_decide_eq_false h5
   have:MJ l=true:=by
    rw[hinc]
    rcases hd:l.drop i with _|⟨a,_|⟨b,r⟩⟩
    ·rfl
    ·rfl
    ·have:=congrArg List.length hd
     simp only[List.length_drop,List.length_cons] at this
     omega
   rw[jv,hall,this]; rfl
def acv(n:Int):Bool:=decide (n>= -100)&&decide (n<=100)
theorem S.iQ(n:Int):aj Tryz.prog 150 [.int n] (.bool (acv n)):=by
 refine aj.of Bd.iQ (by simp) rfl rfl ?_
 conv=>whnf
 repeat(refine VC.mk id ?_; conv=>whnf)
 exact ak.bool rfl
def TQ(l:Lin):Bool:=acv l.c&&acv l.n&&acv l.t&&acv l.f
theorem S.jJ(l:Lin):aj Tryz.prog 126 [.dat (.lin l)] (.bool (TQ l)):=by
 refine aj.of Bd.jJ (by simp) rfl rfl ?_
 conv=>whnf
 refine ah.pure (S.iQ l.c) rfl ?_
 conv=>whnf
 repeat(refine VC.mk id ?_; conv=>whnf)
 refine ah.dM (fun _=>S.iQ l.n) rfl ?_
 conv=>whnf
 repeat(refine VC.mk id ?_; conv=>whnf)
 refine ah.dM (fun _=>S.iQ l.t) rfl ?_
 conv=>whnf
 repeat(refine VC.mk id ?_; conv=>whnf)
 refine ah.dM (fun _=>S.iQ l.f) rfl ?_
 conv=>whnf
 refine VC.mk id ?_
 conv=>whnf
 exact ak.bool rfl
def jQ(p:aC)(v:Int):Int:=fG (decide (v< -1)||decide (v>=p.values.length)) 5
theorem S.gJ(p:aC)(v:Int):aj Tryz.prog 156 [.dat (.iE p),.int v] (.int (jQ p v)):=by
 refine aj.of Bd.gJ (by simp) rfl rfl ?_
 conv=>whnf
 repeat(refine VC.mk (by first|exact id|exact fun h=>⟨h,h⟩|(intro h; rw[h]; rfl)) ?_; conv=>whnf)
 refine ah.pure (S.dh _ 5) rfl ?_
 conv=>whnf
 exact ak.int rfl
theorem TW{a:Int}(h:(a !=0)=true):a≠0:=by simpa using h
theorem Ko{a:Int}(h:(a !=0)=false):a=0:=by simpa using h
def uq(k t:Int):Bool:=bif k==1||k==2||k==3 then t==1 else bif k==4||k==5 then !(t==1) else false
theorem S.qp(k t:Int):aj Tryz.prog 153 [.int k,.int t] (.bool (uq k t)):=by
 refine aj.of Bd.qp (by simp) rfl rfl ?_
 conv=>whnf
 refine⟨fun h1=>?_,fun h1=>?_⟩
 ·conv=>whnf
  refine Fork.mk (fun _=>?_) (fun q=>absurd (q.symm.trans (h1)) Bool.false_ne_true)
  conv=>whnf
  exact ak.bool (by simp[uq,h1])
 ·conv=>whnf
  refine⟨fun h2=>?_,fun h2=>?_⟩
  ·conv=>whnf
   refine Fork.mk (fun _=>?_) (fun q=>absurd (q.symm.trans (h2)) Bool.false_ne_true)
   conv=>whnf
   exact ak.bool (by simp[uq,h1,h2])
  ·conv=>whnf
   refine⟨fun h3=>?_,fun h3=>?_⟩
   ·conv=>whnf
    exact ak.bool (by simp[uq,h1,h2,h3])
   ·conv=>whnf
    refine⟨fun h4=>?_,fun h4=>?_⟩
    ·conv=>whnf
     refine Fork.mk (fun _=>?_) (fun q=>absurd (q.symm.trans (h4)) Bool.false_ne_true)
     conv=>whnf
     exact ak.bool (by simp[uq,h1,h2,h3,h4,bne])
    ·conv=>whnf
     refine⟨fun h5=>?_,fun h5=>?_⟩
     ·conv=>whnf
      exact ak.bool (by simp[uq,h1,h2,h3,h4,h5,bne])
     ·conv=>whnf
      exact ak.bool (by simp[uq,h1,h2,h3,h4,h5])
def qG:List Int->Int->Int
 |[],_=>0
 |x::r,n=>if dH x n=0 then qG r n else dH x n
def FI(l:List Int)(n:Int):Int:=bif (l.length:Int) !=n then 1 else qG l n
theorem S.jX(l:List Int)(n:Int)(f:Bool)(hl:l.length<2^40):aj Tryz.prog 157 [.row 0 f (.ints l),.int n] (.int (FI l n)):=by
 refine aj.of Bd.jX (by simp) rfl rfl ?_
 conv=>whnf
 refine⟨fun h=>?_,fun h=>?_⟩
 ·conv=>whnf
  exact ak.int (by rw[FI,h]; rfl)
 ·conv=>whnf
  refine aB.same [0,1,12,13] (fun i:Nat=>[(14,.int i)]) (fun i=>i<=l.length/\qG l n=qG (l.drop i) n) (fun i=>l.length-i) 0 rfl (by decide) rfl (fun _=>rfl) ⟨by omega,by simp⟩ ⟨⟨_,rfl,rfl⟩,trivial⟩ ?_
  conv=>whnf
  refine⟨rfl,?_⟩
  rintro i ⟨hi,hall⟩
  conv=>whnf
  refine⟨fun h3=>?_,fun h3=>?_⟩
  ·have hi':i<l.length:=by simpa using h3
   rw[dU 0 hi'] at hall
   simp only[qG] at hall
   conv=>whnf
   refine .mk (by simp only[Rw.rng] at *; omega) ?_
   conv=>whnf
   refine ah.pure (S.dB (l.getD i 0) n) rfl ?_
   conv=>whnf
   refine⟨fun h4=>?_,fun h4=>?_⟩
   ·conv=>whnf
    refine ak.int ?_
    have:dH (l.getD i 0) n≠0:=by simpa using h4
    rw[FI,h,cond_false,hall,if_neg this]
   ·conv=>whnf
    refine .mk (by simp only[okI] at *; omega) ?_
    conv=>whnf
    have:dH (l.getD i 0) n=0:=by simpa using h4
    rw[if_pos this] at hall
    refine⟨i+1,⟨by omega,hall⟩,by omega,⟨⟨_,rfl,rfl⟩,trivial⟩,?_,rfl⟩
    repeat' (first|exact trivial|exact⟨_,rfl,rfl⟩|constructor)
  ·conv=>whnf
   refine ak.int ?_
   have hi':l.length<=i:=by simpa using h3
   rw[FI,h,cond_false,hall,List.drop_eq_nil_of_le hi']; rfl
def guardE(p:aC)(g:Bf):Int:=bF [dH g.message p.messages.length,fG (decide (g.Gl<1)||decide (g.Gl>100)) 1,fG (!(TQ g.bound)) 4]
def kD(p:aC):List Bf->Int
 |[]=>0
 |g::r=>if guardE p g=0 then kD p r else guardE p g
def yu(p:aC)(l:List Bf):Int:=if kD p l=0 then fG (decide ((l.length:Int)>2)) 4 else kD p l
theorem S.mV(p:aC)(l:List Bf)(f:Bool)(hl:l.length<2^40):aj Tryz.prog 155 [.dat (.iE p),.row 7 f (.ru l)] (.int (yu p l)):=by
 refine aj.of Bd.mV (by simp) rfl rfl ?_
 conv=>whnf
 refine aB.same [1,2,8,9] (fun i:Nat=>[(10,.int i)]) (fun i=>i<=l.length/\kD p l=kD p (l.drop i)) (fun i=>l.length-i) 0 rfl (by decide) rfl (fun _=>rfl) ⟨by omega,by simp⟩ ⟨⟨_,rfl,rfl⟩,trivial⟩ ?_
 conv=>whnf
 refine⟨rfl,?_⟩
 rintro i ⟨hi,hall⟩
 conv=>whnf
 refine⟨fun h3=>?_,fun h3=>?_⟩
 ·have hi':i<l.length:=by simpa using h3
  rw[dU default hi'] at hall
  simp only[kD] at hall
  conv=>whnf
  refine .mk (by simp only[Rw.rng] at *; omega) ?_
  conv=>whnf
  refine ah.pure (S.dB (l.getD i default).message p.messages.length) rfl ?_
  conv=>whnf
  repeat(refine VC.mk (by first|exact id|(intro h; rw[h]; rfl)) ?_; conv=>whnf)
  refine ah.pure (S.dh (decide ((l.getD i default).Gl<1)||decide ((l.getD i default).Gl>100)) 1) rfl ?_
  conv=>whnf
  refine ah.pure (S.jJ (l.getD i default).bound) rfl ?_
  conv=>whnf
  refine ah.pure (S.dh (!(TQ (l.getD i default).bound)) 4) rfl ?_
  conv=>whnf
  refine ah.pure (S.bW [dH (l.getD i default).message p.messages.length,fG (decide ((l.getD i default).Gl<1)||decide ((l.getD i default).Gl>100)) 1,fG (!(TQ (l.getD i default).bound)) 4] true (show 3<2^40 by decide)) rfl ?_
  conv=>whnf
  refine⟨fun h4=>?_,fun h4=>?_⟩
  ·conv=>whnf
   refine ak.int ?_
   have h4':guardE p (l.getD i default)≠0:=TW h4
   rw[if_neg h4'] at hall
   rw[yu,hall,if_neg h4']; rfl
  ·conv=>whnf
   refine .mk (by simp only[okI] at *; omega) ?_
   conv=>whnf
   have h4':guardE p (l.getD i default)=0:=Ko h4
   rw[if_pos h4'] at hall
   refine⟨i+1,⟨by omega,hall⟩,by omega,⟨⟨_,rfl,rfl⟩,trivial⟩,?_,rfl⟩
   repeat' (first|exact trivial|exact⟨_,rfl,rfl⟩|constructor)
 ·have hi':l.length<=i:=by simpa using h3
  rw[List.drop_eq_nil_of_le hi'] at hall
  conv=>whnf
  refine ah.pure (S.dh (decide ((l.length:Int)>2)) 4) rfl ?_
  conv=>whnf
  exact ak.int (by rw[yu,hall]; rfl)
structure yw(r:Rule):Prop where
 response:r.response.length<2^30
 guards:r.guards.length<2^30
 ex:r.ex.length<2^30
 all:r.all.length<2^30
 send:r.send.length<2^30
 left:r.left.length<2^30
 right:r.right.length<2^30
 parent:r.parent.length<2^30
def EY(r:Rule):Bool :=
 decide ((r.response.length:Int)+r.guards.length+r.ex.length+r.all.length+r.send.length+r.left.length+r.right.length+r.parent.length>0)||r.fQ !=0||r.Bj !=0||r.pos !=0||r.direction !=0||r.read != -1||r.write != -1
def kS(r:Rule)(t:Int):Bool :=
 bif r.kind==1 then EY {r with guards:=[],ex:=[],all:=[],send:=[],read:= -1,write:= -1} else
 bif r.kind==2 then(bif decide ((r.response.length:Int)>0) then true else EY {r with fQ:=0,Bj:=0,response:=[],read:= -1,write:= -1}) else
 bif r.kind==3 then EY {r with response:=[],read:= -1,write:= -1} else
 bif r.kind==4 then(bif t==4 then EY {r with pos:=0,left:=[],right:=[],parent:=[]} else EY {r with pos:=0,left:=[],right:=[]}) else
 bif r.kind==5 then EY {r with fQ:=0,Bj:=0,direction:=0} else EY r
theorem S.lI(r:Rule)(t:Int)(hs:yw r):aj Tryz.prog 154 [.dat (.rule r),.int t] (.bool (kS r t)):=by
 obtain⟨g1,g2,g3,g4,g5,g6,g7,g8⟩:=hs
 refine aj.of Bd.lI (by simp) rfl rfl ?_
 conv=>whnf
 refine⟨fun h1=>?_,fun h1=>?_⟩
 ·conv=>whnf
  repeat(refine VC.mk (by first|exact id|(intro h; rw[h]; rfl)|(simp only[okI] at *; omega)) ?_; conv=>whnf)
  exact ak.bool (by simp[kS,EY,h1])
 ·conv=>whnf
  refine⟨fun h2=>?_,fun h2=>?_⟩
  ·conv=>whnf
   refine⟨fun h6=>?_,fun h6=>?_⟩
   ·conv=>whnf
    exact ak.bool (by rw[kS,h1,h2,show decide ((r.response.length:Int)>0)=true from h6]; rfl)
   ·conv=>whnf
    repeat(refine VC.mk (by first|exact id|(intro h; rw[h]; rfl)|(simp only[okI] at *; omega)) ?_; conv=>whnf)
    exact ak.bool (by rw[kS,h1,h2,show decide ((r.response.length:Int)>0)=false from h6]; simp[EY])
  ·conv=>whnf
   refine⟨fun h3=>?_,fun h3=>?_⟩
   ·conv=>whnf
    repeat(refine VC.mk (by first|exact id|(intro h; rw[h]; rfl)|(simp only[okI] at *; omega)) ?_; conv=>whnf)
    exact ak.bool (by simp[kS,EY,h1,h2,h3])
   ·conv=>whnf
    refine⟨fun h4=>?_,fun h4=>?_⟩
    ·conv=>whnf
     refine⟨fun h7=>?_,fun h7=>?_⟩
     ·conv=>whnf
      repeat(refine VC.mk (by first|exact id|(intro h; rw[h]; rfl)|(simp only[okI] at *; omega)) ?_; conv=>whnf)
      exact ak.bool (by simp[kS,EY,h1,h2,h3,h4,h7])
     ·conv=>whnf
      repeat(refine VC.mk (by first|exact id|(intro h; rw[h]; rfl)|(simp only[okI] at *; omega)) ?_; conv=>whnf)
      exact ak.bool (by simp[kS,EY,h1,h2,h3,h4,h7])
    ·conv=>whnf
     refine⟨fun h5=>?_,fun h5=>?_⟩
     ·conv=>whnf
      repeat(refine VC.mk (by first|exact id|(intro h; rw[h]; rfl)|(simp only[okI] at *; omega)) ?_; conv=>whnf)
      exact ak.bool (by simp[kS,EY,h1,h2,h3,h4,h5])
     ·conv=>whnf
      repeat(refine VC.mk (by first|exact id|(intro h; rw[h]; rfl)|(simp only[okI] at *; omega)) ?_; conv=>whnf)
      exact ak.bool (by simp[kS,EY,h1,h2,h3,h4,h5])
def acw(h:Hz):Hz->Prop
 |[]=>True
 |(i,o)::r=>h.get i=o/\acw h r
theorem Zz{h:Hz}: ∀ {h0:Hz},acw h h0-> ∀ {i:Nat} {o:OV},h0.get i=some o->h.get i=some o:=by
 intro h0
 induction h0 with
 |nil=>intro _ i o e; cases e
 |cons p r ih =>
  obtain⟨j,u⟩:=p
  intro hs i o e
  simp only[Hz.get] at e
  cases hb:Nat.beq j i with
  |true=>rw[hb] at e; simp only[cond_true] at e; rw[<- Nat.eq_of_beq_eq_true hb,hs.1,e]
  |false=>rw[hb] at e; exact ih hs.2 e
def ZA:Hz->Bool
 |[]=>true
 |(_,some o)::r=>o.Ig&&ZA r
 |(_,none)::r=>ZA r
theorem Uj: ∀ {h0:Hz},ZA h0=true-> ∀ {i:Nat} {o:OV},h0.get i=some o->o.Ig=true:=by
 intro h0
 induction h0 with
 |nil=>intro _ i o e; cases e
 |cons p r ih =>
  obtain⟨j,u⟩:=p
  intro hs i o e
  simp only[Hz.get] at e
  cases hb:Nat.beq j i with
  |true =>
   rw[hb] at e; simp only[cond_true] at e; subst e
   simp only[ZA,Bool.and_eq_true] at hs; exact hs.1
  |false =>
   rw[hb] at e
   refine ih ?_ e
   cases u with
   |none=>exact hs
   |some o=>simp only[ZA,Bool.and_eq_true] at hs; exact hs.2
theorem OV.Uk{o:OV}(h:o.Ig=true):T.aQ (fun _=>False) o.ay.l:=OV.Jr h
theorem nP.same{nx:Nat}{h0 h:Hz}{n:Nat}{post:T->Hp->Prop}{v:V}(hf:v.free=true)(hs:acw h h0)(hg:IG nx h0=true)(hfr:ZA h0=true)(hp:post v.aI h0.au):nP h0 n post v h:=by
 have hG:=Gp hg
 have get: ∀ i ob,h0.au i=some ob-> ∃ o,h0.get i=some o/\ob=o.ay:=fun i ob e=>by
  simp only[Hz.au,Option.map_eq_some_iff] at e
  obtain⟨o,e1,e2⟩:=e
  exact⟨o,e1,e2.symm⟩
 have hfree:=V.mF v hf
 refine⟨fun _=>False,id,v.aI,h0.au,hp,?_,fun i ob hi=>?_,fun i j _ _ e=>e,T.bn (fun _ h=>h.elim) _ (fJ hfree),fun i ob hi=>?_,fun i _ _=>rfl⟩
 ·rw[VF]; exact aF _
 ·obtain⟨o,e1,rfl⟩:=get i ob hi
  refine⟨o.ay,aO (Zz hs e1),fun h=>h,rfl,rfl,?_,Em (hG i _ hi).2.2⟩
  rw[yc _ (OV.Uk (Uj hfr e1))]; exact aP _
 ·obtain⟨o,e1,rfl⟩:=get i ob hi
  exact⟨.inl (by rw[hi]; rfl),T.aG (fun _ h=>h.elim) _ (OV.Uk (Uj hfr e1))⟩
abbrev hRP(p:aC)(r:Rule):Hz:=[(7,some (.box 85 19 (.dat (.rule r)))),(0,some (.box 27 11 (.dat (.iE p))))]
theorem S.Ql(p:aC)(r x:Rule)(n:Nat):aV Tryz.prog 152 (V.aS [.dat (.rule x),.ptr 7 0 0]) (hRP p r).au n (fun t hp=>t= .bool (x.name==r.name)/\hp=(hRP p r).au):=by
 refine pO.of (nx:=8) Bd.nC (by simp) ⟨_,_,rfl,rfl⟩ rfl rfl ?_
 conv=>whnf
 exact nP.same (nx:=8) rfl ⟨rfl,rfl,trivial⟩ rfl rfl ⟨rfl,rfl⟩
def Gy(s:Str):List Rule->Nat->Int
 |[],_=> -1
 |x::r,i=>bif x.name==s then(i:Int) else Gy s r (i+1)
theorem S.ZB(p:aC)(r:Rule)(l:List Rule)(f:Bool)(hl:l.length<2^30)(n:Nat):aV Tryz.prog 169 (V.aS [.row 19 f (.rules l),.fn 152 [.ptr 7 0 0]]) (hRP p r).au n (fun t hp=>t= .int (Gy r.name l 0)/\hp=(hRP p r).au):=by
 refine pO.of (nx:=8) Bd.gK (by simp) ⟨_,_,rfl,rfl⟩ rfl rfl ?_
 conv=>whnf
 refine aB.same [0,1,6,7] (fun i:Nat=>[(8,.int i)]) (fun i=>i<=l.length/\Gy r.name l 0=Gy r.name (l.drop i) i) (fun i=>l.length-i) 0 rfl (by decide) rfl (fun _=>rfl) ⟨by omega,by simp⟩ ⟨⟨_,rfl,rfl⟩,trivial⟩ ?_
 conv=>whnf
 refine⟨rfl,?_⟩
 rintro i ⟨hi,hall⟩
 conv=>whnf
 refine⟨fun h3=>?_,fun h3=>?_⟩
 ·have hi':i<l.length:=by simpa using h3
  rw[dU default hi'] at hall
  simp only[Gy] at hall
  conv=>whnf
  refine .mk (by simp only[Rw.rng] at *; omega) ?_
  conv=>whnf
  refine ah.heap (S.Ql p r (l.getD i default) _) ?_
  rintro t hp ⟨rfl,rfl⟩
  refine⟨.bool _,hRP p r,rfl,rfl,?_⟩
  conv=>whnf
  refine⟨fun h4=>?_,fun h4=>?_⟩
  ·conv=>whnf
   rw[h4] at hall
   exact nP.same (nx:=8) rfl ⟨rfl,rfl,trivial⟩ rfl rfl ⟨by rw[hall]; rfl,rfl⟩
  ·conv=>whnf
   refine .mk (by simp only[okI] at *; omega) ?_
   conv=>whnf
   rw[h4] at hall
   refine⟨i+1,⟨by omega,hall⟩,by omega,⟨⟨_,rfl,rfl⟩,trivial⟩,?_,rfl⟩
   repeat' (first|exact trivial|exact⟨_,rfl,rfl⟩|constructor)
 ·conv=>whnf
  have hi':l.length<=i:=by simpa using h3
  rw[List.drop_eq_nil_of_le hi'] at hall
  exact nP.same (nx:=8) rfl ⟨rfl,rfl,trivial⟩ rfl rfl ⟨by rw[hall]; rfl,rfl⟩
theorem acy{s:Str}{l:List Rule}{i:Nat}:decide (0<=Gy s l i)=l.any fun x=>x.name==s:=by
 have: ∀ {l:List Rule} {i:Nat},0<=Gy s l i↔(l.any fun x=>x.name==s)=true:=by
  intro l
  induction l with
  |nil=>intro i; simp[Gy]
  |cons x r ih =>
   intro i
   rw[List.any_cons,Bool.or_eq_true,<- ih (i:=i+1)]
   show(0:Int)<=(bif x.name==s then(i:Int) else Gy s r (i+1))↔_
   generalize (x.name==s)=b
   cases b<;>simp
 rw[Bool.eq_iff_iff,decide_eq_true_eq]; exact this
theorem S.Qm(p:aC)(r:Rule)(l:List Rule)(f:Bool)(hl:l.length<2^30)(n:Nat):aV Tryz.prog 151 (V.aS [.row 19 f (.rules l),.fn 152 [.ptr 7 0 0]]) (hRP p r).au n (fun t hp=>t= .bool (l.any fun x=>x.name==r.name)/\hp=(hRP p r).au):=by
 refine pO.of (nx:=8) Bd.fM (by simp) ⟨_,_,rfl,rfl⟩ rfl rfl ?_
 conv=>whnf
 refine ah.heap (S.ZB p r l f hl _) ?_
 rintro t hp ⟨rfl,rfl⟩
 refine⟨.int _,hRP p r,rfl,rfl,?_⟩
 conv=>whnf
 exact nP.same (nx:=8) rfl ⟨rfl,rfl,trivial⟩ rfl rfl ⟨by rw[<- acy (i:=0)]; rfl,rfl⟩
theorem ah.mkRow{P:Program}{f:FuncId}{args:List V}{h:Hz}{n ty k:Nat}{r:Rw}{K:V->Hz->Prop}{KW:Nat->V->Hz->Prop}(H:wC P f (V.aS args) (fun n=>.own n) (some ⟨ty,k,r.aS⟩))(hK:K (.own n) ((n,some (.row ty k r []))::h)):ah P false none f args h n K KW :=
 ah.heap (wC.frame H _ _) (by rintro t hp ⟨rfl,rfl⟩; exact⟨.own n,_,rfl,by rw[bG]; simp[gZ,OV.ay,V.aS],hK⟩)
theorem S.Concat(a b c:List Str)(n:Nat)(h0:0<a.length)(ha:a.length<2^20)(hb:b.length<2^20)(hc:c.length<2^20) :
  aV Tryz.prog 148 (V.aS [.IZ 0 false [.row 0 false (.strs a),.row 0 false (.strs b),.row 0 false (.strs c)]]) no n (fun t hp=>t= .own n/\hp=Hz.au [(n,some (.row 9 0 (.strs (a++b++c)) []))]):=by
 refine pO.of (nx:=0) (h0:=[]) Bd.jq (by simp) ⟨_,_,rfl,rfl⟩ rfl rfl ?_
 conv=>whnf
 refine aB.times 4 rfl ?_
 conv=>whnf
 refine Fork.mk (fun _=>?_) (fun q=>absurd (q.symm.trans (rfl)) Bool.false_ne_true)
 conv=>whnf
 repeat(refine VC.mk (by first|(omega)|(simp only[okI] at *; omega)) ?_; conv=>whnf)
 refine Fork.mk (fun q=>absurd (q.symm.trans (decide_eq_false (by omega))).symm Bool.false_ne_true) (fun _=>?_)
 conv=>whnf
 refine .mk (by simp only[okI] at *; omega) ?_
 conv=>whnf
 refine Fork.mk (fun _=>?_) (fun q=>absurd (q.symm.trans (rfl)) Bool.false_ne_true)
 conv=>whnf
 repeat(refine VC.mk (by first|(omega)|(simp only[okI] at *; omega)) ?_; conv=>whnf)
 refine Fork.mk (fun q=>absurd (q.symm.trans (decide_eq_false (by omega))).symm Bool.false_ne_true) (fun _=>?_)
 conv=>whnf
 refine .mk (by simp only[okI] at *; omega) ?_
 conv=>whnf
 refine Fork.mk (fun _=>?_) (fun q=>absurd (q.symm.trans (rfl)) Bool.false_ne_true)
 conv=>whnf
 repeat(refine VC.mk (by first|(omega)|(simp only[okI] at *; omega)) ?_; conv=>whnf)
 refine Fork.mk (fun q=>absurd (q.symm.trans (decide_eq_false (by omega))).symm Bool.false_ne_true) (fun _=>?_)
 conv=>whnf
 refine .mk (by simp only[okI] at *; omega) ?_
 conv=>whnf
 refine Fork.mk (fun q=>absurd (q.symm.trans (rfl)).symm Bool.false_ne_true) (fun _=>?_)
 conv=>whnf
 have e:(0+(a.length:Int)+b.length+c.length)=((a.length+b.length+c.length:Nat):Int):=by omega
 rw[e]
 refine ah.mkRow (r:=.strs []) (S.Grow (a.length+b.length+c.length) (by omega) (by omega)) ?_
 conv=>whnf
 refine aB.times 4 rfl ?_
 conv=>whnf
 refine Fork.mk (fun _=>?_) (fun q=>absurd (q.symm.trans (rfl)) Bool.false_ne_true)
 conv=>whnf
 repeat(refine VC.mk (by first|(omega)|(simp only[nG,nY,Rw.len,List.length_nil]; omega)|(simp only[okI] at *; omega)) ?_; conv=>whnf)
 refine Fork.mk (fun _=>?_) (fun q=>absurd (q.symm.trans (rfl)) Bool.false_ne_true)
 conv=>whnf
 repeat(refine VC.mk (by first|(omega)|(simp only[nG,nY,Rw.len,List.length_append,List.length_nil]; omega)|(simp only[okI] at *; omega)) ?_; conv=>whnf)
 refine Fork.mk (fun _=>?_) (fun q=>absurd (q.symm.trans (rfl)) Bool.false_ne_true)
 conv=>whnf
 repeat(refine VC.mk (by first|(omega)|(simp only[nG,nY,Rw.len,List.length_append,List.length_nil]; omega)|(simp only[okI] at *; omega)) ?_; conv=>whnf)
 refine Fork.mk (fun q=>absurd (q.symm.trans (rfl)).symm Bool.false_ne_true) (fun _=>?_)
 conv=>whnf
 refine nP.one (c:=n) (o:=.row 9 0 (.strs (a++b++c)) []) (t:=.own n) rfl rfl rfl nofun (.inr rfl) rfl (.eq rfl) ⟨rfl,rfl⟩
theorem S.aeg(a b c:List Str)(h0:0<a.length)(ha:a.length<2^20)(hb:b.length<2^20)(hc:c.length<2^20) :
  wC Tryz.prog 148 (V.aS [.IZ 0 false [.row 0 false (.strs a),.row 0 false (.strs b),.row 0 false (.strs c)]]) (fun n=>.own n) (some ⟨9,0,(Rw.strs (a++b++c)).aS⟩):=by
 refine⟨rfl,fun _=>rfl,(fun ob h=>by cases h; rw[dR]; intro t ht; obtain⟨x,_,rfl⟩:=List.mem_map.1 ht; rfl),(fun ob h=>by cases h; exact fun e=>absurd e (by decide:(0:Nat)≠fU)),fun n=>(S.Concat a b c n h0 ha hb hc).mono ?_⟩
 rintro t hp ⟨rfl,rfl⟩
 refine⟨rfl,?_⟩
 rw[bG]; simp[gZ,OV.ay,V.aS]; rfl
theorem ah.aeh{P:Program}{f:FuncId}{args:List V}{ts:List T}{h:Hz}{n ty k:Nat}{r:Rw}{K:V->Hz->Prop}{KW:Nat->V->Hz->Prop}(H:wC P f ts (fun n=>.own n) (some ⟨ty,k,r.aS⟩))(hs:T.dP (fun _=>True) h.au ts (V.aS args))(hh:T.xG r.aS=true)(hK:K (.own n) ((n,some (.row ty k r []))::h)):ah P false none f args h n K KW :=
 ⟨.inl (wC.lend H hs rfl (fun _ e=>by cases e; exact hh) ⟨.own n,_,rfl,by rw[bG]; simp[gZ,OV.ay,V.aS],(fun e=>by cases e),hK⟩)⟩
theorem ahC{h:Hz}{j ty:Nat}{Z:Nat->Prop}{l:List V}(hz:Z j)(q:h.get j=some (.row ty 0 .nil l))(hf:V.dJ l=true):T.sub Z h.au (V.IZ 0 false l).aI (V.own j).aI:=by
 show T.sub Z h.au (.sl 0 false (V.aS l)) (.own j)
 simp only[T.sub]
 exact⟨trivial,hz,V.jG l hf,by decide,ty,by rw[aO q]; rfl⟩
theorem ZC{l:List Str}:T.xG (Rw.strs l).aS=true:=by
 show T.xG (l.map eS)=true
 induction l with
 |nil=>rfl
 |cons s r ih=>simp only[List.map_cons,T.xG,ih]; rfl
theorem ahD{h:Hz}{j i ty:Nat}{Z:Nat->Prop}{l:List Str}(hz:Z j)(q:h.get j=some (.row ty 0 (.strs l) []))(hi:i<=l.length):T.sub Z h.au (V.row 0 false (.strs (l.take i))).aI (V.qN j 0 i).aI:=by
 show T.sub Z h.au (.sl 0 false ((l.take i).map eS)) (.qN j 0 i)
 simp only[T.sub]
 refine⟨trivial,hz,?_,by decide,ty,l.map eS,?_,by simpa using hi,by simp[List.map_take]⟩
 ·rw[dR]; intro t ht; obtain⟨x,_,rfl⟩:=List.mem_map.1 ht; rfl
 ·rw[aO q]; simp[OV.ay,Rw.aS,V.aS]
def allNames(p:aC):List Str:=p.states++p.messages++p.values
def Qh(l:List Str)(i:Nat):Bool:= !(validName (l.getD i []))||(l.take i).any fun x=>l.getD i []==x
def AL(p:aC):Int:=bif (List.range (allNames p).length).any (Qh (allNames p)) then 2 else 0
theorem oO{n:Nat}{f:Nat->Bool}:(List.range n).any f=true↔ ∃ i,i<n/\f i=true:=by
 simp[List.any_eq_true]
theorem S.oI(p:aC)(h0:0<p.states.length)(h1:p.states.length<2^20)(h2:p.messages.length<2^20)(h3:p.values.length<2^20):aj Tryz.prog 125 [.dat (.iE p)] (.int (AL p)):=by
 have hlen:(allNames p).length<2^30:=by simp only[allNames,List.length_append]; omega
 refine aj.of Bd.oI (by simp) rfl rfl ?_
 conv=>whnf
 refine ah.aeh (r:=.strs (allNames p)) (S.aeg p.states p.messages p.values h0 h1 h2 h3) (And.intro (ahC (ty:=22) trivial rfl rfl) trivial) ZC ?_
 conv=>whnf
 refine aB.same [3,14,15] (fun i:Nat=>[(16,.int i)]) (fun i=>i<=(allNames p).length/\(List.range i).any (Qh (allNames p))=false) (fun i=>(allNames p).length-i) 0 rfl (by decide) rfl (fun _=>rfl) ⟨Nat.zero_le _,rfl⟩ ⟨⟨_,rfl,rfl⟩,trivial⟩ ?_
 conv=>whnf
 refine⟨rfl,?_⟩
 rintro i ⟨hi,hall⟩
 conv=>whnf
 refine⟨fun h4=>?_,fun h4=>?_⟩
 ·have hi':i<(allNames p).length:=by simpa using h4
  conv=>whnf
  repeat(refine VC.mk (by simp only[Rw.rng] at *; omega) ?_; conv=>whnf)
  refine ah.pure (S.gV ((allNames p).getD i [])) rfl ?_
  conv=>whnf
  repeat(refine VC.mk (by first|exact fun h=>⟨h,h⟩|(intro h; (repeat' apply And.intro)<;>first|exact h|omega|(simp only[Rw.nO]; omega)|(simp only[Rw.rng]; omega))) ?_; conv=>whnf)
  refine ah.Nr (fun _=>S.slices_Contains_string ((allNames p).take i) ((allNames p).getD i []) false (by rw[List.length_take]; omega)) (fun _=>And.intro (ahD (ty:=9) trivial rfl (by omega)) (And.intro (aF _) trivial)) rfl rfl ?_
  conv=>whnf
  refine .mk (by intro h; rw[h]; rfl) ?_
  conv=>whnf
  refine⟨fun h5=>?_,fun h5=>?_⟩
  ·conv=>whnf
   refine ak.int ?_
   rw[AL,oO.2 ⟨i,hi',h5⟩]; rfl
  ·conv=>whnf
   refine .mk (by simp only[okI] at *; omega) ?_
   conv=>whnf
   refine⟨i+1,⟨by omega,?_⟩,by omega,⟨⟨_,rfl,rfl⟩,trivial⟩,?_,rfl⟩
   ·rw[List.range_succ,List.any_append,hall]
    simp only[List.any_cons,List.any_nil,Bool.or_false,Bool.false_or]; exact h5
   ·repeat' (first|exact trivial|exact⟨_,rfl,rfl⟩|constructor)
 ·have hi':(allNames p).length<=i:=by simpa using h4
  have e:i=(allNames p).length:=Nat.le_antisymm hi hi'
  subst e
  conv=>whnf
  exact ak.int (by rw[AL,hall]; rfl)
theorem ah.ahE{P:Program}{f:FuncId}{args:List V}{h:Hz}{hp0:Hp}{n:Nat}{K:V->Hz->Prop}{KW:Nat->V->Hz->Prop}{post:T->Hp->Prop}(S:aV P f (V.aS args) hp0 n post)(e:h.au=hp0)(hK: ∀ t hp,post t hp-> ∃ v h',t=v.aI/\hp=Hz.au h'/\K v h'):ah P false none f args h n K KW:=by
 subst e; exact ah.heap S hK
theorem Ul{i:Nat}{a b:Option OV}{r:Hz}:Hz.au ((i,a)::(i,b)::r)=Hz.au ((i,a)::r):=funext fun j=>by
 simp only[Hz.au,Hz.get]; cases Nat.beq i j<;>rfl
structure dL(p:aC):Prop where
 states:p.states.length<2^20
 messages:p.messages.length<2^20
 values:p.values.length<2^20
 bQ:p.bQ.length<2^30
 initial:p.initial.length<2^30
 leader:p.leader.length<2^30
 rules:p.rules.length<2^30
 rule: ∀ i,yw (p.rules.getD i default)
 ru:(p.rules.flatMap Rule.guards).length<2^30
def sO(p:aC)(i:Nat):Bool:= !(validName (p.rules.getD i default).name)||(p.rules.take i).any fun x=>x.name==(p.rules.getD i default).name
def qw(p:aC)(i:Nat):Bool:= !(uq (p.rules.getD i default).kind p.topology)||kS (p.rules.getD i default) p.topology
def xK(p:aC)(r:Rule):Int:=bF [dH r.fr p.states.length,dH r.to p.states.length]
def acr(p:aC)(r:Rule):Bool:=decide (r.pos<0)||decide (r.pos>2)||(r.pos !=0&&p.topology==3)
def iC(p:aC)(i:Nat):Int :=
 let r:=p.rules.getD i default
 let n:Int:=p.states.length
 bif sO p i then 2 else bif qw p i then 6 else bif xK p r !=0 then xK p r else
 bif r.kind==1 then bF [yu p r.guards,jv r.ex n,jv r.all n,jQ p r.read,jQ p r.write,jv r.send p.messages.length] else
 bif r.kind==2 then bF [dH r.fQ n,dH r.Bj n,jQ p r.read,jQ p r.write] else
 bif r.kind==3 then bF [FI r.response n,jQ p r.read,jQ p r.write] else
 bif r.kind==4 then bF [jv r.left n,jv r.right n,jv r.parent n,fG (acr p r) 1] else
 bif p.topology==4 then bF [dH r.fQ n,dH r.Bj n,fG (decide (r.direction<3)||decide (r.direction>4)) 1]
 else bF [dH r.fQ n,dH r.Bj n,fG (decide (r.direction<1)||decide (r.direction>2)) 1]
theorem S.jW(p:aC)(i:Nat)(hi:i<p.rules.length)(hp:dL p):aj Tryz.prog 127 [.dat (.iE p),.int i] (.int (iC p i)):=by
 have hr:=hp.rule i
 have hp1:=hp.rules
 have hp2:=hp.states
 have hp3:=hp.messages
 refine aj.of Bd.jW (by simp) rfl rfl ?_
 conv=>whnf
 repeat(refine VC.mk (by first|(simp only[Rw.nO]; omega)|(simp only[Rw.rng] at *; omega)) ?_; conv=>whnf)
 refine ah.ahE (S.Qm p (p.rules.getD i default) (p.rules.take i) false (by rw[List.length_take]; omega) _) Ul ?_
 rintro t hp' ⟨rfl,rfl⟩
 refine⟨.bool _,hRP p (p.rules.getD i default),rfl,rfl,?_⟩
 conv=>whnf
 refine ah.pure (S.gV (p.rules.getD i default).name) rfl ?_
 conv=>whnf
 refine .mk (by intro h; rw[h]; rfl) ?_
 conv=>whnf
 refine⟨fun h1=>?_,fun h1=>?_⟩
 ·conv=>whnf
  exact ak.int (by rw[iC,show sO p i=true from h1]; rfl)
 ·conv=>whnf
  refine ah.pure (S.qp (p.rules.getD i default).kind p.topology) rfl ?_
  conv=>whnf
  repeat(refine VC.mk (by first|exact id|exact fun h=>⟨h,h⟩) ?_; conv=>whnf)
  refine ah.dM (fun _=>S.lI (p.rules.getD i default) p.topology hr) rfl ?_
  conv=>whnf
  refine .mk (by intro h; rw[h]; rfl) ?_
  conv=>whnf
  refine⟨fun h2=>?_,fun h2=>?_⟩
  ·conv=>whnf
   exact ak.int (by rw[iC,show sO p i=false from h1,show qw p i=true from h2]; rfl)
  ·conv=>whnf
   refine ah.pure (S.dB (p.rules.getD i default).fr p.states.length) rfl ?_
   conv=>whnf
   refine ah.pure (S.dB (p.rules.getD i default).to p.states.length) rfl ?_
   conv=>whnf
   refine ah.pure (S.bW [dH (p.rules.getD i default).fr p.states.length,dH (p.rules.getD i default).to p.states.length] true (show 2<2^40 by decide)) rfl ?_
   conv=>whnf
   refine⟨fun h3=>?_,fun h3=>?_⟩
   ·conv=>whnf
    exact ak.int (by rw[iC,show sO p i=false from h1,show qw p i=false from h2,show(xK p (p.rules.getD i default) !=0)=true from h3]; rfl)
   ·conv=>whnf
    refine⟨fun h4=>?_,fun h4=>?_⟩
    ·conv=>whnf
     refine ah.pure (S.mV p (p.rules.getD i default).guards false (by have:=hr.guards; omega)) rfl ?_
     conv=>whnf
     refine ah.pure (S.eG (p.rules.getD i default).ex p.states.length false (by have:=hr.ex; omega)) rfl ?_
     conv=>whnf
     refine ah.pure (S.eG (p.rules.getD i default).all p.states.length false (by have:=hr.all; omega)) rfl ?_
     conv=>whnf
     refine ah.pure (S.gJ p (p.rules.getD i default).read) rfl ?_
     conv=>whnf
     refine ah.pure (S.gJ p (p.rules.getD i default).write) rfl ?_
     conv=>whnf
     refine ah.pure (S.eG (p.rules.getD i default).send p.messages.length false (by have:=hr.send; omega)) rfl ?_
     conv=>whnf
     refine ah.pure (S.bW [yu p (p.rules.getD i default).guards,jv (p.rules.getD i default).ex p.states.length,jv (p.rules.getD i default).all p.states.length,jQ p (p.rules.getD i default).read,jQ p (p.rules.getD i default).write,jv (p.rules.getD i default).send p.messages.length] true (show 6<2^40 by decide)) rfl ?_
     conv=>whnf
     exact ak.int (by rw[iC,show sO p i=false from h1,show qw p i=false from h2,show(xK p (p.rules.getD i default) !=0)=false from h3,h4]; rfl)
    ·conv=>whnf
     refine⟨fun h5=>?_,fun h5=>?_⟩
     ·conv=>whnf
      refine ah.pure (S.dB (p.rules.getD i default).fQ p.states.length) rfl ?_
      conv=>whnf
      refine ah.pure (S.dB (p.rules.getD i default).Bj p.states.length) rfl ?_
      conv=>whnf
      refine ah.pure (S.gJ p (p.rules.getD i default).read) rfl ?_
      conv=>whnf
      refine ah.pure (S.gJ p (p.rules.getD i default).write) rfl ?_
      conv=>whnf
      refine ah.pure (S.bW [dH (p.rules.getD i default).fQ p.states.length,dH (p.rules.getD i default).Bj p.states.length,jQ p (p.rules.getD i default).read,jQ p (p.rules.getD i default).write] true (show 4<2^40 by decide)) rfl ?_
      conv=>whnf
      exact ak.int (by rw[iC,show sO p i=false from h1,show qw p i=false from h2,show(xK p (p.rules.getD i default) !=0)=false from h3,h4,h5]; rfl)
     ·conv=>whnf
      refine⟨fun h6=>?_,fun h6=>?_⟩
      ·conv=>whnf
       refine ah.pure (S.jX (p.rules.getD i default).response p.states.length false (by have:=hr.response; omega)) rfl ?_
       conv=>whnf
       refine ah.pure (S.gJ p (p.rules.getD i default).read) rfl ?_
       conv=>whnf
       refine ah.pure (S.gJ p (p.rules.getD i default).write) rfl ?_
       conv=>whnf
       refine ah.pure (S.bW [FI (p.rules.getD i default).response p.states.length,jQ p (p.rules.getD i default).read,jQ p (p.rules.getD i default).write] true (show 3<2^40 by decide)) rfl ?_
       conv=>whnf
       exact ak.int (by rw[iC,show sO p i=false from h1,show qw p i=false from h2,show(xK p (p.rules.getD i default) !=0)=false from h3,h4,h5,h6]; rfl)
      ·conv=>whnf
       refine⟨fun h7=>?_,fun h7=>?_⟩
       ·conv=>whnf
        repeat(refine VC.mk (by first|exact id|(intro h; rw[h]; rfl)|(intro h; simp_all; done)) ?_; conv=>whnf)
        refine ah.pure (S.eG (p.rules.getD i default).left p.states.length false (by have:=hr.left; omega)) rfl ?_
        conv=>whnf
        refine ah.pure (S.eG (p.rules.getD i default).right p.states.length false (by have:=hr.right; omega)) rfl ?_
        conv=>whnf
        refine ah.pure (S.eG (p.rules.getD i default).parent p.states.length false (by have:=hr.parent; omega)) rfl ?_
        conv=>whnf
        refine ah.pure (S.dh (acr p (p.rules.getD i default)) 1) rfl ?_
        conv=>whnf
        refine ah.pure (S.bW [jv (p.rules.getD i default).left p.states.length,jv (p.rules.getD i default).right p.states.length,jv (p.rules.getD i default).parent p.states.length,fG (acr p (p.rules.getD i default)) 1] true (show 4<2^40 by decide)) rfl ?_
        conv=>whnf
        exact ak.int (by rw[iC,show sO p i=false from h1,show qw p i=false from h2,show(xK p (p.rules.getD i default) !=0)=false from h3,h4,h5,h6,h7]; rfl)
       ·conv=>whnf
        refine⟨fun h8=>?_,fun h8=>?_⟩
        ·conv=>whnf
         refine ah.pure (S.dB (p.rules.getD i default).fQ p.states.length) rfl ?_
         conv=>whnf
         refine ah.pure (S.dB (p.rules.getD i default).Bj p.states.length) rfl ?_
         conv=>whnf
         repeat(refine VC.mk (by first|exact id|exact fun h=>⟨h,h⟩|(intro h; rw[h]; rfl)) ?_; conv=>whnf)
         refine ah.pure (S.dh (decide ((p.rules.getD i default).direction<3)||decide ((p.rules.getD i default).direction>4)) 1) rfl ?_
         conv=>whnf
         refine ah.pure (S.bW [dH (p.rules.getD i default).fQ p.states.length,dH (p.rules.getD i default).Bj p.states.length,fG (decide ((p.rules.getD i default).direction<3)||decide ((p.rules.getD i default).direction>4)) 1] true (show 3<2^40 by decide)) rfl ?_
         conv=>whnf
         exact ak.int (by rw[iC,show sO p i=false from h1,show qw p i=false from h2,show(xK p (p.rules.getD i default) !=0)=false from h3,h4,h5,h6,h7,h8]; rfl)
        ·conv=>whnf
         refine ah.pure (S.dB (p.rules.getD i default).fQ p.states.length) rfl ?_
         conv=>whnf
         refine ah.pure (S.dB (p.rules.getD i default).Bj p.states.length) rfl ?_
         conv=>whnf
         repeat(refine VC.mk (by first|exact id|exact fun h=>⟨h,h⟩|(intro h; rw[h]; rfl)) ?_; conv=>whnf)
         refine ah.pure (S.dh (decide ((p.rules.getD i default).direction<1)||decide ((p.rules.getD i default).direction>2)) 1) rfl ?_
         conv=>whnf
         refine ah.pure (S.bW [dH (p.rules.getD i default).fQ p.states.length,dH (p.rules.getD i default).Bj p.states.length,fG (decide ((p.rules.getD i default).direction<1)||decide ((p.rules.getD i default).direction>2)) 1] true (show 3<2^40 by decide)) rfl ?_
         conv=>whnf
         exact ak.int (by rw[iC,show sO p i=false from h1,show qw p i=false from h2,show(xK p (p.rules.getD i default) !=0)=false from h3,h4,h5,h6,h7,h8]; rfl)
def yt(g:Bf):List Bf->Nat->Int
 |[],_=> -1
 |x::r,i=>bif g==x then(i:Int) else yt g r (i+1)
theorem TU{g:Bf}{l:List Bf}{i:Nat}:decide (0<=yt g l i)=l.any fun x=>g==x:=by
 have: ∀ {l:List Bf} {i:Nat},0<=yt g l i↔(l.any fun x=>g==x)=true:=by
  intro l
  induction l with
  |nil=>intro i; simp[yt]
  |cons x r ih =>
   intro i
   rw[List.any_cons,Bool.or_eq_true,<- ih (i:=i+1)]
   show(0:Int)<=(bif g==x then(i:Int) else yt g r (i+1))↔_
   generalize (g==x)=b
   cases b<;>simp
 rw[Bool.eq_iff_iff,decide_eq_true_eq]; exact this
theorem S.acz(l:List Bf)(g:Bf)(f:Bool)(hl:l.length<2^40):aj Tryz.prog 170 [.row 7 f (.ru l),.dat (.Uw g)] (.int (yt g l 0)):=by
 refine aj.of Bd.eU (by simp) rfl rfl ?_
 conv=>whnf
 refine aB.same [0,3,6,7] (fun i:Nat=>[(8,.int i)]) (fun i=>i<=l.length/\yt g l 0=yt g (l.drop i) i) (fun i=>l.length-i) 0 rfl (by decide) rfl (fun _=>rfl) ⟨by omega,by simp⟩ ⟨⟨_,rfl,rfl⟩,trivial⟩ ?_
 conv=>whnf
 refine⟨rfl,?_⟩
 rintro i ⟨hi,hall⟩
 conv=>whnf
 refine⟨fun h3=>?_,fun h3=>?_⟩
 ·have hi':i<l.length:=by simpa using h3
  rw[dU default hi'] at hall
  simp only[yt] at hall
  conv=>whnf
  refine .mk (by simp only[Rw.rng] at *; first|omega|(simp_all; done)|(simp_all; omega)) ?_
  conv=>whnf
  refine⟨fun h4=>?_,fun h4=>?_⟩
  ·conv=>whnf
   refine ak.int ?_
   have h4':(g==l.getD i default)=true:=h4
   rw[hall,h4']; rfl
  ·conv=>whnf
   refine .mk (by simp only[okI] at *; first|omega|(simp_all; done)|(simp_all; omega)) ?_
   conv=>whnf
   refine⟨i+1,⟨by omega,?_⟩,by omega,⟨⟨_,rfl,rfl⟩,trivial⟩,?_,rfl⟩
   ·have h4':(g==l.getD i default)=false:=h4
    rw[hall,h4']; rfl
   ·repeat' (first|exact trivial|exact⟨_,rfl,rfl⟩|constructor)
 ·conv=>whnf
  refine ak.int ?_
  have hi':l.length<=i:=by simpa using h3
  rw[hall,List.drop_eq_nil_of_le hi']; rfl
theorem S.Um(l:List Bf)(g:Bf)(f:Bool)(hl:l.length<2^40):aj Tryz.prog 158 [.row 7 f (.ru l),.dat (.Uw g)] (.bool (l.any fun x=>g==x)):=by
 refine aj.of Bd.dZ (by simp) rfl rfl ?_
 conv=>whnf
 refine ah.pure (S.acz l g f hl) rfl ?_
 conv=>whnf
 exact ak.bool TU.symm
theorem acn{h:Hz}{j:Nat}{Z:Nat->Prop}{l:List Bf}(hz:Z j)(q:h.get j=some (.row 164 7 (.ru l) [])):T.sub Z h.au (V.row 7 false (.ru l)).aI (V.own j).aI:=by
 show T.sub Z h.au (.sl 7 false (l.map Tc)) (.own j)
 simp only[T.sub]
 refine⟨trivial,hz,?_,by decide,164,?_⟩
 ·rw[dR]; intro t ht; obtain⟨x,_,rfl⟩:=List.mem_map.1 ht; rfl
 ·have:=aO q
  rw[this]; simp[OV.ay,Rw.aS,V.aS]
theorem CZ{α β:Type}{f:β->α->β}{b:β}{l:List α}{i:Nat}{d:α}(h:i<l.length):(l.take (i+1)).foldl f b=f ((l.take i).foldl f b) (l.getD i d):=by
 rw[List.take_add_one,List.foldl_append]
 simp[List.getElem?_eq_getElem h]
theorem ak.ahy{h:Hz}{j:Nat}{l:List Bf}(q:h.get j=some (.row 164 7 (.ru l) [])):ak (.row 7 false (.ru l)) (.own j) h:=⟨acn trivial q⟩
def I5(acc:List Bf)(g:Bf):List Bf:=bif acc.any (fun x=>g==x) then acc else acc++[g]
def zS(l:List Rule):List Bf:=(l.flatMap Rule.guards).foldl I5 []
theorem acA{acc:List Bf}{g:Bf}:(I5 acc g).length<=acc.length+1:=by
 unfold I5; cases acc.any (fun x=>g==x)<;>simp
theorem Un: ∀ {l acc:List Bf},(l.foldl I5 acc).length<=acc.length+l.length:=by
 intro l
 induction l with
 |nil=>intro acc; simp
 |cons g r ih =>
  intro acc
  have:=ih (acc:=I5 acc g)
  have h2:=acA (acc:=acc) (g:=g)
  simp only[List.foldl_cons,List.length_cons]; omega
abbrev rowT(l:List Bf):OV:=.row 164 7 (.ru l) []
def zT(p:aC)(i k:Nat):List Bf:=((p.rules.getD i default).guards.take k).foldl I5 (zS (p.rules.take i))
theorem TV(p:aC)(hp:dL p)(i k:Nat)(_hi:i<p.rules.length):(zT p i k).length<2^31:=by
 have h1:=Un (l:=(p.rules.getD i default).guards.take k) (acc:=zS (p.rules.take i))
 have h2:=Un (l:=(p.rules.take i).flatMap Rule.guards) (acc:=[])
 have h3:=(hp.rule i).guards
 have h4:((p.rules.take i).flatMap Rule.guards).length<=(p.rules.flatMap Rule.guards).length:=by
  conv=>rhs; rw[<- List.take_append_drop i p.rules,List.flatMap_append,List.length_append]
  omega
 have h5:=hp.ru
 have h6:((p.rules.getD i default).guards.take k).length<=(p.rules.getD i default).guards.length:=by simp[List.length_take]; omega
 unfold zT
 unfold zS at h1 ⊢
 simp only[List.length_nil,Nat.zero_add] at h2
 omega
theorem Ox(p:aC){i:Nat}(hi:i<p.rules.length):zS (p.rules.take (i+1))=zT p i (p.rules.getD i default).guards.length:=by
 unfold zT
 rw[List.take_of_length_le (Nat.le_refl _)]
 unfold zS
 rw[List.take_add_one,List.flatMap_append,List.foldl_append]
 simp[List.getElem?_eq_getElem hi]
theorem S.jy(p:aC)(hp:dL p):aj Tryz.prog 128 [.dat (.iE p)] (.row 7 false (.ru (zS p.rules))):=by
 have hp1:=hp.rules
 refine aj.of Bd.jy (by simp) rfl rfl ?_
 conv=>whnf
 refine aB.nil 3 164 7 (by rfl) rfl rfl rfl ?_
 refine aB.objs 1 [9,10] (fun i:Nat=>[(11,.int i),(3,.own 0)]) (fun i=>[(0,rowT (zS (p.rules.take i)))]) (fun i=>i<=p.rules.length) (fun i=>p.rules.length-i) 0 [7] rfl (by decide) (fun _=>rfl) (Nat.zero_le _) ?_ ?_ ?_
 ·exact(sR rfl)
 ·exact⟨⟨rfl,nofun,rfl,rfl,rfl,_,rfl,rfl,rfl,bD.of_eq rfl⟩,trivial⟩
 conv=>whnf
 refine⟨(sR rfl),rfl,?_⟩
 rintro i hi
 conv=>whnf
 refine⟨fun h3=>?_,fun h3=>?_⟩
 ·have hi':i<p.rules.length:=by simpa using h3
  conv=>whnf
  refine .mk (by simp only[Rw.rng] at *; first|omega|(simp_all; done)|(simp_all; omega)) ?_
  conv=>whnf
  refine aB.objs 1 [9,10,11,16,17] (fun k:Nat=>[(18,.int k),(3,.own 0)]) (fun k=>[(0,rowT (zT p i k))]) (fun k=>k<=(p.rules.getD i default).guards.length) (fun k=>(p.rules.getD i default).guards.length-k) 0 [0] rfl (by decide) (fun _=>rfl) (Nat.zero_le _) ?_ ?_ ?_
  ·exact(sR rfl)
  ·exact⟨⟨rfl,nofun,rfl,rfl,rfl,_,rfl,rfl,rfl,bD.of_eq rfl⟩,trivial⟩
  conv=>whnf
  refine⟨(sR rfl),rfl,?_⟩
  rintro k hk
  have hacc:=TV p hp i k hi'
  have hg:=(hp.rule i).guards
  conv=>whnf
  refine⟨fun h4=>?_,fun h4=>?_⟩
  ·have hk':k<(p.rules.getD i default).guards.length:=by simpa using h4
   have hst:zT p i (k+1)=I5 (zT p i k) ((p.rules.getD i default).guards.getD k default):=CZ hk'
   conv=>whnf
   refine .mk (by simp only[Rw.rng] at *; first|omega|(simp_all; done)|(simp_all; omega)) ?_
   conv=>whnf
   refine ah.lend (S.Um (zT p i k) ((p.rules.getD i default).guards.getD k default) false (by omega)) (And.intro (acn trivial rfl) (And.intro (aF _) trivial)) rfl rfl ?_
   conv=>whnf
   refine⟨fun h5=>?_,fun h5=>?_⟩
   ·conv=>whnf
    repeat(refine VC.mk (by first|(show((zT p i k).length+(0+1))*48<=140737488355328/\(zT p i k).length+(0+1)<=1152921504606846976; omega)|(simp only[okI] at *; first|omega|(simp_all; done)|(simp_all; omega))) ?_; conv=>whnf)
    have h5':((zT p i k).any fun x=>(p.rules.getD i default).guards.getD k default==x)=false:=by simpa using h5
    refine⟨k+1,[13],by omega,by omega,(sR rfl),(sR rfl),⟨rfl,nofun,rfl,rfl,rfl,_,rfl,rfl,rfl,bD.of_eq ?_⟩,trivial⟩
    rw[hst,I5,h5']
    rfl
   ·conv=>whnf
    refine .mk (by simp only[okI] at *; first|omega|(simp_all; done)|(simp_all; omega)) ?_
    conv=>whnf
    have h5':((zT p i k).any fun x=>(p.rules.getD i default).guards.getD k default==x)=true:=by simpa using h5
    refine⟨k+1,[0],by omega,by omega,(sR rfl),(sR rfl),⟨rfl,nofun,rfl,rfl,rfl,_,rfl,rfl,rfl,bD.of_eq ?_⟩,trivial⟩
    rw[hst,I5,h5']; rfl
  ·have hk':(p.rules.getD i default).guards.length<=k:=by simpa using h4
   have e:k=(p.rules.getD i default).guards.length:=Nat.le_antisymm hk hk'
   subst e
   conv=>whnf
   refine .mk (by simp only[okI] at *; first|omega|(simp_all; done)|(simp_all; omega)) ?_
   conv=>whnf
   refine⟨i+1,[0],by omega,by omega,(sR rfl),(sR rfl),⟨rfl,nofun,rfl,rfl,rfl,_,rfl,rfl,rfl,bD.of_eq ?_⟩,trivial⟩
   rw[Ox p hi']
 ·have hi':p.rules.length<=i:=by simpa using h3
  rw[List.take_of_length_le hi']
  conv=>whnf
  exact ak.ahy rfl
def uY(p:aC):Bool:=decide (p.topology<1)||decide (p.topology>4)||decide (p.fault<0)||decide (p.fault>3)
def wS(p:aC):Bool:=decide ((p.states.length:Int)>6)||decide ((p.messages.length:Int)>3)||decide ((p.values.length:Int)>3)||decide ((p.bQ.length:Int)>4)||decide ((p.rules.length:Int)>8)
def TY(p:aC):Bool:=(!(p.topology==1)&&(decide ((p.messages.length:Int)>0)||decide ((p.values.length:Int)>0)||decide ((p.bQ.length:Int)>0)||p.fault !=0))||((p.topology==1)&&decide ((p.leader.length:Int)>0))
def zk(p:aC):Int:=bF [jv p.initial p.states.length,fG ((p.initial.length:Int)==0) 1,jv p.leader p.states.length]
def Eu(p:aC):Int:=bF ((List.range p.rules.length).map (iC p))
def dw(p:aC):Int :=
 bif !(validName p.name) then 2 else bif uY p then 1 else bif (p.states.length:Int)==0 then 1 else bif wS p then 4 else
 bif AL p !=0 then AL p else bif TY p then 1 else
 bif p.bQ.any (fun l=> !(TQ l)) then 4 else
 bif zk p !=0 then zk p else
 bif Eu p !=0 then Eu p else fG (decide (((zS p.rules).length:Int)>3)) 4
theorem LH{n i:Nat}{f:Nat->Int}(h:i<n):((List.range n).drop i).map f=f i::((List.range n).drop (i+1)).map f:=by
 rw[List.drop_eq_getElem_cons (by simpa using h)]; simp
theorem S.jh(p:aC)(hp:dL p):aj Tryz.prog 99 [.dat (.iE p)] (.int (dw p)):=by
 have g1:=hp.states; have g2:=hp.messages; have g3:=hp.values; have g4:=hp.bQ; have g5:=hp.initial; have g6:=hp.leader; have g7:=hp.rules
 refine aj.of Bd.jh (by simp) rfl rfl ?_
 conv=>whnf
 refine ah.pure (S.gV p.name) rfl ?_
 conv=>whnf
 refine⟨fun h1=>?_,fun h1=>?_⟩
 ·conv=>whnf
  exact ak.int (by rw[dw,h1]; rfl)
 conv=>whnf
 repeat(refine VC.mk (by first|exact id|(intro h; rw[h]; rfl)) ?_; conv=>whnf)
 refine⟨fun h2=>?_,fun h2=>?_⟩
 ·conv=>whnf
  exact ak.int (by rw[dw,h1,show uY p=true from h2]; rfl)
 conv=>whnf
 refine⟨fun h3=>?_,fun h3=>?_⟩
 ·conv=>whnf
  exact ak.int (by rw[dw,h1,show uY p=false from h2,h3]; rfl)
 conv=>whnf
 repeat(refine VC.mk (by first|exact id|(intro h; rw[h]; rfl)) ?_; conv=>whnf)
 refine⟨fun h4=>?_,fun h4=>?_⟩
 ·conv=>whnf
  exact ak.int (by rw[dw,h1,show uY p=false from h2,h3,show wS p=true from h4]; rfl)
 conv=>whnf
 have h0:0<p.states.length:=by
  rcases Nat.eq_zero_or_pos p.states.length with e|e
  ·rw[e] at h3; exact absurd h3 (by decide)
  ·exact e
 refine ah.pure (S.oI p h0 g1 g2 g3) rfl ?_
 conv=>whnf
 refine⟨fun h5=>?_,fun h5=>?_⟩
 ·conv=>whnf
  exact ak.int (by rw[dw,h1,show uY p=false from h2,h3,show wS p=false from h4,h5]; rfl)
 conv=>whnf
 repeat(refine VC.mk (by first|exact id|(intro h; rw[h]; rfl)|(intro h; simp_all; done)) ?_; conv=>whnf)
 refine⟨fun h6=>?_,fun h6=>?_⟩
 ·conv=>whnf
  exact ak.int (by rw[dw,h1,show uY p=false from h2,h3,show wS p=false from h4,h5,show TY p=true from h6]; rfl)
 conv=>whnf
 refine aB.same [1,4,111,112] (fun i:Nat=>[(113,.int i)]) (fun i=>i<=p.bQ.length/\(p.bQ.take i).any (fun l=> !(TQ l))=false) (fun i=>p.bQ.length-i) 0 rfl (by decide) rfl (fun _=>rfl) ⟨by omega,by simp⟩ ⟨⟨_,rfl,rfl⟩,trivial⟩ ?_
 conv=>whnf
 refine⟨rfl,?_⟩
 rintro i ⟨hi,hall⟩
 conv=>whnf
 refine⟨fun h7=>?_,fun h7=>?_⟩
 ·have hi':i<p.bQ.length:=by simpa using h7
  conv=>whnf
  refine .mk (by simp only[Rw.rng] at *; omega) ?_
  conv=>whnf
  refine ah.pure (S.jJ (p.bQ.getD i default)) rfl ?_
  conv=>whnf
  refine⟨fun h8=>?_,fun h8=>?_⟩
  ·conv=>whnf
   exact ak.int (by rw[dw,h1,show uY p=false from h2,h3,show wS p=false from h4,h5,show TY p=false from h6,iU (d:=default) hi' h8]; rfl)
  ·conv=>whnf
   refine .mk (by simp only[okI] at *; omega) ?_
   conv=>whnf
   refine⟨i+1,⟨by omega,?_⟩,by omega,⟨⟨_,rfl,rfl⟩,trivial⟩,?_,rfl⟩
   ·rw[kN (d:=default) hi' hall]; exact h8
   ·repeat' (first|exact trivial|exact⟨_,rfl,rfl⟩|constructor)
 have hi':p.bQ.length<=i:=by simpa using h7
 rw[List.take_of_length_le hi'] at hall
 conv=>whnf
 refine ah.pure (S.eG p.initial p.states.length false (by omega)) rfl ?_
 conv=>whnf
 refine ah.pure (S.dh ((p.initial.length:Int)==0) 1) rfl ?_
 conv=>whnf
 refine ah.pure (S.eG p.leader p.states.length false (by omega)) rfl ?_
 conv=>whnf
 refine ah.pure (S.bW [jv p.initial p.states.length,fG ((p.initial.length:Int)==0) 1,jv p.leader p.states.length] true (show 3<2^40 by decide)) rfl ?_
 conv=>whnf
 refine⟨fun h9=>?_,fun h9=>?_⟩
 ·conv=>whnf
  exact ak.int (by rw[dw,h1,show uY p=false from h2,h3,show wS p=false from h4,h5,show TY p=false from h6,hall,show(zk p !=0)=true from h9]; rfl)
 conv=>whnf
 refine aB.same [1,140,141] (fun i:Nat=>[(142,.int i)]) (fun i=>i<=p.rules.length/\Eu p=bF (((List.range p.rules.length).drop i).map (iC p))) (fun i=>p.rules.length-i) 0 rfl (by decide) rfl (fun _=>rfl) ⟨by omega,by simp[Eu]⟩ ⟨⟨_,rfl,rfl⟩,trivial⟩ ?_
 conv=>whnf
 refine⟨rfl,?_⟩
 rintro i ⟨hi,hr⟩
 conv=>whnf
 refine⟨fun h10=>?_,fun h10=>?_⟩
 ·have hi':i<p.rules.length:=by simpa using h10
  rw[LH hi'] at hr
  simp only[bF] at hr
  conv=>whnf
  refine ah.pure (S.jW p i hi' hp) rfl ?_
  conv=>whnf
  refine⟨fun h11=>?_,fun h11=>?_⟩
  ·conv=>whnf
   have agr:iC p i≠0:=TW h11
   rw[if_neg agr] at hr
   exact ak.int (by rw[dw,h1,show uY p=false from h2,h3,show wS p=false from h4,h5,show TY p=false from h6,hall,show(zk p !=0)=false from h9,hr,h11]; rfl)
  ·conv=>whnf
   refine .mk (by simp only[okI] at *; omega) ?_
   conv=>whnf
   have agr:iC p i=0:=Ko h11
   rw[if_pos agr] at hr
   refine⟨i+1,⟨by omega,hr⟩,by omega,⟨⟨_,rfl,rfl⟩,trivial⟩,?_,rfl⟩
   repeat' (first|exact trivial|exact⟨_,rfl,rfl⟩|constructor)
 have hi':p.rules.length<=i:=by simpa using h10
 rw[List.drop_eq_nil_of_le (by simpa using hi')] at hr
 conv=>whnf
 refine ah.pure (S.jy p hp) rfl ?_
 conv=>whnf
 refine ah.pure (S.dh (decide (((zS p.rules).length:Int)>3)) 4) rfl ?_
 conv=>whnf
 exact ak.int (by rw[dw,h1,show uY p=false from h2,h3,show wS p=false from h4,h5,show TY p=false from h6,hall,show(zk p !=0)=false from h9,hr]; rfl)
theorem ak.eqv{a b:V}{h:Hz}(e:a.aI=b.aI):ak a b h:=⟨by rw[e]; exact aF _⟩
def Ub(acc:Bool)(r:Rule):Bool:=acc&&(r.kind==1)&&decide (r.fr<r.to)&&((r.ex.length:Int)==0)&&((r.all.length:Int)==0)
def Zy(acc:Bool)(r:Rule):Bool:=acc||decide ((r.all.length:Int)>0)
def tK(p:aC):Bool:=(p.topology==1)&&(p.fault==0)&&((p.messages.length:Int)==0)&&((p.bQ.length:Int)==0)
structure Cls where
 Uw:Bool
 cover:Bool
 word:Bool
 tree:Bool
 monadic:Bool
def oJ(p:aC):Cls :=
 ⟨(p.topology==1)&&((p.values.length:Int)==0)&&p.rules.foldl Ub true,tK p&& !(p.rules.foldl Zy false),(p.topology==2)||(p.topology==3),p.topology==4,tK p&&decide ((p.states.length:Int)<=4)⟩
def ahA(c:Cls):V:=.agg [.bool c.Uw,.bool c.cover,.bool c.word,.bool c.tree,.bool c.monadic]
def Qp:Cls:=⟨false,false,false,false,false⟩
def Ib(p:aC):V:=.gW [ahA (bif dw p !=0 then Qp else oJ p),.int (dw p)]
theorem S.jf(p:aC)(hp:dL p):aj Tryz.prog 106 [.dat (.iE p)] (Ib p):=by
 have g1:=hp.states; have g2:=hp.messages; have g3:=hp.values; have g4:=hp.bQ; have g7:=hp.rules
 refine aj.of Bd.jf (by simp) rfl rfl ?_
 conv=>whnf
 refine ah.pure (S.jh p hp) rfl ?_
 conv=>whnf
 refine⟨fun h1=>?_,fun h1=>?_⟩
 ·conv=>whnf
  refine ak.eqv ?_
  rw[Ib,h1]; rfl
 have h1':dw p=0:=Ko h1
 conv=>whnf
 refine aB.same [1,2,3,18,19] (fun i:Nat=>[(20,.int i),(5,.bool ((p.rules.take i).foldl Ub true)),(6,.bool ((p.rules.take i).foldl Zy false))]) (fun i=>i<=p.rules.length) (fun i=>p.rules.length-i) 0 rfl (by decide) rfl (fun _=>rfl) (Nat.zero_le _) ⟨⟨_,rfl,rfl⟩,⟨_,rfl,rfl⟩,⟨_,rfl,rfl⟩,trivial⟩ ?_
 conv=>whnf
 refine⟨rfl,?_⟩
 rintro i hi
 have g8:=hp.rule i
 have g9:=g8.ex; have g10:=g8.all
 conv=>whnf
 refine⟨fun h7=>?_,fun h7=>?_⟩
 ·have hi':i<p.rules.length:=by simpa using h7
  conv=>whnf
  repeat(refine VC.mk (by first|exact id|exact fun h=>⟨h,h⟩|(intro h; rw[h]; rfl)|(simp only[okI,Rw.rng] at *; omega)) ?_; conv=>whnf)
  refine⟨i+1,by omega,by omega,⟨⟨_,rfl,rfl⟩,⟨_,rfl,?_⟩,⟨_,rfl,?_⟩,trivial⟩,?_,rfl⟩
  ·rw[CZ (d:=default) hi']; rfl
  ·rw[CZ (d:=default) hi']; rfl
  ·repeat' (first|exact trivial|exact⟨_,rfl,rfl⟩|constructor)
 have hi':p.rules.length<=i:=by simpa using h7
 rw[List.take_of_length_le hi']
 conv=>whnf
 repeat(refine VC.mk (by first|exact id|(intro h; rw[h]; rfl)) ?_; conv=>whnf)
 refine ak.eqv ?_
 rw[Ib,h1']
 rfl
def kL(r:Rule)(t:Int):Bool :=
 bif !(r.kind==1)&&(decide ((r.guards.length:Int)>0)||decide ((r.ex.length:Int)>0)||decide ((r.all.length:Int)>0)||decide ((r.send.length:Int)>0)) then true else
 bif !(r.kind==1)&& !(r.kind==2)&& !(r.kind==3)&&(r.read != -1||r.write != -1) then true else
 bif !(r.kind==2)&& !(r.kind==5)&&(r.fQ !=0||r.Bj !=0) then true else
 bif (!(r.kind==3)&&decide ((r.response.length:Int)>0))||(!(r.kind==5)&&r.direction !=0) then true else
 bif !(r.kind==4)&&(r.pos !=0||decide ((r.left.length:Int)>0)||decide ((r.right.length:Int)>0)) then true else
 decide ((r.parent.length:Int)>0)&& !((r.kind==4)&&(t==4))
theorem gt0{n:Nat}:decide ((n:Int)>0)= !(n==0):=by
 cases n with
 |zero=>rfl
 |succ n=>rw[decide_eq_true (by omega)]; rfl
theorem ain(a b c d e f g h:Nat):decide ((a:Int)+b+c+d+e+f+g+h>0)=(!(a==0)|| !(b==0)|| !(c==0)|| !(d==0)|| !(e==0)|| !(f==0)|| !(g==0)|| !(h==0)):=by
 rw[Bool.eq_iff_iff]
 simp only[decide_eq_true_eq,Bool.or_eq_true,Bool.not_eq_true',beq_eq_false_iff_ne,ne_eq]
 omega
theorem wE{r:Rule}{t:Int}(h:1<=r.kind/\r.kind<=5):kL r t=kS r t:=by
 have hk:r.kind=1\/r.kind=2\/r.kind=3\/r.kind=4\/r.kind=5:=by omega
 simp only[kL,kS,EY,gt0,ain,bne]
 generalize (r.guards.length==0)=g1
 generalize (r.ex.length==0)=g2
 generalize (r.all.length==0)=g3
 generalize (r.send.length==0)=g4
 generalize (r.response.length==0)=g5
 generalize (r.left.length==0)=g6
 generalize (r.right.length==0)=g7
 generalize (r.parent.length==0)=g8
 generalize (r.read== -1)=g9
 generalize (r.write== -1)=g10
 generalize (r.fQ==0)=g11
 generalize (r.Bj==0)=g12
 generalize (r.direction==0)=g13
 generalize (r.pos==0)=g14
 rcases hk with hk|hk|hk|hk|hk<;>rw[hk] <;>
  (first
   |(simp; done)
   |(cases (t==4)<;>simp<;>grind)
   |(simp; grind))
end Go.Proofs.YtajmbgljnaljiaaGreatDoor
