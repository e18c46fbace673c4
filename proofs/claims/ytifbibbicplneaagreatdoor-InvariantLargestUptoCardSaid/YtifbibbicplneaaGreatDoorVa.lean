/-
 A part of the proof. No condition.
-/
import Derived.Test.YtifbibbicplneaaGreatDoorNb
import Derived.Test.YtifbibbicplneaaGreatDoorLf
namespace Go.Proofs.YtifbibbicplneaaGreatDoor
open Go.Ab Go.Proofs
set_option maxRecDepth 100000
def dV(b:Bool)(e:Int):Int:=bif b then e else 0
theorem S.bU(b:Bool)(e:Int):aj Tryz.prog 130 [.bool b,.int e] (.int (dV b e)):=by
 refine aj.of Bd.bU (by simp) rfl rfl ?_
 conv=>whnf
 refine⟨fun h=>?_,fun h=>?_⟩
 ·conv=>whnf
  exact ak.int (by rw[h]; rfl)
 ·conv=>whnf
  exact ak.int (by rw[h]; rfl)
def nK(i n:Int):Bool:=decide (i<0)||decide (i>=n)
def cZ(i n:Int):Int:=dV (nK i n) 5
theorem S.bY(i n:Int):aj Tryz.prog 158 [.int i,.int n] (.int (cZ i n)):=by
 refine aj.of Bd.bY (by simp) rfl rfl ?_
 conv=>whnf
 repeat(refine VC.mk (by first|exact fun h=>⟨h,h⟩|(intro h; rw[h]; rfl)) ?_; conv=>whnf)
 refine ah.pure (S.bU (nK i n) 5) rfl ?_
 conv=>whnf
 exact ak.int rfl
def aT:List Int->Int
 |[]=>0
 |e::r=>if e=0 then aT r else e
theorem S.bQ(l:List Int)(f:Bool)(hl:l.length<2^40):aj Tryz.prog 129 [.row 0 f (.ints l)] (.int (aT l)):=by
 refine aj.of Bd.bQ (by simp) rfl rfl ?_
 conv=>whnf
 refine aF.same [5,6] (fun i:Nat=>[(7,.int i)]) (fun i=>i<=l.length/\aT l=aT (l.drop i)) (fun i=>l.length-i) 0 rfl (by decide) rfl (fun _=>rfl) ⟨by omega,by simp⟩ ⟨⟨_,rfl,rfl⟩,trivial⟩ ?_
 conv=>whnf
 refine⟨rfl,?_⟩
 rintro i ⟨hi,hall⟩
 conv=>whnf
 refine⟨fun h3=>?_,fun h3=>?_⟩
 ·have hi':i<l.length:=by simpa using h3
  rw[bC 0 hi'] at hall
  simp only[aT] at hall
  conv=>whnf
  refine .mk (by simp only[Rw.rng] at *; omega) ?_
  conv=>whnf
  refine⟨fun h4=>?_,fun h4=>?_⟩
  ·conv=>whnf
   refine ak.int ?_
   have:l.getD i 0≠0:=by simpa using h4
   rw[hall,if_neg this]; rfl
  ·conv=>whnf
   refine .mk (by simp only[okI] at *; omega) ?_
   conv=>whnf
   have:l.getD i 0=0:=by simpa using h4
   rw[if_pos this] at hall
   refine⟨i+1,⟨by omega,hall⟩,by omega,⟨⟨_,rfl,rfl⟩,trivial⟩,?_,rfl⟩
   repeat' (first|exact trivial|exact⟨_,rfl,rfl⟩|constructor)
 ·conv=>whnf
  refine ak.int ?_
  have hi':l.length<=i:=by simpa using h3
  rw[hall,List.drop_eq_nil_of_le hi']; rfl
def wX:List Int->Bool
 |a::b::r=>decide (a<b)&&wX (b::r)
 |_=>true
def dO(l:List Int)(n:Int):Int:=bif l.any (fun i=>nK i n) then 5 else bif wX l then 0 else 1
theorem S.dQ(l:List Int)(n:Int)(f:Bool)(hl:l.length<2^40):aj Tryz.prog 128 [.row 0 f (.ints l),.int n] (.int (dO l n)):=by
 refine aj.of Bd.dQ (by simp) rfl rfl ?_
 conv=>whnf
 refine aF.same [0,1,8,9] (fun i:Nat=>[(10,.int i)]) (fun i=>i<=l.length/\(l.take i).any (fun i=>nK i n)=false) (fun i=>l.length-i) 0 rfl (by decide) rfl (fun _=>rfl) ⟨by omega,by simp⟩ ⟨⟨_,rfl,rfl⟩,trivial⟩ ?_
 conv=>whnf
 refine⟨rfl,?_⟩
 rintro i ⟨hi,hall⟩
 conv=>whnf
 refine⟨fun h3=>?_,fun h3=>?_⟩
 ·have hi':i<l.length:=by simpa using h3
  conv=>whnf
  repeat(refine VC.mk (by first|exact fun h=>⟨h,h⟩|(intro h; rw[h]; rfl)|(simp only[Rw.rng] at *; omega)) ?_; conv=>whnf)
  refine⟨fun h4=>?_,fun h4=>?_⟩
  ·conv=>whnf
   refine ak.int ?_
   rw[dO,fQ (d:=0) hi' h4]; rfl
  ·conv=>whnf
   refine .mk (by simp only[okI] at *; omega) ?_
   conv=>whnf
   refine⟨i+1,⟨by omega,?_⟩,by omega,⟨⟨_,rfl,rfl⟩,trivial⟩,?_,rfl⟩
   ·rw[jl (d:=0) hi' hall]; exact h4
   ·repeat' (first|exact trivial|exact⟨_,rfl,rfl⟩|constructor)
 ·have hi':l.length<=i:=by simpa using h3
  rw[List.take_of_length_le hi'] at hall
  conv=>whnf
  refine aF.same [0] (fun i:Nat=>[(7,.int (i+1))]) (fun i=>(i<l.length\/i=0)/\wX l=wX (l.drop i)) (fun i=>l.length-i) 0 rfl (by decide) rfl (fun _=>rfl) ⟨by omega,by simp⟩ ⟨⟨_,rfl,rfl⟩,trivial⟩ ?_
  conv=>whnf
  refine⟨rfl,?_⟩
  rintro i ⟨hi,hinc⟩
  conv=>whnf
  refine⟨fun h5=>?_,fun h5=>?_⟩
  ·have hi1:i+1<l.length:=by have:=of_decide_eq_true h5; omega
   rw[bC 0 (show i<l.length by omega),bC 0 hi1] at hinc
   simp only[wX] at hinc
   rw[<- bC 0 hi1] at hinc
   conv=>whnf
   repeat(refine VC.mk (by simp only[okI,Rw.rng] at *; omega) ?_; conv=>whnf)
   refine⟨fun h6=>?_,fun h6=>?_⟩
   ·conv=>whnf
    refine ak.int ?_
    have e1:((i:Int)+1).toNat=i+1:=by omega
    have e2:((i:Int)+1-1).toNat=i:=by omega
    rw[e1,e2] at h6
    have h6':l.getD (i+1) 0<=l.getD i 0:=of_decide_eq_true h6
    rw[dO,hall,hinc,decide_eq_false (by omega)]; rfl
   ·conv=>whnf
    refine .mk (by simp only[okI] at *; omega) ?_
    conv=>whnf
    have e1:((i:Int)+1).toNat=i+1:=by omega
    have e2:((i:Int)+1-1).toNat=i:=by omega
    rw[e1,e2] at h6
    have h6': ¬ l.getD (i+1) 0<=l.getD i 0:=of_decide_eq_false h6
    rw[decide_eq_true (by omega),Bool.true_and] at hinc
    refine⟨i+1,⟨by omega,hinc⟩,by omega,⟨⟨_,rfl,rfl⟩,trivial⟩,?_,rfl⟩
    repeat' (first|exact trivial|exact⟨_,rfl,rfl⟩|constructor)
  ·conv=>whnf
   refine ak.int ?_
   have h5': ¬ ((i:Int)+1<l.length):=of_decide_eq_false h5
   have:wX l=true:=by
    rw[hinc]
    rcases hd:l.drop i with _|⟨a,_|⟨b,r⟩⟩
    ·rfl
    ·rfl
    ·have:=congrArg List.length hd
     simp only[List.length_drop,List.length_cons] at this
     omega
   rw[dO,hall,this]; rfl
def ZM(n:Int):Bool:=decide (n>= -100)&&decide (n<=100)
theorem S.gX(n:Int):aj Tryz.prog 173 [.int n] (.bool (ZM n)):=by
 refine aj.of Bd.gX (by simp) rfl rfl ?_
 conv=>whnf
 repeat(refine VC.mk id ?_; conv=>whnf)
 exact ak.bool rfl
def Qw(l:Lin):Bool:=ZM l.c&&ZM l.n&&ZM l.t&&ZM l.f
theorem S.jE(l:Lin):aj Tryz.prog 154 [.dat (.lin l)] (.bool (Qw l)):=by
 refine aj.of Bd.jE (by simp) rfl rfl ?_
 conv=>whnf
 refine ah.pure (S.gX l.c) rfl ?_
 conv=>whnf
 repeat(refine VC.mk id ?_; conv=>whnf)
 refine ah.fG (fun _=>S.gX l.n) rfl ?_
 conv=>whnf
 repeat(refine VC.mk id ?_; conv=>whnf)
 refine ah.fG (fun _=>S.gX l.t) rfl ?_
 conv=>whnf
 repeat(refine VC.mk id ?_; conv=>whnf)
 refine ah.fG (fun _=>S.gX l.f) rfl ?_
 conv=>whnf
 refine VC.mk id ?_
 conv=>whnf
 exact ak.bool rfl
def jI(p:aX)(v:Int):Int:=dV (decide (v< -1)||decide (v>=p.values.length)) 5
theorem S.fK(p:aX)(v:Int):aj Tryz.prog 179 [.dat (.bW p),.int v] (.int (jI p v)):=by
 refine aj.of Bd.fK (by simp) rfl rfl ?_
 conv=>whnf
 repeat(refine VC.mk (by first|exact id|exact fun h=>⟨h,h⟩|(intro h; rw[h]; rfl)) ?_; conv=>whnf)
 refine ah.pure (S.bU _ 5) rfl ?_
 conv=>whnf
 exact ak.int rfl
theorem J7{a:Int}(h:(a !=0)=true):a≠0:=by simpa using h
theorem yF{a:Int}(h:(a !=0)=false):a=0:=by simpa using h
def uq(k t:Int):Bool:=bif k==1||k==2||k==3 then t==1 else bif k==4||k==5 then !(t==1) else false
theorem S.oZ(k t:Int):aj Tryz.prog 176 [.int k,.int t] (.bool (uq k t)):=by
 refine aj.of Bd.oZ (by simp) rfl rfl ?_
 conv=>whnf
 refine⟨fun h1=>?_,fun h1=>?_⟩
 ·conv=>whnf
  refine Fork.mk (fun _=>?_) (fun q=>absurd (q.symm.trans (h1)) Bool.false_ne_true)
  conv=>whnf
  exact ak.bool (by simp[uq,h1])
 ·conv=>whnf
  refine⟨fun h2=>?_,fun h2=>?_⟩
  ·conv=>whnf
   refine Fork.mk (fun _=>?_) (fun q=>absurd (q.symm.trans (h2)) Bool.false_ne_true)
   conv=>whnf
   exact ak.bool (by simp[uq,h1,h2])
  ·conv=>whnf
   refine⟨fun h3=>?_,fun h3=>?_⟩
   ·conv=>whnf
    exact ak.bool (by simp[uq,h1,h2,h3])
   ·conv=>whnf
    refine⟨fun h4=>?_,fun h4=>?_⟩
    ·conv=>whnf
     refine Fork.mk (fun _=>?_) (fun q=>absurd (q.symm.trans (h4)) Bool.false_ne_true)
     conv=>whnf
     exact ak.bool (by simp[uq,h1,h2,h3,h4,bne])
    ·conv=>whnf
     refine⟨fun h5=>?_,fun h5=>?_⟩
     ·conv=>whnf
      exact ak.bool (by simp[uq,h1,h2,h3,h4,h5,bne])
     ·conv=>whnf
      exact ak.bool (by simp[uq,h1,h2,h3,h4,h5])
def pq:List Int->Int->Int
 |[],_=>0
 |x::r,n=>if cZ x n=0 then pq r n else cZ x n
def DW(l:List Int)(n:Int):Int:=bif (l.length:Int) !=n then 1 else pq l n
theorem S.jT(l:List Int)(n:Int)(f:Bool)(hl:l.length<2^40):aj Tryz.prog 180 [.row 0 f (.ints l),.int n] (.int (DW l n)):=by
 refine aj.of Bd.jT (by simp) rfl rfl ?_
 conv=>whnf
 refine⟨fun h=>?_,fun h=>?_⟩
 ·conv=>whnf
  exact ak.int (by rw[DW,h]; rfl)
 ·conv=>whnf
  refine aF.same [0,1,12,13] (fun i:Nat=>[(14,.int i)]) (fun i=>i<=l.length/\pq l n=pq (l.drop i) n) (fun i=>l.length-i) 0 rfl (by decide) rfl (fun _=>rfl) ⟨by omega,by simp⟩ ⟨⟨_,rfl,rfl⟩,trivial⟩ ?_
  conv=>whnf
  refine⟨rfl,?_⟩
  rintro i ⟨hi,hall⟩
  conv=>whnf
  refine⟨fun h3=>?_,fun h3=>?_⟩
  ·have hi':i<l.length:=by simpa using h3
   rw[bC 0 hi'] at hall
   simp only[pq] at hall
   conv=>whnf
   refine .mk (by simp only[Rw.rng] at *; omega) ?_
   conv=>whnf
   refine ah.pure (S.bY (l.getD i 0) n) rfl ?_
   conv=>whnf
   refine⟨fun h4=>?_,fun h4=>?_⟩
   ·conv=>whnf
    refine ak.int ?_
    have:cZ (l.getD i 0) n≠0:=by simpa using h4
    rw[DW,h,cond_false,hall,if_neg this]
   ·conv=>whnf
    refine .mk (by simp only[okI] at *; omega) ?_
    conv=>whnf
    have:cZ (l.getD i 0) n=0:=by simpa using h4
    rw[if_pos this] at hall
    refine⟨i+1,⟨by omega,hall⟩,by omega,⟨⟨_,rfl,rfl⟩,trivial⟩,?_,rfl⟩
    repeat' (first|exact trivial|exact⟨_,rfl,rfl⟩|constructor)
  ·conv=>whnf
   refine ak.int ?_
   have hi':l.length<=i:=by simpa using h3
   rw[DW,h,cond_false,hall,List.drop_eq_nil_of_le hi']; rfl
def guardE(p:aX)(g:zF):Int:=aT [cZ g.message p.messages.length,dV (decide (g.EC<1)||decide (g.EC>100)) 1,dV (!(Qw g.bound)) 4]
def jW(p:aX):List zF->Int
 |[]=>0
 |g::r=>if guardE p g=0 then jW p r else guardE p g
def wU(p:aX)(l:List zF):Int:=if jW p l=0 then dV (decide ((l.length:Int)>2)) 4 else jW p l
theorem S.mM(p:aX)(l:List zF)(f:Bool)(hl:l.length<2^40):aj Tryz.prog 178 [.dat (.bW p),.row 7 f (.ru l)] (.int (wU p l)):=by
 refine aj.of Bd.mM (by simp) rfl rfl ?_
 conv=>whnf
 refine aF.same [1,2,8,9] (fun i:Nat=>[(10,.int i)]) (fun i=>i<=l.length/\jW p l=jW p (l.drop i)) (fun i=>l.length-i) 0 rfl (by decide) rfl (fun _=>rfl) ⟨by omega,by simp⟩ ⟨⟨_,rfl,rfl⟩,trivial⟩ ?_
 conv=>whnf
 refine⟨rfl,?_⟩
 rintro i ⟨hi,hall⟩
 conv=>whnf
 refine⟨fun h3=>?_,fun h3=>?_⟩
 ·have hi':i<l.length:=by simpa using h3
  rw[bC default hi'] at hall
  simp only[jW] at hall
  conv=>whnf
  refine .mk (by simp only[Rw.rng] at *; omega) ?_
  conv=>whnf
  refine ah.pure (S.bY (l.getD i default).message p.messages.length) rfl ?_
  conv=>whnf
  repeat(refine VC.mk (by first|exact id|(intro h; rw[h]; rfl)) ?_; conv=>whnf)
  refine ah.pure (S.bU (decide ((l.getD i default).EC<1)||decide ((l.getD i default).EC>100)) 1) rfl ?_
  conv=>whnf
  refine ah.pure (S.jE (l.getD i default).bound) rfl ?_
  conv=>whnf
  refine ah.pure (S.bU (!(Qw (l.getD i default).bound)) 4) rfl ?_
  conv=>whnf
  refine ah.pure (S.bQ [cZ (l.getD i default).message p.messages.length,dV (decide ((l.getD i default).EC<1)||decide ((l.getD i default).EC>100)) 1,dV (!(Qw (l.getD i default).bound)) 4] true (show 3<2^40 by decide)) rfl ?_
  conv=>whnf
  refine⟨fun h4=>?_,fun h4=>?_⟩
  ·conv=>whnf
   refine ak.int ?_
   have h4':guardE p (l.getD i default)≠0:=J7 h4
   rw[if_neg h4'] at hall
   rw[wU,hall,if_neg h4']; rfl
  ·conv=>whnf
   refine .mk (by simp only[okI] at *; omega) ?_
   conv=>whnf
   have h4':guardE p (l.getD i default)=0:=yF h4
   rw[if_pos h4'] at hall
   refine⟨i+1,⟨by omega,hall⟩,by omega,⟨⟨_,rfl,rfl⟩,trivial⟩,?_,rfl⟩
   repeat' (first|exact trivial|exact⟨_,rfl,rfl⟩|constructor)
 ·have hi':l.length<=i:=by simpa using h3
  rw[List.drop_eq_nil_of_le hi'] at hall
  conv=>whnf
  refine ah.pure (S.bU (decide ((l.length:Int)>2)) 4) rfl ?_
  conv=>whnf
  exact ak.int (by rw[wU,hall]; rfl)
structure vk(r:Rule):Prop where
 response:r.response.length<2^30
 guards:r.guards.length<2^30
 ex:r.ex.length<2^30
 all:r.all.length<2^30
 send:r.send.length<2^30
 left:r.left.length<2^30
 right:r.right.length<2^30
 parent:r.parent.length<2^30
def DK(r:Rule):Bool :=
 decide ((r.response.length:Int)+r.guards.length+r.ex.length+r.all.length+r.send.length+r.left.length+r.right.length+r.parent.length>0)||r.gJ !=0||r.BH !=0||r.pos !=0||r.direction !=0||r.read != -1||r.write != -1
def kM(r:Rule)(t:Int):Bool :=
 bif r.kind==1 then DK {r with guards:=[],ex:=[],all:=[],send:=[],read:= -1,write:= -1} else
 bif r.kind==2 then(bif decide ((r.response.length:Int)>0) then true else DK {r with gJ:=0,BH:=0,response:=[],read:= -1,write:= -1}) else
 bif r.kind==3 then DK {r with response:=[],read:= -1,write:= -1} else
 bif r.kind==4 then(bif t==4 then DK {r with pos:=0,left:=[],right:=[],parent:=[]} else DK {r with pos:=0,left:=[],right:=[]}) else
 bif r.kind==5 then DK {r with gJ:=0,BH:=0,direction:=0} else DK r
theorem S.lI(r:Rule)(t:Int)(hs:vk r):aj Tryz.prog 177 [.dat (.rule r),.int t] (.bool (kM r t)):=by
 obtain⟨g1,g2,g3,g4,g5,g6,g7,g8⟩:=hs
 refine aj.of Bd.lI (by simp) rfl rfl ?_
 conv=>whnf
 refine⟨fun h1=>?_,fun h1=>?_⟩
 ·conv=>whnf
  repeat(refine VC.mk (by first|exact id|(intro h; rw[h]; rfl)|(simp only[okI] at *; omega)) ?_; conv=>whnf)
  exact ak.bool (by simp[kM,DK,h1])
 ·conv=>whnf
  refine⟨fun h2=>?_,fun h2=>?_⟩
  ·conv=>whnf
   refine⟨fun h6=>?_,fun h6=>?_⟩
   ·conv=>whnf
    exact ak.bool (by rw[kM,h1,h2,show decide ((r.response.length:Int)>0)=true from h6]; rfl)
   ·conv=>whnf
    repeat(refine VC.mk (by first|exact id|(intro h; rw[h]; rfl)|(simp only[okI] at *; omega)) ?_; conv=>whnf)
    exact ak.bool (by rw[kM,h1,h2,show decide ((r.response.length:Int)>0)=false from h6]; simp[DK])
  ·conv=>whnf
   refine⟨fun h3=>?_,fun h3=>?_⟩
   ·conv=>whnf
    repeat(refine VC.mk (by first|exact id|(intro h; rw[h]; rfl)|(simp only[okI] at *; omega)) ?_; conv=>whnf)
    exact ak.bool (by simp[kM,DK,h1,h2,h3])
   ·conv=>whnf
    refine⟨fun h4=>?_,fun h4=>?_⟩
    ·conv=>whnf
     refine⟨fun h7=>?_,fun h7=>?_⟩
     ·conv=>whnf
      repeat(refine VC.mk (by first|exact id|(intro h; rw[h]; rfl)|(simp only[okI] at *; omega)) ?_; conv=>whnf)
      exact ak.bool (by simp[kM,DK,h1,h2,h3,h4,h7])
     ·conv=>whnf
      repeat(refine VC.mk (by first|exact id|(intro h; rw[h]; rfl)|(simp only[okI] at *; omega)) ?_; conv=>whnf)
      exact ak.bool (by simp[kM,DK,h1,h2,h3,h4,h7])
    ·conv=>whnf
     refine⟨fun h5=>?_,fun h5=>?_⟩
     ·conv=>whnf
      repeat(refine VC.mk (by first|exact id|(intro h; rw[h]; rfl)|(simp only[okI] at *; omega)) ?_; conv=>whnf)
      exact ak.bool (by simp[kM,DK,h1,h2,h3,h4,h5])
     ·conv=>whnf
      repeat(refine VC.mk (by first|exact id|(intro h; rw[h]; rfl)|(simp only[okI] at *; omega)) ?_; conv=>whnf)
      exact ak.bool (by simp[kM,DK,h1,h2,h3,h4,h5])
def ZN(h:Hz):Hz->Prop
 |[]=>True
 |(i,o)::r=>h.get i=o/\ZN h r
theorem Xm{h:Hz}: ∀ {h0:Hz},ZN h h0-> ∀ {i:Nat} {o:OV},h0.get i=some o->h.get i=some o:=by
 intro h0
 induction h0 with
 |nil=>intro _ i o e; cases e
 |cons p r ih =>
  obtain⟨j,u⟩:=p
  intro hs i o e
  simp only[Hz.get] at e
  cases hb:Nat.beq j i with
  |true=>rw[hb] at e; simp only[cond_true] at e; rw[<- Nat.eq_of_beq_eq_true hb,hs.1,e]
  |false=>rw[hb] at e; exact ih hs.2 e
def Xn:Hz->Bool
 |[]=>true
 |(_,some o)::r=>o.Gw&&Xn r
 |(_,none)::r=>Xn r
theorem QO: ∀ {h0:Hz},Xn h0=true-> ∀ {i:Nat} {o:OV},h0.get i=some o->o.Gw=true:=by
 intro h0
 induction h0 with
 |nil=>intro _ i o e; cases e
 |cons p r ih =>
  obtain⟨j,u⟩:=p
  intro hs i o e
  simp only[Hz.get] at e
  cases hb:Nat.beq j i with
  |true =>
   rw[hb] at e; simp only[cond_true] at e; subst e
   simp only[Xn,Bool.and_eq_true] at hs; exact hs.1
  |false =>
   rw[hb] at e
   refine ih ?_ e
   cases u with
   |none=>exact hs
   |some o=>simp only[Xn,Bool.and_eq_true] at hs; exact hs.2
theorem OV.QS{o:OV}(h:o.Gw=true):T.aS (fun _=>False) o.aH.l:=OV.yR h
theorem jH.same{nx:Nat}{h0 h:Hz}{n:Nat}{post:T->Hp->Prop}{v:V}(hf:v.free=true)(hs:ZN h h0)(hg:xO nx h0=true)(hfr:Xn h0=true)(hp:post v.aI h0.au):jH h0 n post v h:=by
 have hG:=qR hg
 have get: ∀ i ob,h0.au i=some ob-> ∃ o,h0.get i=some o/\ob=o.aH:=fun i ob e=>by
  simp only[Hz.au,Option.map_eq_some_iff] at e
  obtain⟨o,e1,e2⟩:=e
  exact⟨o,e1,e2.symm⟩
 have hfree:=V.kX v hf
 refine⟨fun _=>False,id,v.aI,h0.au,hp,?_,fun i ob hi=>?_,fun i j _ _ e=>e,T.bV (fun _ h=>h.elim) _ (iF hfree),fun i ob hi=>?_,fun i _ _=>rfl⟩
 ·rw[JD]; exact aC _
 ·obtain⟨o,e1,rfl⟩:=get i ob hi
  refine⟨o.aH,aJ (Xm hs e1),fun h=>h,rfl,rfl,?_,wZ (hG i _ hi).2.2⟩
  rw[uK _ (OV.QS (QO hfr e1))]; exact cO _
 ·obtain⟨o,e1,rfl⟩:=get i ob hi
  exact⟨.inl (by rw[hi]; rfl),T.ay (fun _ h=>h.elim) _ (OV.QS (QO hfr e1))⟩
abbrev hRP(p:aX)(r:Rule):Hz:=[(7,some (.box 107 19 (.dat (.rule r)))),(0,some (.box 27 11 (.dat (.bW p))))]
theorem S.Oh(p:aX)(r x:Rule)(n:Nat):aU Tryz.prog 175 (V.aW [.dat (.rule x),.ptr 7 0 0]) (hRP p r).au n (fun t hp=>t= .bool (x.name==r.name)/\hp=(hRP p r).au):=by
 refine qF.of (nx:=8) Bd.ny (by simp) ⟨_,_,rfl,rfl⟩ rfl rfl ?_
 conv=>whnf
 exact jH.same (nx:=8) rfl ⟨rfl,rfl,trivial⟩ rfl rfl ⟨rfl,rfl⟩
def ER(s:Str):List Rule->Nat->Int
 |[],_=> -1
 |x::r,i=>bif x.name==s then(i:Int) else ER s r (i+1)
theorem S.Xo(p:aX)(r:Rule)(l:List Rule)(f:Bool)(hl:l.length<2^30)(n:Nat):aU Tryz.prog 188 (V.aW [.row 19 f (.rules l),.fn 175 [.ptr 7 0 0]]) (hRP p r).au n (fun t hp=>t= .int (ER r.name l 0)/\hp=(hRP p r).au):=by
 refine qF.of (nx:=8) Bd.fM (by simp) ⟨_,_,rfl,rfl⟩ rfl rfl ?_
 conv=>whnf
 refine aF.same [0,1,6,7] (fun i:Nat=>[(8,.int i)]) (fun i=>i<=l.length/\ER r.name l 0=ER r.name (l.drop i) i) (fun i=>l.length-i) 0 rfl (by decide) rfl (fun _=>rfl) ⟨by omega,by simp⟩ ⟨⟨_,rfl,rfl⟩,trivial⟩ ?_
 conv=>whnf
 refine⟨rfl,?_⟩
 rintro i ⟨hi,hall⟩
 conv=>whnf
 refine⟨fun h3=>?_,fun h3=>?_⟩
 ·have hi':i<l.length:=by simpa using h3
  rw[bC default hi'] at hall
  simp only[ER] at hall
  conv=>whnf
  refine .mk (by simp only[Rw.rng] at *; omega) ?_
  conv=>whnf
  refine ah.heap (S.Oh p r (l.getD i default) _) ?_
  rintro t hp ⟨rfl,rfl⟩
  refine⟨.bool _,hRP p r,rfl,rfl,?_⟩
  conv=>whnf
  refine⟨fun h4=>?_,fun h4=>?_⟩
  ·conv=>whnf
   rw[h4] at hall
   exact jH.same (nx:=8) rfl ⟨rfl,rfl,trivial⟩ rfl rfl ⟨by rw[hall]; rfl,rfl⟩
  ·conv=>whnf
   refine .mk (by simp only[okI] at *; omega) ?_
   conv=>whnf
   rw[h4] at hall
   refine⟨i+1,⟨by omega,hall⟩,by omega,⟨⟨_,rfl,rfl⟩,trivial⟩,?_,rfl⟩
   repeat' (first|exact trivial|exact⟨_,rfl,rfl⟩|constructor)
 ·conv=>whnf
  have hi':l.length<=i:=by simpa using h3
  rw[List.drop_eq_nil_of_le hi'] at hall
  exact jH.same (nx:=8) rfl ⟨rfl,rfl,trivial⟩ rfl rfl ⟨by rw[hall]; rfl,rfl⟩
theorem ZO{s:Str}{l:List Rule}{i:Nat}:decide (0<=ER s l i)=l.any fun x=>x.name==s:=by
 have: ∀ {l:List Rule} {i:Nat},0<=ER s l i↔(l.any fun x=>x.name==s)=true:=by
  intro l
  induction l with
  |nil=>intro i; simp[ER]
  |cons x r ih =>
   intro i
   rw[List.any_cons,Bool.or_eq_true,<- ih (i:=i+1)]
   show(0:Int)<=(bif x.name==s then(i:Int) else ER s r (i+1))↔_
   generalize (x.name==s)=b
   cases b<;>simp
 rw[Bool.eq_iff_iff,decide_eq_true_eq]; exact this
theorem S.Oi(p:aX)(r:Rule)(l:List Rule)(f:Bool)(hl:l.length<2^30)(n:Nat):aU Tryz.prog 174 (V.aW [.row 19 f (.rules l),.fn 175 [.ptr 7 0 0]]) (hRP p r).au n (fun t hp=>t= .bool (l.any fun x=>x.name==r.name)/\hp=(hRP p r).au):=by
 refine qF.of (nx:=8) Bd.eY (by simp) ⟨_,_,rfl,rfl⟩ rfl rfl ?_
 conv=>whnf
 refine ah.heap (S.Xo p r l f hl _) ?_
 rintro t hp ⟨rfl,rfl⟩
 refine⟨.int _,hRP p r,rfl,rfl,?_⟩
 conv=>whnf
 exact jH.same (nx:=8) rfl ⟨rfl,rfl,trivial⟩ rfl rfl ⟨by rw[<- ZO (i:=0)]; rfl,rfl⟩
theorem ah.mkRow{P:Program}{f:FuncId}{args:List V}{h:Hz}{n ty k:Nat}{r:Rw}{K:V->Hz->Prop}{KW:Nat->V->Hz->Prop}(H:wu P f (V.aW args) (fun n=>.own n) (some ⟨ty,k,r.aW⟩))(hK:K (.own n) ((n,some (.row ty k r []))::h)):ah P false none f args h n K KW :=
 ah.heap (wu.frame H _ _) (by rintro t hp ⟨rfl,rfl⟩; exact⟨.own n,_,rfl,by rw[bK]; simp[mX,OV.aH,V.aW],hK⟩)
theorem S.Concat(a b c:List Str)(n:Nat)(h0:0<a.length)(ha:a.length<2^20)(hb:b.length<2^20)(hc:c.length<2^20) :
  aU Tryz.prog 171 (V.aW [.zA 0 false [.row 0 false (.strs a),.row 0 false (.strs b),.row 0 false (.strs c)]]) no n (fun t hp=>t= .own n/\hp=Hz.au [(n,some (.row 9 0 (.strs (a++b++c)) []))]):=by
 refine qF.of (nx:=0) (h0:=[]) Bd.jk (by simp) ⟨_,_,rfl,rfl⟩ rfl rfl ?_
 conv=>whnf
 refine aF.times 4 rfl ?_
 conv=>whnf
 refine Fork.mk (fun _=>?_) (fun q=>absurd (q.symm.trans (rfl)) Bool.false_ne_true)
 conv=>whnf
 repeat(refine VC.mk (by first|(omega)|(simp only[okI] at *; omega)) ?_; conv=>whnf)
 refine Fork.mk (fun q=>absurd (q.symm.trans (decide_eq_false (by omega))).symm Bool.false_ne_true) (fun _=>?_)
 conv=>whnf
 refine .mk (by simp only[okI] at *; omega) ?_
 conv=>whnf
 refine Fork.mk (fun _=>?_) (fun q=>absurd (q.symm.trans (rfl)) Bool.false_ne_true)
 conv=>whnf
 repeat(refine VC.mk (by first|(omega)|(simp only[okI] at *; omega)) ?_; conv=>whnf)
 refine Fork.mk (fun q=>absurd (q.symm.trans (decide_eq_false (by omega))).symm Bool.false_ne_true) (fun _=>?_)
 conv=>whnf
 refine .mk (by simp only[okI] at *; omega) ?_
 conv=>whnf
 refine Fork.mk (fun _=>?_) (fun q=>absurd (q.symm.trans (rfl)) Bool.false_ne_true)
 conv=>whnf
 repeat(refine VC.mk (by first|(omega)|(simp only[okI] at *; omega)) ?_; conv=>whnf)
 refine Fork.mk (fun q=>absurd (q.symm.trans (decide_eq_false (by omega))).symm Bool.false_ne_true) (fun _=>?_)
 conv=>whnf
 refine .mk (by simp only[okI] at *; omega) ?_
 conv=>whnf
 refine Fork.mk (fun q=>absurd (q.symm.trans (rfl)).symm Bool.false_ne_true) (fun _=>?_)
 conv=>whnf
 have e:(0+(a.length:Int)+b.length+c.length)=((a.length+b.length+c.length:Nat):Int):=by omega
 rw[e]
 refine ah.mkRow (r:=.strs []) (S.Grow (a.length+b.length+c.length) (by omega) (by omega)) ?_
 conv=>whnf
 refine aF.times 4 rfl ?_
 conv=>whnf
 refine Fork.mk (fun _=>?_) (fun q=>absurd (q.symm.trans (rfl)) Bool.false_ne_true)
 conv=>whnf
 repeat(refine VC.mk (by first|(omega)|(simp only[kU,kD,Rw.len,List.length_nil]; omega)|(simp only[okI] at *; omega)) ?_; conv=>whnf)
 refine Fork.mk (fun _=>?_) (fun q=>absurd (q.symm.trans (rfl)) Bool.false_ne_true)
 conv=>whnf
 repeat(refine VC.mk (by first|(omega)|(simp only[kU,kD,Rw.len,List.length_append,List.length_nil]; omega)|(simp only[okI] at *; omega)) ?_; conv=>whnf)
 refine Fork.mk (fun _=>?_) (fun q=>absurd (q.symm.trans (rfl)) Bool.false_ne_true)
 conv=>whnf
 repeat(refine VC.mk (by first|(omega)|(simp only[kU,kD,Rw.len,List.length_append,List.length_nil]; omega)|(simp only[okI] at *; omega)) ?_; conv=>whnf)
 refine Fork.mk (fun q=>absurd (q.symm.trans (rfl)).symm Bool.false_ne_true) (fun _=>?_)
 conv=>whnf
 refine jH.one (c:=n) (o:=.row 9 0 (.strs (a++b++c)) []) (t:=.own n) rfl rfl rfl nofun (.inr rfl) rfl (.eq rfl) ⟨rfl,rfl⟩
theorem S.aby(a b c:List Str)(h0:0<a.length)(ha:a.length<2^20)(hb:b.length<2^20)(hc:c.length<2^20) :
  wu Tryz.prog 171 (V.aW [.zA 0 false [.row 0 false (.strs a),.row 0 false (.strs b),.row 0 false (.strs c)]]) (fun n=>.own n) (some ⟨9,0,(Rw.strs (a++b++c)).aW⟩):=by
 refine⟨rfl,fun _=>rfl,(fun ob h=>by cases h; rw[gu]; intro t ht; obtain⟨x,_,rfl⟩:=List.mem_map.1 ht; rfl),(fun ob h=>by cases h; exact fun e=>absurd e (by decide:(0:Nat)≠fP)),fun n=>(S.Concat a b c n h0 ha hb hc).mono ?_⟩
 rintro t hp ⟨rfl,rfl⟩
 refine⟨rfl,?_⟩
 rw[bK]; simp[mX,OV.aH,V.aW]; rfl
theorem ah.Na{P:Program}{f:FuncId}{args:List V}{ts:List T}{h:Hz}{n ty k:Nat}{r:Rw}{K:V->Hz->Prop}{KW:Nat->V->Hz->Prop}(H:wu P f ts (fun n=>.own n) (some ⟨ty,k,r.aW⟩))(hs:T.dG (fun _=>True) h.au ts (V.aW args))(hh:T.rM r.aW=true)(hK:K (.own n) ((n,some (.row ty k r []))::h)):ah P false none f args h n K KW :=
 ⟨.inl (wu.lend H hs rfl (fun _ e=>by cases e; exact hh) ⟨.own n,_,rfl,by rw[bK]; simp[mX,OV.aH,V.aW],(fun e=>by cases e),hK⟩)⟩
theorem O4{h:Hz}{j ty:Nat}{Z:Nat->Prop}{l:List V}(hz:Z j)(q:h.get j=some (.row ty 0 .nil l))(hf:V.dD l=true):T.sub Z h.au (V.zA 0 false l).aI (V.own j).aI:=by
 show T.sub Z h.au (.sl 0 false (V.aW l)) (.own j)
 simp only[T.sub]
 exact⟨trivial,hz,V.gW l hf,by decide,ty,by rw[aJ q]; rfl⟩
theorem Xp{l:List Str}:T.rM (Rw.strs l).aW=true:=by
 show T.rM (l.map eS)=true
 induction l with
 |nil=>rfl
 |cons s r ih=>simp only[List.map_cons,T.rM,ih]; rfl
theorem aeI{h:Hz}{j i ty:Nat}{Z:Nat->Prop}{l:List Str}(hz:Z j)(q:h.get j=some (.row ty 0 (.strs l) []))(hi:i<=l.length):T.sub Z h.au (V.row 0 false (.strs (l.take i))).aI (V.rH j 0 i).aI:=by
 show T.sub Z h.au (.sl 0 false ((l.take i).map eS)) (.rH j 0 i)
 simp only[T.sub]
 refine⟨trivial,hz,?_,by decide,ty,l.map eS,?_,by simpa using hi,by simp[List.map_take]⟩
 ·rw[gu]; intro t ht; obtain⟨x,_,rfl⟩:=List.mem_map.1 ht; rfl
 ·rw[aJ q]; simp[OV.aH,Rw.aW,V.aW]
def allNames(p:aX):List Str:=p.states++p.messages++p.values
def N8(l:List Str)(i:Nat):Bool:= !(validName (l.getD i []))||(l.take i).any fun x=>l.getD i []==x
def zh(p:aX):Int:=bif (List.range (allNames p).length).any (N8 (allNames p)) then 2 else 0
theorem xB{n:Nat}{f:Nat->Bool}:(List.range n).any f=true↔ ∃ i,i<n/\f i=true:=by
 simp[List.any_eq_true]
theorem S.nZ(p:aX)(h0:0<p.states.length)(h1:p.states.length<2^20)(h2:p.messages.length<2^20)(h3:p.values.length<2^20):aj Tryz.prog 153 [.dat (.bW p)] (.int (zh p)):=by
 have hlen:(allNames p).length<2^30:=by simp only[allNames,List.length_append]; omega
 refine aj.of Bd.nZ (by simp) rfl rfl ?_
 conv=>whnf
 refine ah.Na (r:=.strs (allNames p)) (S.aby p.states p.messages p.values h0 h1 h2 h3) (And.intro (O4 (ty:=22) trivial rfl rfl) trivial) Xp ?_
 conv=>whnf
 refine aF.same [3,14,15] (fun i:Nat=>[(16,.int i)]) (fun i=>i<=(allNames p).length/\(List.range i).any (N8 (allNames p))=false) (fun i=>(allNames p).length-i) 0 rfl (by decide) rfl (fun _=>rfl) ⟨Nat.zero_le _,rfl⟩ ⟨⟨_,rfl,rfl⟩,trivial⟩ ?_
 conv=>whnf
 refine⟨rfl,?_⟩
 rintro i ⟨hi,hall⟩
 conv=>whnf
 refine⟨fun h4=>?_,fun h4=>?_⟩
 ·have hi':i<(allNames p).length:=by simpa using h4
  conv=>whnf
  repeat(refine VC.mk (by simp only[Rw.rng] at *; omega) ?_; conv=>whnf)
  refine ah.pure (S.fU ((allNames p).getD i [])) rfl ?_
  conv=>whnf
  repeat(refine VC.mk (by first|exact fun h=>⟨h,h⟩|(intro h; (repeat' apply And.intro)<;>first|exact h|omega|(simp only[Rw.lM]; omega)|(simp only[Rw.rng]; omega))) ?_; conv=>whnf)
  refine ah.KG (fun _=>S.slices_Contains_string ((allNames p).take i) ((allNames p).getD i []) false (by rw[List.length_take]; omega)) (fun _=>And.intro (aeI (ty:=9) trivial rfl (by omega)) (And.intro (aC _) trivial)) rfl rfl ?_
  conv=>whnf
  refine .mk (by intro h; rw[h]; rfl) ?_
  conv=>whnf
  refine⟨fun h5=>?_,fun h5=>?_⟩
  ·conv=>whnf
   refine ak.int ?_
   rw[zh,xB.2 ⟨i,hi',h5⟩]; rfl
  ·conv=>whnf
   refine .mk (by simp only[okI] at *; omega) ?_
   conv=>whnf
   refine⟨i+1,⟨by omega,?_⟩,by omega,⟨⟨_,rfl,rfl⟩,trivial⟩,?_,rfl⟩
   ·rw[List.range_succ,List.any_append,hall]
    simp only[List.any_cons,List.any_nil,Bool.or_false,Bool.false_or]; exact h5
   ·repeat' (first|exact trivial|exact⟨_,rfl,rfl⟩|constructor)
 ·have hi':(allNames p).length<=i:=by simpa using h4
  have e:i=(allNames p).length:=Nat.le_antisymm hi hi'
  subst e
  conv=>whnf
  exact ak.int (by rw[zh,hall]; rfl)
theorem ah.aeJ{P:Program}{f:FuncId}{args:List V}{h:Hz}{hp0:Hp}{n:Nat}{K:V->Hz->Prop}{KW:Nat->V->Hz->Prop}{post:T->Hp->Prop}(S:aU P f (V.aW args) hp0 n post)(e:h.au=hp0)(hK: ∀ t hp,post t hp-> ∃ v h',t=v.aI/\hp=Hz.au h'/\K v h'):ah P false none f args h n K KW:=by
 subst e; exact ah.heap S hK
theorem QT{i:Nat}{a b:Option OV}{r:Hz}:Hz.au ((i,a)::(i,b)::r)=Hz.au ((i,a)::r):=funext fun j=>by
 simp only[Hz.au,Hz.get]; cases Nat.beq i j<;>rfl
structure dn(p:aX):Prop where
 states:p.states.length<2^20
 messages:p.messages.length<2^20
 values:p.values.length<2^20
 bZ:p.bZ.length<2^30
 initial:p.initial.length<2^30
 leader:p.leader.length<2^30
 rules:p.rules.length<2^30
 rule: ∀ i,vk (p.rules.getD i default)
 ru:(p.rules.flatMap Rule.guards).length<2^30
def rG(p:aX)(i:Nat):Bool:= !(validName (p.rules.getD i default).name)||(p.rules.take i).any fun x=>x.name==(p.rules.getD i default).name
def qH(p:aX)(i:Nat):Bool:= !(uq (p.rules.getD i default).kind p.topology)||kM (p.rules.getD i default) p.topology
def wo(p:aX)(r:Rule):Int:=aT [cZ r.fr p.states.length,cZ r.to p.states.length]
def ZI(p:aX)(r:Rule):Bool:=decide (r.pos<0)||decide (r.pos>2)||(r.pos !=0&&p.topology==3)
def gK(p:aX)(i:Nat):Int :=
 let r:=p.rules.getD i default
 let n:Int:=p.states.length
 bif rG p i then 2 else bif qH p i then 6 else bif wo p r !=0 then wo p r else
 bif r.kind==1 then aT [wU p r.guards,dO r.ex n,dO r.all n,jI p r.read,jI p r.write,dO r.send p.messages.length] else
 bif r.kind==2 then aT [cZ r.gJ n,cZ r.BH n,jI p r.read,jI p r.write] else
 bif r.kind==3 then aT [DW r.response n,jI p r.read,jI p r.write] else
 bif r.kind==4 then aT [dO r.left n,dO r.right n,dO r.parent n,dV (ZI p r) 1] else
 bif p.topology==4 then aT [cZ r.gJ n,cZ r.BH n,dV (decide (r.direction<3)||decide (r.direction>4)) 1]
 else aT [cZ r.gJ n,cZ r.BH n,dV (decide (r.direction<1)||decide (r.direction>2)) 1]
theorem S.jS(p:aX)(i:Nat)(hi:i<p.rules.length)(hp:dn p):aj Tryz.prog 155 [.dat (.bW p),.int i] (.int (gK p i)):=by
 have hr:=hp.rule i
 have hp1:=hp.rules
 have hp2:=hp.states
 have hp3:=hp.messages
 refine aj.of Bd.jS (by simp) rfl rfl ?_
 conv=>whnf
 repeat(refine VC.mk (by first|(simp only[Rw.lM]; omega)|(simp only[Rw.rng] at *; omega)) ?_; conv=>whnf)
 refine ah.aeJ (S.Oi p (p.rules.getD i default) (p.rules.take i) false (by rw[List.length_take]; omega) _) QT ?_
 rintro t hp' ⟨rfl,rfl⟩
 refine⟨.bool _,hRP p (p.rules.getD i default),rfl,rfl,?_⟩
 conv=>whnf
 refine ah.pure (S.fU (p.rules.getD i default).name) rfl ?_
 conv=>whnf
 refine .mk (by intro h; rw[h]; rfl) ?_
 conv=>whnf
 refine⟨fun h1=>?_,fun h1=>?_⟩
 ·conv=>whnf
  exact ak.int (by rw[gK,show rG p i=true from h1]; rfl)
 ·conv=>whnf
  refine ah.pure (S.oZ (p.rules.getD i default).kind p.topology) rfl ?_
  conv=>whnf
  repeat(refine VC.mk (by first|exact id|exact fun h=>⟨h,h⟩) ?_; conv=>whnf)
  refine ah.fG (fun _=>S.lI (p.rules.getD i default) p.topology hr) rfl ?_
  conv=>whnf
  refine .mk (by intro h; rw[h]; rfl) ?_
  conv=>whnf
  refine⟨fun h2=>?_,fun h2=>?_⟩
  ·conv=>whnf
   exact ak.int (by rw[gK,show rG p i=false from h1,show qH p i=true from h2]; rfl)
  ·conv=>whnf
   refine ah.pure (S.bY (p.rules.getD i default).fr p.states.length) rfl ?_
   conv=>whnf
   refine ah.pure (S.bY (p.rules.getD i default).to p.states.length) rfl ?_
   conv=>whnf
   refine ah.pure (S.bQ [cZ (p.rules.getD i default).fr p.states.length,cZ (p.rules.getD i default).to p.states.length] true (show 2<2^40 by decide)) rfl ?_
   conv=>whnf
   refine⟨fun h3=>?_,fun h3=>?_⟩
   ·conv=>whnf
    exact ak.int (by rw[gK,show rG p i=false from h1,show qH p i=false from h2,show(wo p (p.rules.getD i default) !=0)=true from h3]; rfl)
   ·conv=>whnf
    refine⟨fun h4=>?_,fun h4=>?_⟩
    ·conv=>whnf
     refine ah.pure (S.mM p (p.rules.getD i default).guards false (by have:=hr.guards; omega)) rfl ?_
     conv=>whnf
     refine ah.pure (S.dQ (p.rules.getD i default).ex p.states.length false (by have:=hr.ex; omega)) rfl ?_
     conv=>whnf
     refine ah.pure (S.dQ (p.rules.getD i default).all p.states.length false (by have:=hr.all; omega)) rfl ?_
     conv=>whnf
     refine ah.pure (S.fK p (p.rules.getD i default).read) rfl ?_
     conv=>whnf
     refine ah.pure (S.fK p (p.rules.getD i default).write) rfl ?_
     conv=>whnf
     refine ah.pure (S.dQ (p.rules.getD i default).send p.messages.length false (by have:=hr.send; omega)) rfl ?_
     conv=>whnf
     refine ah.pure (S.bQ [wU p (p.rules.getD i default).guards,dO (p.rules.getD i default).ex p.states.length,dO (p.rules.getD i default).all p.states.length,jI p (p.rules.getD i default).read,jI p (p.rules.getD i default).write,dO (p.rules.getD i default).send p.messages.length] true (show 6<2^40 by decide)) rfl ?_
     conv=>whnf
     exact ak.int (by rw[gK,show rG p i=false from h1,show qH p i=false from h2,show(wo p (p.rules.getD i default) !=0)=false from h3,h4]; rfl)
    ·conv=>whnf
     refine⟨fun h5=>?_,fun h5=>?_⟩
     ·conv=>whnf
      refine ah.pure (S.bY (p.rules.getD i default).gJ p.states.length) rfl ?_
      conv=>whnf
      refine ah.pure (S.bY (p.rules.getD i default).BH p.states.length) rfl ?_
      conv=>whnf
      refine ah.pure (S.fK p (p.rules.getD i default).read) rfl ?_
      conv=>whnf
      refine ah.pure (S.fK p (p.rules.getD i default).write) rfl ?_
      conv=>whnf
      refine ah.pure (S.bQ [cZ (p.rules.getD i default).gJ p.states.length,cZ (p.rules.getD i default).BH p.states.length,jI p (p.rules.getD i default).read,jI p (p.rules.getD i default).write] true (show 4<2^40 by decide)) rfl ?_
      conv=>whnf
      exact ak.int (by rw[gK,show rG p i=false from h1,show qH p i=false from h2,show(wo p (p.rules.getD i default) !=0)=false from h3,h4,h5]; rfl)
     ·conv=>whnf
      refine⟨fun h6=>?_,fun h6=>?_⟩
      ·conv=>whnf
       refine ah.pure (S.jT (p.rules.getD i default).response p.states.length false (by have:=hr.response; omega)) rfl ?_
       conv=>whnf
       refine ah.pure (S.fK p (p.rules.getD i default).read) rfl ?_
       conv=>whnf
       refine ah.pure (S.fK p (p.rules.getD i default).write) rfl ?_
       conv=>whnf
       refine ah.pure (S.bQ [DW (p.rules.getD i default).response p.states.length,jI p (p.rules.getD i default).read,jI p (p.rules.getD i default).write] true (show 3<2^40 by decide)) rfl ?_
       conv=>whnf
       exact ak.int (by rw[gK,show rG p i=false from h1,show qH p i=false from h2,show(wo p (p.rules.getD i default) !=0)=false from h3,h4,h5,h6]; rfl)
      ·conv=>whnf
       refine⟨fun h7=>?_,fun h7=>?_⟩
       ·conv=>whnf
        repeat(refine VC.mk (by first|exact id|(intro h; rw[h]; rfl)|(intro h; simp_all; done)) ?_; conv=>whnf)
        refine ah.pure (S.dQ (p.rules.getD i default).left p.states.length false (by have:=hr.left; omega)) rfl ?_
        conv=>whnf
        refine ah.pure (S.dQ (p.rules.getD i default).right p.states.length false (by have:=hr.right; omega)) rfl ?_
        conv=>whnf
        refine ah.pure (S.dQ (p.rules.getD i default).parent p.states.length false (by have:=hr.parent; omega)) rfl ?_
        conv=>whnf
        refine ah.pure (S.bU (ZI p (p.rules.getD i default)) 1) rfl ?_
        conv=>whnf
        refine ah.pure (S.bQ [dO (p.rules.getD i default).left p.states.length,dO (p.rules.getD i default).right p.states.length,dO (p.rules.getD i default).parent p.states.length,dV (ZI p (p.rules.getD i default)) 1] true (show 4<2^40 by decide)) rfl ?_
        conv=>whnf
        exact ak.int (by rw[gK,show rG p i=false from h1,show qH p i=false from h2,show(wo p (p.rules.getD i default) !=0)=false from h3,h4,h5,h6,h7]; rfl)
       ·conv=>whnf
        refine⟨fun h8=>?_,fun h8=>?_⟩
        ·conv=>whnf
         refine ah.pure (S.bY (p.rules.getD i default).gJ p.states.length) rfl ?_
         conv=>whnf
         refine ah.pure (S.bY (p.rules.getD i default).BH p.states.length) rfl ?_
         conv=>whnf
         repeat(refine VC.mk (by first|exact id|exact fun h=>⟨h,h⟩|(intro h; rw[h]; rfl)) ?_; conv=>whnf)
         refine ah.pure (S.bU (decide ((p.rules.getD i default).direction<3)||decide ((p.rules.getD i default).direction>4)) 1) rfl ?_
         conv=>whnf
         refine ah.pure (S.bQ [cZ (p.rules.getD i default).gJ p.states.length,cZ (p.rules.getD i default).BH p.states.length,dV (decide ((p.rules.getD i default).direction<3)||decide ((p.rules.getD i default).direction>4)) 1] true (show 3<2^40 by decide)) rfl ?_
         conv=>whnf
         exact ak.int (by rw[gK,show rG p i=false from h1,show qH p i=false from h2,show(wo p (p.rules.getD i default) !=0)=false from h3,h4,h5,h6,h7,h8]; rfl)
        ·conv=>whnf
         refine ah.pure (S.bY (p.rules.getD i default).gJ p.states.length) rfl ?_
         conv=>whnf
         refine ah.pure (S.bY (p.rules.getD i default).BH p.states.length) rfl ?_
         conv=>whnf
         repeat(refine VC.mk (by first|exact id|exact fun h=>⟨h,h⟩|(intro h; rw[h]; rfl)) ?_; conv=>whnf)
         refine ah.pure (S.bU (decide ((p.rules.getD i default).direction<1)||decide ((p.rules.getD i default).direction>2)) 1) rfl ?_
         conv=>whnf
         refine ah.pure (S.bQ [cZ (p.rules.getD i default).gJ p.states.length,cZ (p.rules.getD i default).BH p.states.length,dV (decide ((p.rules.getD i default).direction<1)||decide ((p.rules.getD i default).direction>2)) 1] true (show 3<2^40 by decide)) rfl ?_
         conv=>whnf
         exact ak.int (by rw[gK,show rG p i=false from h1,show qH p i=false from h2,show(wo p (p.rules.getD i default) !=0)=false from h3,h4,h5,h6,h7,h8]; rfl)
def wS(g:zF):List zF->Nat->Int
 |[],_=> -1
 |x::r,i=>bif g==x then(i:Int) else wS g r (i+1)
theorem QB{g:zF}{l:List zF}{i:Nat}:decide (0<=wS g l i)=l.any fun x=>g==x:=by
 have: ∀ {l:List zF} {i:Nat},0<=wS g l i↔(l.any fun x=>g==x)=true:=by
  intro l
  induction l with
  |nil=>intro i; simp[wS]
  |cons x r ih =>
   intro i
   rw[List.any_cons,Bool.or_eq_true,<- ih (i:=i+1)]
   show(0:Int)<=(bif g==x then(i:Int) else wS g r (i+1))↔_
   generalize (g==x)=b
   cases b<;>simp
 rw[Bool.eq_iff_iff,decide_eq_true_eq]; exact this
theorem S.ZP(l:List zF)(g:zF)(f:Bool)(hl:l.length<2^40):aj Tryz.prog 189 [.row 7 f (.ru l),.dat (.Tn g)] (.int (wS g l 0)):=by
 refine aj.of Bd.dY (by simp) rfl rfl ?_
 conv=>whnf
 refine aF.same [0,3,6,7] (fun i:Nat=>[(8,.int i)]) (fun i=>i<=l.length/\wS g l 0=wS g (l.drop i) i) (fun i=>l.length-i) 0 rfl (by decide) rfl (fun _=>rfl) ⟨by omega,by simp⟩ ⟨⟨_,rfl,rfl⟩,trivial⟩ ?_
 conv=>whnf
 refine⟨rfl,?_⟩
 rintro i ⟨hi,hall⟩
 conv=>whnf
 refine⟨fun h3=>?_,fun h3=>?_⟩
 ·have hi':i<l.length:=by simpa using h3
  rw[bC default hi'] at hall
  simp only[wS] at hall
  conv=>whnf
  refine .mk (by simp only[Rw.rng] at *; first|omega|(simp_all; done)|(simp_all; omega)) ?_
  conv=>whnf
  refine⟨fun h4=>?_,fun h4=>?_⟩
  ·conv=>whnf
   refine ak.int ?_
   have h4':(g==l.getD i default)=true:=h4
   rw[hall,h4']; rfl
  ·conv=>whnf
   refine .mk (by simp only[okI] at *; first|omega|(simp_all; done)|(simp_all; omega)) ?_
   conv=>whnf
   refine⟨i+1,⟨by omega,?_⟩,by omega,⟨⟨_,rfl,rfl⟩,trivial⟩,?_,rfl⟩
   ·have h4':(g==l.getD i default)=false:=h4
    rw[hall,h4']; rfl
   ·repeat' (first|exact trivial|exact⟨_,rfl,rfl⟩|constructor)
 ·conv=>whnf
  refine ak.int ?_
  have hi':l.length<=i:=by simpa using h3
  rw[hall,List.drop_eq_nil_of_le hi']; rfl
theorem S.QU(l:List zF)(g:zF)(f:Bool)(hl:l.length<2^40):aj Tryz.prog 181 [.row 7 f (.ru l),.dat (.Tn g)] (.bool (l.any fun x=>g==x)):=by
 refine aj.of Bd.dM (by simp) rfl rfl ?_
 conv=>whnf
 refine ah.pure (S.ZP l g f hl) rfl ?_
 conv=>whnf
 exact ak.bool QB.symm
theorem ZF{h:Hz}{j:Nat}{Z:Nat->Prop}{l:List zF}(hz:Z j)(q:h.get j=some (.row 208 7 (.ru l) [])):T.sub Z h.au (V.row 7 false (.ru l)).aI (V.own j).aI:=by
 show T.sub Z h.au (.sl 7 false (l.map Qa)) (.own j)
 simp only[T.sub]
 refine⟨trivial,hz,?_,by decide,208,?_⟩
 ·rw[gu]; intro t ht; obtain⟨x,_,rfl⟩:=List.mem_map.1 ht; rfl
 ·have:=aJ q
  rw[this]; simp[OV.aH,Rw.aW,V.aW]
theorem Az{α β:Type}{f:β->α->β}{b:β}{l:List α}{i:Nat}{d:α}(h:i<l.length):(l.take (i+1)).foldl f b=f ((l.take i).foldl f b) (l.getD i d):=by
 rw[List.take_add_one,List.foldl_append]
 simp[List.getElem?_eq_getElem h]
theorem ak.aeG{h:Hz}{j:Nat}{l:List zF}(q:h.get j=some (.row 208 7 (.ru l) [])):ak (.row 7 false (.ru l)) (.own j) h:=⟨ZF trivial q⟩
def GV(acc:List zF)(g:zF):List zF:=bif acc.any (fun x=>g==x) then acc else acc++[g]
def yB(l:List Rule):List zF:=(l.flatMap Rule.guards).foldl GV []
theorem ZQ{acc:List zF}{g:zF}:(GV acc g).length<=acc.length+1:=by
 unfold GV; cases acc.any (fun x=>g==x)<;>simp
theorem QV: ∀ {l acc:List zF},(l.foldl GV acc).length<=acc.length+l.length:=by
 intro l
 induction l with
 |nil=>intro acc; simp
 |cons g r ih =>
  intro acc
  have:=ih (acc:=GV acc g)
  have h2:=ZQ (acc:=acc) (g:=g)
  simp only[List.foldl_cons,List.length_cons]; omega
abbrev rowT(l:List zF):OV:=.row 208 7 (.ru l) []
def yC(p:aX)(i k:Nat):List zF:=((p.rules.getD i default).guards.take k).foldl GV (yB (p.rules.take i))
theorem QC(p:aX)(hp:dn p)(i k:Nat)(_hi:i<p.rules.length):(yC p i k).length<2^31:=by
 have h1:=QV (l:=(p.rules.getD i default).guards.take k) (acc:=yB (p.rules.take i))
 have h2:=QV (l:=(p.rules.take i).flatMap Rule.guards) (acc:=[])
 have h3:=(hp.rule i).guards
 have h4:((p.rules.take i).flatMap Rule.guards).length<=(p.rules.flatMap Rule.guards).length:=by
  conv=>rhs; rw[<- List.take_append_drop i p.rules,List.flatMap_append,List.length_append]
  omega
 have h5:=hp.ru
 have h6:((p.rules.getD i default).guards.take k).length<=(p.rules.getD i default).guards.length:=by simp[List.length_take]; omega
 unfold yC
 unfold yB at h1 ⊢
 simp only[List.length_nil,Nat.zero_add] at h2
 omega
theorem ML(p:aX){i:Nat}(hi:i<p.rules.length):yB (p.rules.take (i+1))=yC p i (p.rules.getD i default).guards.length:=by
 unfold yC
 rw[List.take_of_length_le (Nat.le_refl _)]
 unfold yB
 rw[List.take_add_one,List.flatMap_append,List.foldl_append]
 simp[List.getElem?_eq_getElem hi]
theorem S.jr(p:aX)(hp:dn p):aj Tryz.prog 156 [.dat (.bW p)] (.row 7 false (.ru (yB p.rules))):=by
 have hp1:=hp.rules
 refine aj.of Bd.jr (by simp) rfl rfl ?_
 conv=>whnf
 refine aF.nil 3 208 7 (by rfl) rfl rfl rfl ?_
 refine aF.objs 1 [9,10] (fun i:Nat=>[(11,.int i),(3,.own 0)]) (fun i=>[(0,rowT (yB (p.rules.take i)))]) (fun i=>i<=p.rules.length) (fun i=>p.rules.length-i) 0 [7] rfl (by decide) (fun _=>rfl) (Nat.zero_le _) ?_ ?_ ?_
 ·exact⟨⟨_,rfl,.eq rfl⟩,⟨_,rfl,.eq rfl⟩,trivial⟩
 ·exact⟨⟨rfl,nofun,rfl,rfl,rfl,_,rfl,rfl,rfl,bn.of_eq rfl⟩,trivial⟩
 conv=>whnf
 refine⟨⟨⟨_,rfl,.eq rfl⟩,⟨_,rfl,.eq rfl⟩,trivial⟩,rfl,?_⟩
 rintro i hi
 conv=>whnf
 refine⟨fun h3=>?_,fun h3=>?_⟩
 ·have hi':i<p.rules.length:=by simpa using h3
  conv=>whnf
  refine .mk (by simp only[Rw.rng] at *; first|omega|(simp_all; done)|(simp_all; omega)) ?_
  conv=>whnf
  refine aF.objs 1 [9,10,11,16,17] (fun k:Nat=>[(18,.int k),(3,.own 0)]) (fun k=>[(0,rowT (yC p i k))]) (fun k=>k<=(p.rules.getD i default).guards.length) (fun k=>(p.rules.getD i default).guards.length-k) 0 [0] rfl (by decide) (fun _=>rfl) (Nat.zero_le _) ?_ ?_ ?_
  ·exact⟨⟨_,rfl,.eq rfl⟩,⟨_,rfl,.eq rfl⟩,trivial⟩
  ·exact⟨⟨rfl,nofun,rfl,rfl,rfl,_,rfl,rfl,rfl,bn.of_eq rfl⟩,trivial⟩
  conv=>whnf
  refine⟨⟨⟨_,rfl,.eq rfl⟩,⟨_,rfl,.eq rfl⟩,⟨_,rfl,.eq rfl⟩,⟨_,rfl,.eq rfl⟩,⟨_,rfl,.eq rfl⟩,trivial⟩,rfl,?_⟩
  rintro k hk
  have hacc:=QC p hp i k hi'
  have hg:=(hp.rule i).guards
  conv=>whnf
  refine⟨fun h4=>?_,fun h4=>?_⟩
  ·have hk':k<(p.rules.getD i default).guards.length:=by simpa using h4
   have hst:yC p i (k+1)=GV (yC p i k) ((p.rules.getD i default).guards.getD k default):=Az hk'
   conv=>whnf
   refine .mk (by simp only[Rw.rng] at *; first|omega|(simp_all; done)|(simp_all; omega)) ?_
   conv=>whnf
   refine ah.lend (S.QU (yC p i k) ((p.rules.getD i default).guards.getD k default) false (by omega)) (And.intro (ZF trivial rfl) (And.intro (aC _) trivial)) rfl rfl ?_
   conv=>whnf
   refine⟨fun h5=>?_,fun h5=>?_⟩
   ·conv=>whnf
    repeat(refine VC.mk (by first|(show((yC p i k).length+(0+1))*48<=140737488355328/\(yC p i k).length+(0+1)<=1152921504606846976; omega)|(simp only[okI] at *; first|omega|(simp_all; done)|(simp_all; omega))) ?_; conv=>whnf)
    have h5':((yC p i k).any fun x=>(p.rules.getD i default).guards.getD k default==x)=false:=by simpa using h5
    refine⟨k+1,[13],by omega,by omega,⟨⟨_,rfl,.eq rfl⟩,⟨_,rfl,.eq rfl⟩,trivial⟩,⟨⟨_,rfl,.eq rfl⟩,⟨_,rfl,.eq rfl⟩,⟨_,rfl,.eq rfl⟩,⟨_,rfl,.eq rfl⟩,⟨_,rfl,.eq rfl⟩,trivial⟩,⟨rfl,nofun,rfl,rfl,rfl,_,rfl,rfl,rfl,bn.of_eq ?_⟩,trivial⟩
    rw[hst,GV,h5']
    rfl
   ·conv=>whnf
    refine .mk (by simp only[okI] at *; first|omega|(simp_all; done)|(simp_all; omega)) ?_
    conv=>whnf
    have h5':((yC p i k).any fun x=>(p.rules.getD i default).guards.getD k default==x)=true:=by simpa using h5
    refine⟨k+1,[0],by omega,by omega,⟨⟨_,rfl,.eq rfl⟩,⟨_,rfl,.eq rfl⟩,trivial⟩,⟨⟨_,rfl,.eq rfl⟩,⟨_,rfl,.eq rfl⟩,⟨_,rfl,.eq rfl⟩,⟨_,rfl,.eq rfl⟩,⟨_,rfl,.eq rfl⟩,trivial⟩,⟨rfl,nofun,rfl,rfl,rfl,_,rfl,rfl,rfl,bn.of_eq ?_⟩,trivial⟩
    rw[hst,GV,h5']; rfl
  ·have hk':(p.rules.getD i default).guards.length<=k:=by simpa using h4
   have e:k=(p.rules.getD i default).guards.length:=Nat.le_antisymm hk hk'
   subst e
   conv=>whnf
   refine .mk (by simp only[okI] at *; first|omega|(simp_all; done)|(simp_all; omega)) ?_
   conv=>whnf
   refine⟨i+1,[0],by omega,by omega,⟨⟨_,rfl,.eq rfl⟩,⟨_,rfl,.eq rfl⟩,trivial⟩,⟨⟨_,rfl,.eq rfl⟩,⟨_,rfl,.eq rfl⟩,trivial⟩,⟨rfl,nofun,rfl,rfl,rfl,_,rfl,rfl,rfl,bn.of_eq ?_⟩,trivial⟩
   rw[ML p hi']
 ·have hi':p.rules.length<=i:=by simpa using h3
  rw[List.take_of_length_le hi']
  conv=>whnf
  exact ak.aeG rfl
def uo(p:aX):Bool:=decide (p.topology<1)||decide (p.topology>4)||decide (p.fault<0)||decide (p.fault>3)
def vF(p:aX):Bool:=decide ((p.states.length:Int)>6)||decide ((p.messages.length:Int)>3)||decide ((p.values.length:Int)>3)||decide ((p.bZ.length:Int)>4)||decide ((p.rules.length:Int)>8)
def QD(p:aX):Bool:=(!(p.topology==1)&&(decide ((p.messages.length:Int)>0)||decide ((p.values.length:Int)>0)||decide ((p.bZ.length:Int)>0)||p.fault !=0))||((p.topology==1)&&decide ((p.leader.length:Int)>0))
def xF(p:aX):Int:=aT [dO p.initial p.states.length,dV ((p.initial.length:Int)==0) 1,dO p.leader p.states.length]
def CP(p:aX):Int:=aT ((List.range p.rules.length).map (gK p))
def dH(p:aX):Int :=
 bif !(validName p.name) then 2 else bif uo p then 1 else bif (p.states.length:Int)==0 then 1 else bif vF p then 4 else
 bif zh p !=0 then zh p else bif QD p then 1 else
 bif p.bZ.any (fun l=> !(Qw l)) then 4 else
 bif xF p !=0 then xF p else
 bif CP p !=0 then CP p else dV (decide (((yB p.rules).length:Int)>3)) 4
theorem JQ{n i:Nat}{f:Nat->Int}(h:i<n):((List.range n).drop i).map f=f i::((List.range n).drop (i+1)).map f:=by
 rw[List.drop_eq_getElem_cons (by simpa using h)]; simp
theorem S.iU(p:aX)(hp:dn p):aj Tryz.prog 126 [.dat (.bW p)] (.int (dH p)):=by
 have g1:=hp.states; have g2:=hp.messages; have g3:=hp.values; have g4:=hp.bZ; have g5:=hp.initial; have g6:=hp.leader; have g7:=hp.rules
 refine aj.of Bd.iU (by simp) rfl rfl ?_
 conv=>whnf
 refine ah.pure (S.fU p.name) rfl ?_
 conv=>whnf
 refine⟨fun h1=>?_,fun h1=>?_⟩
 ·conv=>whnf
  exact ak.int (by rw[dH,h1]; rfl)
 conv=>whnf
 repeat(refine VC.mk (by first|exact id|(intro h; rw[h]; rfl)) ?_; conv=>whnf)
 refine⟨fun h2=>?_,fun h2=>?_⟩
 ·conv=>whnf
  exact ak.int (by rw[dH,h1,show uo p=true from h2]; rfl)
 conv=>whnf
 refine⟨fun h3=>?_,fun h3=>?_⟩
 ·conv=>whnf
  exact ak.int (by rw[dH,h1,show uo p=false from h2,h3]; rfl)
 conv=>whnf
 repeat(refine VC.mk (by first|exact id|(intro h; rw[h]; rfl)) ?_; conv=>whnf)
 refine⟨fun h4=>?_,fun h4=>?_⟩
 ·conv=>whnf
  exact ak.int (by rw[dH,h1,show uo p=false from h2,h3,show vF p=true from h4]; rfl)
 conv=>whnf
 have h0:0<p.states.length:=by
  rcases Nat.eq_zero_or_pos p.states.length with e|e
  ·rw[e] at h3; exact absurd h3 (by decide)
  ·exact e
 refine ah.pure (S.nZ p h0 g1 g2 g3) rfl ?_
 conv=>whnf
 refine⟨fun h5=>?_,fun h5=>?_⟩
 ·conv=>whnf
  exact ak.int (by rw[dH,h1,show uo p=false from h2,h3,show vF p=false from h4,h5]; rfl)
 conv=>whnf
 repeat(refine VC.mk (by first|exact id|(intro h; rw[h]; rfl)|(intro h; simp_all; done)) ?_; conv=>whnf)
 refine⟨fun h6=>?_,fun h6=>?_⟩
 ·conv=>whnf
  exact ak.int (by rw[dH,h1,show uo p=false from h2,h3,show vF p=false from h4,h5,show QD p=true from h6]; rfl)
 conv=>whnf
 refine aF.same [1,4,111,112] (fun i:Nat=>[(113,.int i)]) (fun i=>i<=p.bZ.length/\(p.bZ.take i).any (fun l=> !(Qw l))=false) (fun i=>p.bZ.length-i) 0 rfl (by decide) rfl (fun _=>rfl) ⟨by omega,by simp⟩ ⟨⟨_,rfl,rfl⟩,trivial⟩ ?_
 conv=>whnf
 refine⟨rfl,?_⟩
 rintro i ⟨hi,hall⟩
 conv=>whnf
 refine⟨fun h7=>?_,fun h7=>?_⟩
 ·have hi':i<p.bZ.length:=by simpa using h7
  conv=>whnf
  refine .mk (by simp only[Rw.rng] at *; omega) ?_
  conv=>whnf
  refine ah.pure (S.jE (p.bZ.getD i default)) rfl ?_
  conv=>whnf
  refine⟨fun h8=>?_,fun h8=>?_⟩
  ·conv=>whnf
   exact ak.int (by rw[dH,h1,show uo p=false from h2,h3,show vF p=false from h4,h5,show QD p=false from h6,fQ (d:=default) hi' h8]; rfl)
  ·conv=>whnf
   refine .mk (by simp only[okI] at *; omega) ?_
   conv=>whnf
   refine⟨i+1,⟨by omega,?_⟩,by omega,⟨⟨_,rfl,rfl⟩,trivial⟩,?_,rfl⟩
   ·rw[jl (d:=default) hi' hall]; exact h8
   ·repeat' (first|exact trivial|exact⟨_,rfl,rfl⟩|constructor)
 have hi':p.bZ.length<=i:=by simpa using h7
 rw[List.take_of_length_le hi'] at hall
 conv=>whnf
 refine ah.pure (S.dQ p.initial p.states.length false (by omega)) rfl ?_
 conv=>whnf
 refine ah.pure (S.bU ((p.initial.length:Int)==0) 1) rfl ?_
 conv=>whnf
 refine ah.pure (S.dQ p.leader p.states.length false (by omega)) rfl ?_
 conv=>whnf
 refine ah.pure (S.bQ [dO p.initial p.states.length,dV ((p.initial.length:Int)==0) 1,dO p.leader p.states.length] true (show 3<2^40 by decide)) rfl ?_
 conv=>whnf
 refine⟨fun h9=>?_,fun h9=>?_⟩
 ·conv=>whnf
  exact ak.int (by rw[dH,h1,show uo p=false from h2,h3,show vF p=false from h4,h5,show QD p=false from h6,hall,show(xF p !=0)=true from h9]; rfl)
 conv=>whnf
 refine aF.same [1,140,141] (fun i:Nat=>[(142,.int i)]) (fun i=>i<=p.rules.length/\CP p=aT (((List.range p.rules.length).drop i).map (gK p))) (fun i=>p.rules.length-i) 0 rfl (by decide) rfl (fun _=>rfl) ⟨by omega,by simp[CP]⟩ ⟨⟨_,rfl,rfl⟩,trivial⟩ ?_
 conv=>whnf
 refine⟨rfl,?_⟩
 rintro i ⟨hi,hr⟩
 conv=>whnf
 refine⟨fun h10=>?_,fun h10=>?_⟩
 ·have hi':i<p.rules.length:=by simpa using h10
  rw[JQ hi'] at hr
  simp only[aT] at hr
  conv=>whnf
  refine ah.pure (S.jS p i hi' hp) rfl ?_
  conv=>whnf
  refine⟨fun h11=>?_,fun h11=>?_⟩
  ·conv=>whnf
   have adF:gK p i≠0:=J7 h11
   rw[if_neg adF] at hr
   exact ak.int (by rw[dH,h1,show uo p=false from h2,h3,show vF p=false from h4,h5,show QD p=false from h6,hall,show(xF p !=0)=false from h9,hr,h11]; rfl)
  ·conv=>whnf
   refine .mk (by simp only[okI] at *; omega) ?_
   conv=>whnf
   have adF:gK p i=0:=yF h11
   rw[if_pos adF] at hr
   refine⟨i+1,⟨by omega,hr⟩,by omega,⟨⟨_,rfl,rfl⟩,trivial⟩,?_,rfl⟩
   repeat' (first|exact trivial|exact⟨_,rfl,rfl⟩|constructor)
 have hi':p.rules.length<=i:=by simpa using h10
 rw[List.drop_eq_nil_of_le (by simpa using hi')] at hr
 conv=>whnf
 refine ah.pure (S.jr p hp) rfl ?_
 conv=>whnf
 refine ah.pure (S.bU (decide (((yB p.rules).length:Int)>3)) 4) rfl ?_
 conv=>whnf
 exact ak.int (by rw[dH,h1,show uo p=false from h2,h3,show vF p=false from h4,h5,show QD p=false from h6,hall,show(xF p !=0)=false from h9,hr]; rfl)
theorem ak.eqv{a b:V}{h:Hz}(e:a.aI=b.aI):ak a b h:=⟨by rw[e]; exact aC _⟩
def QF(acc:Bool)(r:Rule):Bool:=acc&&(r.kind==1)&&decide (r.fr<r.to)&&((r.ex.length:Int)==0)&&((r.all.length:Int)==0)
def Xk(acc:Bool)(r:Rule):Bool:=acc||decide ((r.all.length:Int)>0)
def uh(p:aX):Bool:=(p.topology==1)&&(p.fault==0)&&((p.messages.length:Int)==0)&&((p.bZ.length:Int)==0)
structure Cls where
 Tn:Bool
 cover:Bool
 word:Bool
 tree:Bool
 monadic:Bool
def kG(p:aX):Cls :=
 ⟨(p.topology==1)&&((p.values.length:Int)==0)&&p.rules.foldl QF true,uh p&& !(p.rules.foldl Xk false),(p.topology==2)||(p.topology==3),p.topology==4,uh p&&decide ((p.states.length:Int)<=4)⟩
def aeH(c:Cls):V:=.agg [.bool c.Tn,.bool c.cover,.bool c.word,.bool c.tree,.bool c.monadic]
def OT:Cls:=⟨false,false,false,false,false⟩
def FZ(p:aX):V:=.fO [aeH (bif dH p !=0 then OT else kG p),.int (dH p)]
theorem S.kH(p:aX)(hp:dn p):aj Tryz.prog 104 [.dat (.bW p)] (FZ p):=by
 have g1:=hp.states; have g2:=hp.messages; have g3:=hp.values; have g4:=hp.bZ; have g7:=hp.rules
 refine aj.of Bd.kH (by simp) rfl rfl ?_
 conv=>whnf
 refine ah.pure (S.iU p hp) rfl ?_
 conv=>whnf
 refine⟨fun h1=>?_,fun h1=>?_⟩
 ·conv=>whnf
  refine ak.eqv ?_
  rw[FZ,h1]; rfl
 have h1':dH p=0:=yF h1
 conv=>whnf
 refine aF.same [1,2,3,18,19] (fun i:Nat=>[(20,.int i),(5,.bool ((p.rules.take i).foldl QF true)),(6,.bool ((p.rules.take i).foldl Xk false))]) (fun i=>i<=p.rules.length) (fun i=>p.rules.length-i) 0 rfl (by decide) rfl (fun _=>rfl) (Nat.zero_le _) ⟨⟨_,rfl,rfl⟩,⟨_,rfl,rfl⟩,⟨_,rfl,rfl⟩,trivial⟩ ?_
 conv=>whnf
 refine⟨rfl,?_⟩
 rintro i hi
 have g8:=hp.rule i
 have g9:=g8.ex; have g10:=g8.all
 conv=>whnf
 refine⟨fun h7=>?_,fun h7=>?_⟩
 ·have hi':i<p.rules.length:=by simpa using h7
  conv=>whnf
  repeat(refine VC.mk (by first|exact id|exact fun h=>⟨h,h⟩|(intro h; rw[h]; rfl)|(simp only[okI,Rw.rng] at *; omega)) ?_; conv=>whnf)
  refine⟨i+1,by omega,by omega,⟨⟨_,rfl,rfl⟩,⟨_,rfl,?_⟩,⟨_,rfl,?_⟩,trivial⟩,?_,rfl⟩
  ·rw[Az (d:=default) hi']; rfl
  ·rw[Az (d:=default) hi']; rfl
  ·repeat' (first|exact trivial|exact⟨_,rfl,rfl⟩|constructor)
 have hi':p.rules.length<=i:=by simpa using h7
 rw[List.take_of_length_le hi']
 conv=>whnf
 repeat(refine VC.mk (by first|exact id|(intro h; rw[h]; rfl)) ?_; conv=>whnf)
 refine ak.eqv ?_
 rw[FZ,h1']
 rfl
def lQ(r:Rule)(t:Int):Bool :=
 bif !(r.kind==1)&&(decide ((r.guards.length:Int)>0)||decide ((r.ex.length:Int)>0)||decide ((r.all.length:Int)>0)||decide ((r.send.length:Int)>0)) then true else
 bif !(r.kind==1)&& !(r.kind==2)&& !(r.kind==3)&&(r.read != -1||r.write != -1) then true else
 bif !(r.kind==2)&& !(r.kind==5)&&(r.gJ !=0||r.BH !=0) then true else
 bif (!(r.kind==3)&&decide ((r.response.length:Int)>0))||(!(r.kind==5)&&r.direction !=0) then true else
 bif !(r.kind==4)&&(r.pos !=0||decide ((r.left.length:Int)>0)||decide ((r.right.length:Int)>0)) then true else
 decide ((r.parent.length:Int)>0)&& !((r.kind==4)&&(t==4))
theorem gt0{n:Nat}:decide ((n:Int)>0)= !(n==0):=by
 cases n with
 |zero=>rfl
 |succ n=>rw[decide_eq_true (by omega)]; rfl
theorem afi(a b c d e f g h:Nat):decide ((a:Int)+b+c+d+e+f+g+h>0)=(!(a==0)|| !(b==0)|| !(c==0)|| !(d==0)|| !(e==0)|| !(f==0)|| !(g==0)|| !(h==0)):=by
 rw[Bool.eq_iff_iff]
 simp only[decide_eq_true_eq,Bool.or_eq_true,Bool.not_eq_true',beq_eq_false_iff_ne,ne_eq]
 omega
theorem zO{r:Rule}{t:Int}(h:1<=r.kind/\r.kind<=5):lQ r t=kM r t:=by
 have hk:r.kind=1\/r.kind=2\/r.kind=3\/r.kind=4\/r.kind=5:=by omega
 simp only[lQ,kM,DK,gt0,afi,bne]
 generalize (r.guards.length==0)=g1
 generalize (r.ex.length==0)=g2
 generalize (r.all.length==0)=g3
 generalize (r.send.length==0)=g4
 generalize (r.response.length==0)=g5
 generalize (r.left.length==0)=g6
 generalize (r.right.length==0)=g7
 generalize (r.parent.length==0)=g8
 generalize (r.read== -1)=g9
 generalize (r.write== -1)=g10
 generalize (r.gJ==0)=g11
 generalize (r.BH==0)=g12
 generalize (r.direction==0)=g13
 generalize (r.pos==0)=g14
 rcases hk with hk|hk|hk|hk|hk<;>rw[hk] <;>
  (first
   |(simp; done)
   |(cases (t==4)<;>simp<;>grind)
   |(simp; grind))
end Go.Proofs.YtifbibbicplneaaGreatDoor
