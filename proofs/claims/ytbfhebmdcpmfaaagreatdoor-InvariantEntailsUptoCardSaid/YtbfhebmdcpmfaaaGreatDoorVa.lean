/-
 A part of the proof. No condition.
-/
import Derived.Test.YtbfhebmdcpmfaaaGreatDoorNb
import Derived.Test.YtbfhebmdcpmfaaaGreatDoorLf
namespace Go.Proofs.YtbfhebmdcpmfaaaGreatDoor
open Go.Ab Go.Proofs
set_option maxRecDepth 100000
def dX(b:Bool)(e:Int):Int:=bif b then e else 0
theorem S.bM(b:Bool)(e:Int):ak Tryz.prog 83 [.bool b,.int e] (.int (dX b e)):=by
 refine ak.of Bd.bM (by simp) rfl rfl ?_
 conv=>whnf
 refine⟨fun h=>?_,fun h=>?_⟩
 ·conv=>whnf
  exact au.int (by rw[h]; rfl)
 ·conv=>whnf
  exact au.int (by rw[h]; rfl)
def nR(i n:Int):Bool:=decide (i<0)||decide (i>=n)
def bU(i n:Int):Int:=dX (nR i n) 5
theorem S.bQ(i n:Int):ak Tryz.prog 113 [.int i,.int n] (.int (bU i n)):=by
 refine ak.of Bd.bQ (by simp) rfl rfl ?_
 conv=>whnf
 repeat(refine VC.mk (by first|exact fun h=>⟨h,h⟩|(intro h; rw[h]; rfl)) ?_; conv=>whnf)
 refine ah.pure (S.bM (nR i n) 5) rfl ?_
 conv=>whnf
 exact au.int rfl
def aQ:List Int->Int
 |[]=>0
 |e::r=>if e=0 then aQ r else e
theorem S.bK(l:List Int)(f:Bool)(hl:l.length<2^40):ak Tryz.prog 81 [.row 0 f (.ints l)] (.int (aQ l)):=by
 refine ak.of Bd.bK (by simp) rfl rfl ?_
 conv=>whnf
 refine aP.same [5,6] (fun i:Nat=>[(7,.int i)]) (fun i=>i<=l.length/\aQ l=aQ (l.drop i)) (fun i=>l.length-i) 0 rfl (by decide) rfl (fun _=>rfl) ⟨by omega,by simp⟩ ⟨⟨_,rfl,rfl⟩,trivial⟩ ?_
 conv=>whnf
 refine⟨rfl,?_⟩
 rintro i ⟨hi,hall⟩
 conv=>whnf
 refine⟨fun h3=>?_,fun h3=>?_⟩
 ·have hi':i<l.length:=by simpa using h3
  rw[bC 0 hi'] at hall
  simp only[aQ] at hall
  conv=>whnf
  refine .mk (by simp only[Rw.rng] at *; omega) ?_
  conv=>whnf
  refine⟨fun h4=>?_,fun h4=>?_⟩
  ·conv=>whnf
   refine au.int ?_
   have:l.getD i 0≠0:=by simpa using h4
   rw[hall,if_neg this]; rfl
  ·conv=>whnf
   refine .mk (by simp only[okI] at *; omega) ?_
   conv=>whnf
   have:l.getD i 0=0:=by simpa using h4
   rw[if_pos this] at hall
   refine⟨i+1,⟨by omega,hall⟩,by omega,⟨⟨_,rfl,rfl⟩,trivial⟩,?_,rfl⟩
   repeat' (first|exact trivial|exact⟨_,rfl,rfl⟩|constructor)
 ·conv=>whnf
  refine au.int ?_
  have hi':l.length<=i:=by simpa using h3
  rw[hall,List.drop_eq_nil_of_le hi']; rfl
def uZ:List Int->Bool
 |a::b::r=>decide (a<b)&&uZ (b::r)
 |_=>true
def dR(l:List Int)(n:Int):Int:=bif l.any (fun i=>nR i n) then 5 else bif uZ l then 0 else 1
theorem S.dK(l:List Int)(n:Int)(f:Bool)(hl:l.length<2^40):ak Tryz.prog 82 [.row 0 f (.ints l),.int n] (.int (dR l n)):=by
 refine ak.of Bd.dK (by simp) rfl rfl ?_
 conv=>whnf
 refine aP.same [0,1,8,9] (fun i:Nat=>[(10,.int i)]) (fun i=>i<=l.length/\(l.take i).any (fun i=>nR i n)=false) (fun i=>l.length-i) 0 rfl (by decide) rfl (fun _=>rfl) ⟨by omega,by simp⟩ ⟨⟨_,rfl,rfl⟩,trivial⟩ ?_
 conv=>whnf
 refine⟨rfl,?_⟩
 rintro i ⟨hi,hall⟩
 conv=>whnf
 refine⟨fun h3=>?_,fun h3=>?_⟩
 ·have hi':i<l.length:=by simpa using h3
  conv=>whnf
  repeat(refine VC.mk (by first|exact fun h=>⟨h,h⟩|(intro h; rw[h]; rfl)|(simp only[Rw.rng] at *; omega)) ?_; conv=>whnf)
  refine⟨fun h4=>?_,fun h4=>?_⟩
  ·conv=>whnf
   refine au.int ?_
   rw[dR,je (d:=0) hi' h4]; rfl
  ·conv=>whnf
   refine .mk (by simp only[okI] at *; omega) ?_
   conv=>whnf
   refine⟨i+1,⟨by omega,?_⟩,by omega,⟨⟨_,rfl,rfl⟩,trivial⟩,?_,rfl⟩
   ·rw[kY (d:=0) hi' hall]; exact h4
   ·repeat' (first|exact trivial|exact⟨_,rfl,rfl⟩|constructor)
 ·have hi':l.length<=i:=by simpa using h3
  rw[List.take_of_length_le hi'] at hall
  conv=>whnf
  refine aP.same [0] (fun i:Nat=>[(7,.int (i+1))]) (fun i=>(i<l.length\/i=0)/\uZ l=uZ (l.drop i)) (fun i=>l.length-i) 0 rfl (by decide) rfl (fun _=>rfl) ⟨by omega,by simp⟩ ⟨⟨_,rfl,rfl⟩,trivial⟩ ?_
  conv=>whnf
  refine⟨rfl,?_⟩
  rintro i ⟨hi,hinc⟩
  conv=>whnf
  refine⟨fun h5=>?_,fun h5=>?_⟩
  ·have hi1:i+1<l.length:=by have:=of_decide_eq_true h5; omega
   rw[bC 0 (show i<l.length by omega),bC 0 hi1] at hinc
   simp only[uZ] at hinc
   rw[<- bC 0 hi1] at hinc
   conv=>whnf
   repeat(refine VC.mk (by simp only[okI,Rw.rng] at *; omega) ?_; conv=>whnf)
   refine⟨fun h6=>?_,fun h6=>?_⟩
   ·conv=>whnf
    refine au.int ?_
    have e1:((i:Int)+1).toNat=i+1:=by omega
    have e2:((i:Int)+1-1).toNat=i:=by omega
    rw[e1,e2] at h6
    have h6':l.getD (i+1) 0<=l.getD i 0:=of_decide_eq_true h6
    rw[dR,hall,hinc,decide_eq_false (by omega)]; rfl
   ·conv=>whnf
    refine .mk (by simp only[okI] at *; omega) ?_
    conv=>whnf
    have e1:((i:Int)+1).toNat=i+1:=by omega
    have e2:((i:Int)+1-1).toNat=i:=by omega
    rw[e1,e2] at h6
    have h6': ¬ l.getD (i+1) 0<=l.getD i 0:=of_decide_eq_false h6
    rw[decide_eq_true (by omega),Bool.true_and] at hinc
    refine⟨i+1,⟨by omega,hinc⟩,by omega,⟨⟨_,rfl,rfl⟩,trivial⟩,?_,rfl⟩
    repeat' (first|exact trivial|exact⟨_,rfl,rfl⟩|constructor)
  ·conv=>whnf
   refine au.int ?_
   have h5': ¬ ((i:Int)+1<l.length):=of_decide_eq_false h5
   have:uZ l=true:=by
    rw[hinc]
    rcases hd:l.drop i with _|⟨a,_|⟨b,r⟩⟩
    ·rfl
    ·rfl
    ·have:=congrArg List.length hd
     simp only[List.length_drop,List.length_cons] at this
     omega
   rw[dR,hall,this]; rfl
def WX(n:Int):Bool:=decide (n>= -100)&&decide (n<=100)
theorem S.fV(n:Int):ak Tryz.prog 108 [.int n] (.bool (WX n)):=by
 refine ak.of Bd.fV (by simp) rfl rfl ?_
 conv=>whnf
 repeat(refine VC.mk id ?_; conv=>whnf)
 exact au.bool rfl
def NC(l:X7):Bool:=WX l.c&&WX l.n&&WX l.t&&WX l.f
theorem S.iY(l:X7):ak Tryz.prog 80 [.dat (.lin l)] (.bool (NC l)):=by
 refine ak.of Bd.iY (by simp) rfl rfl ?_
 conv=>whnf
 refine ah.pure (S.fV l.c) rfl ?_
 conv=>whnf
 repeat(refine VC.mk id ?_; conv=>whnf)
 refine ah.fJ (fun _=>S.fV l.n) rfl ?_
 conv=>whnf
 repeat(refine VC.mk id ?_; conv=>whnf)
 refine ah.fJ (fun _=>S.fV l.t) rfl ?_
 conv=>whnf
 repeat(refine VC.mk id ?_; conv=>whnf)
 refine ah.fJ (fun _=>S.fV l.f) rfl ?_
 conv=>whnf
 refine VC.mk id ?_
 conv=>whnf
 exact au.bool rfl
def jd(p:aW)(v:Int):Int:=dX (decide (v< -1)||decide (v>=p.values.length)) 5
theorem S.fA(p:aW)(v:Int):ak Tryz.prog 115 [.dat (.dJ p),.int v] (.int (jd p v)):=by
 refine ak.of Bd.fA (by simp) rfl rfl ?_
 conv=>whnf
 repeat(refine VC.mk (by first|exact id|exact fun h=>⟨h,h⟩|(intro h; rw[h]; rfl)) ?_; conv=>whnf)
 refine ah.pure (S.bM _ 5) rfl ?_
 conv=>whnf
 exact au.int rfl
theorem IX{a:Int}(h:(a !=0)=true):a≠0:=by simpa using h
theorem xI{a:Int}(h:(a !=0)=false):a=0:=by simpa using h
def rO(k t:Int):Bool:=bif k==1||k==2||k==3 then t==1 else bif k==4||k==5 then !(t==1) else false
theorem S.nJ(k t:Int):ak Tryz.prog 111 [.int k,.int t] (.bool (rO k t)):=by
 refine ak.of Bd.nJ (by simp) rfl rfl ?_
 conv=>whnf
 refine⟨fun h1=>?_,fun h1=>?_⟩
 ·conv=>whnf
  refine Fork.mk (fun _=>?_) (fun q=>absurd (q.symm.trans (h1)) Bool.false_ne_true)
  conv=>whnf
  exact au.bool (by simp[rO,h1])
 ·conv=>whnf
  refine⟨fun h2=>?_,fun h2=>?_⟩
  ·conv=>whnf
   refine Fork.mk (fun _=>?_) (fun q=>absurd (q.symm.trans (h2)) Bool.false_ne_true)
   conv=>whnf
   exact au.bool (by simp[rO,h1,h2])
  ·conv=>whnf
   refine⟨fun h3=>?_,fun h3=>?_⟩
   ·conv=>whnf
    exact au.bool (by simp[rO,h1,h2,h3])
   ·conv=>whnf
    refine⟨fun h4=>?_,fun h4=>?_⟩
    ·conv=>whnf
     refine Fork.mk (fun _=>?_) (fun q=>absurd (q.symm.trans (h4)) Bool.false_ne_true)
     conv=>whnf
     exact au.bool (by simp[rO,h1,h2,h3,h4,bne])
    ·conv=>whnf
     refine⟨fun h5=>?_,fun h5=>?_⟩
     ·conv=>whnf
      exact au.bool (by simp[rO,h1,h2,h3,h4,h5,bne])
     ·conv=>whnf
      exact au.bool (by simp[rO,h1,h2,h3,h4,h5])
def nS:List Int->Int->Int
 |[],_=>0
 |x::r,n=>if bU x n=0 then nS r n else bU x n
def BG(l:List Int)(n:Int):Int:=bif (l.length:Int) !=n then 1 else nS l n
theorem S.jr(l:List Int)(n:Int)(f:Bool)(hl:l.length<2^40):ak Tryz.prog 116 [.row 0 f (.ints l),.int n] (.int (BG l n)):=by
 refine ak.of Bd.jr (by simp) rfl rfl ?_
 conv=>whnf
 refine⟨fun h=>?_,fun h=>?_⟩
 ·conv=>whnf
  exact au.int (by rw[BG,h]; rfl)
 ·conv=>whnf
  refine aP.same [0,1,12,13] (fun i:Nat=>[(14,.int i)]) (fun i=>i<=l.length/\nS l n=nS (l.drop i) n) (fun i=>l.length-i) 0 rfl (by decide) rfl (fun _=>rfl) ⟨by omega,by simp⟩ ⟨⟨_,rfl,rfl⟩,trivial⟩ ?_
  conv=>whnf
  refine⟨rfl,?_⟩
  rintro i ⟨hi,hall⟩
  conv=>whnf
  refine⟨fun h3=>?_,fun h3=>?_⟩
  ·have hi':i<l.length:=by simpa using h3
   rw[bC 0 hi'] at hall
   simp only[nS] at hall
   conv=>whnf
   refine .mk (by simp only[Rw.rng] at *; omega) ?_
   conv=>whnf
   refine ah.pure (S.bQ (l.getD i 0) n) rfl ?_
   conv=>whnf
   refine⟨fun h4=>?_,fun h4=>?_⟩
   ·conv=>whnf
    refine au.int ?_
    have:bU (l.getD i 0) n≠0:=by simpa using h4
    rw[BG,h,cond_false,hall,if_neg this]
   ·conv=>whnf
    refine .mk (by simp only[okI] at *; omega) ?_
    conv=>whnf
    have:bU (l.getD i 0) n=0:=by simpa using h4
    rw[if_pos this] at hall
    refine⟨i+1,⟨by omega,hall⟩,by omega,⟨⟨_,rfl,rfl⟩,trivial⟩,?_,rfl⟩
    repeat' (first|exact trivial|exact⟨_,rfl,rfl⟩|constructor)
  ·conv=>whnf
   refine au.int ?_
   have hi':l.length<=i:=by simpa using h3
   rw[BG,h,cond_false,hall,List.drop_eq_nil_of_le hi']; rfl
def guardE(p:aW)(g:xY):Int:=aQ [bU g.message p.messages.length,dX (decide (g.CO<1)||decide (g.CO>100)) 1,dX (!(NC g.bound)) 4]
def jD(p:aW):List xY->Int
 |[]=>0
 |g::r=>if guardE p g=0 then jD p r else guardE p g
def uS(p:aW)(l:List xY):Int:=if jD p l=0 then dX (decide ((l.length:Int)>2)) 4 else jD p l
theorem S.lF(p:aW)(l:List xY)(f:Bool)(hl:l.length<2^40):ak Tryz.prog 114 [.dat (.dJ p),.row 7 f (.pz l)] (.int (uS p l)):=by
 refine ak.of Bd.lF (by simp) rfl rfl ?_
 conv=>whnf
 refine aP.same [1,2,8,9] (fun i:Nat=>[(10,.int i)]) (fun i=>i<=l.length/\jD p l=jD p (l.drop i)) (fun i=>l.length-i) 0 rfl (by decide) rfl (fun _=>rfl) ⟨by omega,by simp⟩ ⟨⟨_,rfl,rfl⟩,trivial⟩ ?_
 conv=>whnf
 refine⟨rfl,?_⟩
 rintro i ⟨hi,hall⟩
 conv=>whnf
 refine⟨fun h3=>?_,fun h3=>?_⟩
 ·have hi':i<l.length:=by simpa using h3
  rw[bC default hi'] at hall
  simp only[jD] at hall
  conv=>whnf
  refine .mk (by simp only[Rw.rng] at *; omega) ?_
  conv=>whnf
  refine ah.pure (S.bQ (l.getD i default).message p.messages.length) rfl ?_
  conv=>whnf
  repeat(refine VC.mk (by first|exact id|(intro h; rw[h]; rfl)) ?_; conv=>whnf)
  refine ah.pure (S.bM (decide ((l.getD i default).CO<1)||decide ((l.getD i default).CO>100)) 1) rfl ?_
  conv=>whnf
  refine ah.pure (S.iY (l.getD i default).bound) rfl ?_
  conv=>whnf
  refine ah.pure (S.bM (!(NC (l.getD i default).bound)) 4) rfl ?_
  conv=>whnf
  refine ah.pure (S.bK [bU (l.getD i default).message p.messages.length,dX (decide ((l.getD i default).CO<1)||decide ((l.getD i default).CO>100)) 1,dX (!(NC (l.getD i default).bound)) 4] true (show 3<2^40 by decide)) rfl ?_
  conv=>whnf
  refine⟨fun h4=>?_,fun h4=>?_⟩
  ·conv=>whnf
   refine au.int ?_
   have h4':guardE p (l.getD i default)≠0:=IX h4
   rw[if_neg h4'] at hall
   rw[uS,hall,if_neg h4']; rfl
  ·conv=>whnf
   refine .mk (by simp only[okI] at *; omega) ?_
   conv=>whnf
   have h4':guardE p (l.getD i default)=0:=xI h4
   rw[if_pos h4'] at hall
   refine⟨i+1,⟨by omega,hall⟩,by omega,⟨⟨_,rfl,rfl⟩,trivial⟩,?_,rfl⟩
   repeat' (first|exact trivial|exact⟨_,rfl,rfl⟩|constructor)
 ·have hi':l.length<=i:=by simpa using h3
  rw[List.drop_eq_nil_of_le hi'] at hall
  conv=>whnf
  refine ah.pure (S.bM (decide ((l.length:Int)>2)) 4) rfl ?_
  conv=>whnf
  exact au.int (by rw[uS,hall]; rfl)
structure uT(r:Rule):Prop where
 response:r.response.length<2^30
 guards:r.guards.length<2^30
 ex:r.ex.length<2^30
 all:r.all.length<2^30
 send:r.send.length<2^30
 left:r.left.length<2^30
 right:r.right.length<2^30
 parent:r.parent.length<2^30
def Bl(r:Rule):Bool :=
 decide ((r.response.length:Int)+r.guards.length+r.ex.length+r.all.length+r.send.length+r.left.length+r.right.length+r.parent.length>0)||r.iQ !=0||r.BA !=0||r.pos !=0||r.direction !=0||r.read != -1||r.write != -1
def jP(r:Rule)(t:Int):Bool :=
 bif r.kind==1 then Bl {r with guards:=[],ex:=[],all:=[],send:=[],read:= -1,write:= -1} else
 bif r.kind==2 then(bif decide ((r.response.length:Int)>0) then true else Bl {r with iQ:=0,BA:=0,response:=[],read:= -1,write:= -1}) else
 bif r.kind==3 then Bl {r with response:=[],read:= -1,write:= -1} else
 bif r.kind==4 then(bif t==4 then Bl {r with pos:=0,left:=[],right:=[],parent:=[]} else Bl {r with pos:=0,left:=[],right:=[]}) else
 bif r.kind==5 then Bl {r with iQ:=0,BA:=0,direction:=0} else Bl r
theorem S.kL(r:Rule)(t:Int)(hs:uT r):ak Tryz.prog 112 [.dat (.rule r),.int t] (.bool (jP r t)):=by
 obtain⟨g1,g2,g3,g4,g5,g6,g7,g8⟩:=hs
 refine ak.of Bd.kL (by simp) rfl rfl ?_
 conv=>whnf
 refine⟨fun h1=>?_,fun h1=>?_⟩
 ·conv=>whnf
  repeat(refine VC.mk (by first|exact id|(intro h; rw[h]; rfl)|(simp only[okI] at *; omega)) ?_; conv=>whnf)
  exact au.bool (by simp[jP,Bl,h1])
 ·conv=>whnf
  refine⟨fun h2=>?_,fun h2=>?_⟩
  ·conv=>whnf
   refine⟨fun h6=>?_,fun h6=>?_⟩
   ·conv=>whnf
    exact au.bool (by rw[jP,h1,h2,show decide ((r.response.length:Int)>0)=true from h6]; rfl)
   ·conv=>whnf
    repeat(refine VC.mk (by first|exact id|(intro h; rw[h]; rfl)|(simp only[okI] at *; omega)) ?_; conv=>whnf)
    exact au.bool (by rw[jP,h1,h2,show decide ((r.response.length:Int)>0)=false from h6]; simp[Bl])
  ·conv=>whnf
   refine⟨fun h3=>?_,fun h3=>?_⟩
   ·conv=>whnf
    repeat(refine VC.mk (by first|exact id|(intro h; rw[h]; rfl)|(simp only[okI] at *; omega)) ?_; conv=>whnf)
    exact au.bool (by simp[jP,Bl,h1,h2,h3])
   ·conv=>whnf
    refine⟨fun h4=>?_,fun h4=>?_⟩
    ·conv=>whnf
     refine⟨fun h7=>?_,fun h7=>?_⟩
     ·conv=>whnf
      repeat(refine VC.mk (by first|exact id|(intro h; rw[h]; rfl)|(simp only[okI] at *; omega)) ?_; conv=>whnf)
      exact au.bool (by simp[jP,Bl,h1,h2,h3,h4,h7])
     ·conv=>whnf
      repeat(refine VC.mk (by first|exact id|(intro h; rw[h]; rfl)|(simp only[okI] at *; omega)) ?_; conv=>whnf)
      exact au.bool (by simp[jP,Bl,h1,h2,h3,h4,h7])
    ·conv=>whnf
     refine⟨fun h5=>?_,fun h5=>?_⟩
     ·conv=>whnf
      repeat(refine VC.mk (by first|exact id|(intro h; rw[h]; rfl)|(simp only[okI] at *; omega)) ?_; conv=>whnf)
      exact au.bool (by simp[jP,Bl,h1,h2,h3,h4,h5])
     ·conv=>whnf
      repeat(refine VC.mk (by first|exact id|(intro h; rw[h]; rfl)|(simp only[okI] at *; omega)) ?_; conv=>whnf)
      exact au.bool (by simp[jP,Bl,h1,h2,h3,h4,h5])
def WY(h:Hz):Hz->Prop
 |[]=>True
 |(i,o)::r=>h.get i=o/\WY h r
theorem Uf{h:Hz}: ∀ {h0:Hz},WY h h0-> ∀ {i:Nat} {o:OV},h0.get i=some o->h.get i=some o:=by
 intro h0
 induction h0 with
 |nil=>intro _ i o e; cases e
 |cons p r ih =>
  obtain⟨j,u⟩:=p
  intro hs i o e
  simp only[Hz.get] at e
  cases hb:Nat.beq j i with
  |true=>rw[hb] at e; simp only[cond_true] at e; rw[<- Nat.eq_of_beq_eq_true hb,hs.1,e]
  |false=>rw[hb] at e; exact ih hs.2 e
def Ug:Hz->Bool
 |[]=>true
 |(_,some o)::r=>o.JG&&Ug r
 |(_,none)::r=>Ug r
theorem NS: ∀ {h0:Hz},Ug h0=true-> ∀ {i:Nat} {o:OV},h0.get i=some o->o.JG=true:=by
 intro h0
 induction h0 with
 |nil=>intro _ i o e; cases e
 |cons p r ih =>
  obtain⟨j,u⟩:=p
  intro hs i o e
  simp only[Hz.get] at e
  cases hb:Nat.beq j i with
  |true =>
   rw[hb] at e; simp only[cond_true] at e; subst e
   simp only[Ug,Bool.and_eq_true] at hs; exact hs.1
  |false =>
   rw[hb] at e
   refine ih ?_ e
   cases u with
   |none=>exact hs
   |some o=>simp only[Ug,Bool.and_eq_true] at hs; exact hs.2
theorem OV.NT{o:OV}(h:o.JG=true):T.aN (fun _=>False) o.aF.l:=OV.Fb h
theorem iC.same{nx:Nat}{h0 h:Hz}{n:Nat}{post:T->Hp->Prop}{v:V}(hf:v.free=true)(hs:WY h h0)(hg:qU nx h0=true)(hfr:Ug h0=true)(hp:post v.aG h0.aj):iC h0 n post v h:=by
 have hG:=ku hg
 have get: ∀ i ob,h0.aj i=some ob-> ∃ o,h0.get i=some o/\ob=o.aF:=fun i ob e=>by
  simp only[Hz.aj,Option.map_eq_some_iff] at e
  obtain⟨o,e1,e2⟩:=e
  exact⟨o,e1,e2.symm⟩
 have hfree:=V.lQ v hf
 refine⟨fun _=>False,id,v.aG,h0.aj,hp,?_,fun i ob hi=>?_,fun i j _ _ e=>e,T.bP (fun _ h=>h.elim) _ (gK hfree),fun i ob hi=>?_,fun i _ _=>rfl⟩
 ·rw[G7]; exact aC _
 ·obtain⟨o,e1,rfl⟩:=get i ob hi
  refine⟨o.aF,aH (Uf hs e1),fun h=>h,rfl,rfl,?_,yM (hG i _ hi).2.2⟩
  rw[su _ (OV.NT (NS hfr e1))]; exact bY _
 ·obtain⟨o,e1,rfl⟩:=get i ob hi
  exact⟨.inl (by rw[hi]; rfl),T.ay (fun _ h=>h.elim) _ (OV.NT (NS hfr e1))⟩
abbrev YL(p:aW)(r:Rule):Hz:=[(7,some (.box 88 19 (.dat (.rule r)))),(0,some (.box 27 11 (.dat (.dJ p))))]
theorem S.KO(p:aW)(r x:Rule)(n:Nat):aK Tryz.prog 110 (V.aT [.dat (.rule x),.ptr 7 0 0]) (YL p r).aj n (fun t hp=>t= .bool (x.name==r.name)/\hp=(YL p r).aj):=by
 refine oV.of (nx:=8) Bd.lM (by simp) ⟨_,_,rfl,rfl⟩ rfl rfl ?_
 conv=>whnf
 exact iC.same (nx:=8) rfl ⟨rfl,rfl,trivial⟩ rfl rfl ⟨rfl,rfl⟩
def Di(s:Str):List Rule->Nat->Int
 |[],_=> -1
 |x::r,i=>bif x.name==s then(i:Int) else Di s r (i+1)
theorem S.Uh(p:aW)(r:Rule)(l:List Rule)(f:Bool)(hl:l.length<2^30)(n:Nat):aK Tryz.prog 133 (V.aT [.row 19 f (.rules l),.fn 110 [.ptr 7 0 0]]) (YL p r).aj n (fun t hp=>t= .int (Di r.name l 0)/\hp=(YL p r).aj):=by
 refine oV.of (nx:=8) Bd.fB (by simp) ⟨_,_,rfl,rfl⟩ rfl rfl ?_
 conv=>whnf
 refine aP.same [0,1,6,7] (fun i:Nat=>[(8,.int i)]) (fun i=>i<=l.length/\Di r.name l 0=Di r.name (l.drop i) i) (fun i=>l.length-i) 0 rfl (by decide) rfl (fun _=>rfl) ⟨by omega,by simp⟩ ⟨⟨_,rfl,rfl⟩,trivial⟩ ?_
 conv=>whnf
 refine⟨rfl,?_⟩
 rintro i ⟨hi,hall⟩
 conv=>whnf
 refine⟨fun h3=>?_,fun h3=>?_⟩
 ·have hi':i<l.length:=by simpa using h3
  rw[bC default hi'] at hall
  simp only[Di] at hall
  conv=>whnf
  refine .mk (by simp only[Rw.rng] at *; omega) ?_
  conv=>whnf
  refine ah.heap (S.KO p r (l.getD i default) _) ?_
  rintro t hp ⟨rfl,rfl⟩
  refine⟨.bool _,YL p r,rfl,rfl,?_⟩
  conv=>whnf
  refine⟨fun h4=>?_,fun h4=>?_⟩
  ·conv=>whnf
   rw[h4] at hall
   exact iC.same (nx:=8) rfl ⟨rfl,rfl,trivial⟩ rfl rfl ⟨by rw[hall]; rfl,rfl⟩
  ·conv=>whnf
   refine .mk (by simp only[okI] at *; omega) ?_
   conv=>whnf
   rw[h4] at hall
   refine⟨i+1,⟨by omega,hall⟩,by omega,⟨⟨_,rfl,rfl⟩,trivial⟩,?_,rfl⟩
   repeat' (first|exact trivial|exact⟨_,rfl,rfl⟩|constructor)
 ·conv=>whnf
  have hi':l.length<=i:=by simpa using h3
  rw[List.drop_eq_nil_of_le hi'] at hall
  exact iC.same (nx:=8) rfl ⟨rfl,rfl,trivial⟩ rfl rfl ⟨by rw[hall]; rfl,rfl⟩
theorem WZ{s:Str}{l:List Rule}{i:Nat}:decide (0<=Di s l i)=l.any fun x=>x.name==s:=by
 have: ∀ {l:List Rule} {i:Nat},0<=Di s l i↔(l.any fun x=>x.name==s)=true:=by
  intro l
  induction l with
  |nil=>intro i; simp[Di]
  |cons x r ih =>
   intro i
   rw[List.any_cons,Bool.or_eq_true,<- ih (i:=i+1)]
   show(0:Int)<=(bif x.name==s then(i:Int) else Di s r (i+1))↔_
   generalize (x.name==s)=b
   cases b<;>simp
 rw[Bool.eq_iff_iff,decide_eq_true_eq]; exact this
theorem S.KP(p:aW)(r:Rule)(l:List Rule)(f:Bool)(hl:l.length<2^30)(n:Nat):aK Tryz.prog 109 (V.aT [.row 19 f (.rules l),.fn 110 [.ptr 7 0 0]]) (YL p r).aj n (fun t hp=>t= .bool (l.any fun x=>x.name==r.name)/\hp=(YL p r).aj):=by
 refine oV.of (nx:=8) Bd.eu (by simp) ⟨_,_,rfl,rfl⟩ rfl rfl ?_
 conv=>whnf
 refine ah.heap (S.Uh p r l f hl _) ?_
 rintro t hp ⟨rfl,rfl⟩
 refine⟨.int _,YL p r,rfl,rfl,?_⟩
 conv=>whnf
 exact iC.same (nx:=8) rfl ⟨rfl,rfl,trivial⟩ rfl rfl ⟨by rw[<- WZ (i:=0)]; rfl,rfl⟩
theorem ah.mkRow{P:Program}{f:FuncId}{args:List V}{h:Hz}{n ty k:Nat}{r:Rw}{K:V->Hz->Prop}{KW:Nat->V->Hz->Prop}(H:uy P f (V.aT args) (fun n=>.own n) (some ⟨ty,k,r.aT⟩))(hK:K (.own n) ((n,some (.row ty k r []))::h)):ah P false none f args h n K KW :=
 ah.heap (uy.frame H _ _) (by rintro t hp ⟨rfl,rfl⟩; exact⟨.own n,_,rfl,by rw[bF]; simp[mZ,OV.aF,V.aT],hK⟩)
theorem S.Concat(a b c:List Str)(n:Nat)(h0:0<a.length)(ha:a.length<2^20)(hb:b.length<2^20)(hc:c.length<2^20) :
  aK Tryz.prog 106 (V.aT [.xR 0 false [.row 0 false (.strs a),.row 0 false (.strs b),.row 0 false (.strs c)]]) no n (fun t hp=>t= .own n/\hp=Hz.aj [(n,some (.row 9 0 (.strs (a++b++c)) []))]):=by
 refine oV.of (nx:=0) (h0:=[]) Bd.iJ (by simp) ⟨_,_,rfl,rfl⟩ rfl rfl ?_
 conv=>whnf
 refine aP.times 4 rfl ?_
 conv=>whnf
 refine Fork.mk (fun _=>?_) (fun q=>absurd (q.symm.trans (rfl)) Bool.false_ne_true)
 conv=>whnf
 repeat(refine VC.mk (by first|(omega)|(simp only[okI] at *; omega)) ?_; conv=>whnf)
 refine Fork.mk (fun q=>absurd (q.symm.trans (decide_eq_false (by omega))).symm Bool.false_ne_true) (fun _=>?_)
 conv=>whnf
 refine .mk (by simp only[okI] at *; omega) ?_
 conv=>whnf
 refine Fork.mk (fun _=>?_) (fun q=>absurd (q.symm.trans (rfl)) Bool.false_ne_true)
 conv=>whnf
 repeat(refine VC.mk (by first|(omega)|(simp only[okI] at *; omega)) ?_; conv=>whnf)
 refine Fork.mk (fun q=>absurd (q.symm.trans (decide_eq_false (by omega))).symm Bool.false_ne_true) (fun _=>?_)
 conv=>whnf
 refine .mk (by simp only[okI] at *; omega) ?_
 conv=>whnf
 refine Fork.mk (fun _=>?_) (fun q=>absurd (q.symm.trans (rfl)) Bool.false_ne_true)
 conv=>whnf
 repeat(refine VC.mk (by first|(omega)|(simp only[okI] at *; omega)) ?_; conv=>whnf)
 refine Fork.mk (fun q=>absurd (q.symm.trans (decide_eq_false (by omega))).symm Bool.false_ne_true) (fun _=>?_)
 conv=>whnf
 refine .mk (by simp only[okI] at *; omega) ?_
 conv=>whnf
 refine Fork.mk (fun q=>absurd (q.symm.trans (rfl)).symm Bool.false_ne_true) (fun _=>?_)
 conv=>whnf
 have e:(0+(a.length:Int)+b.length+c.length)=((a.length+b.length+c.length:Nat):Int):=by omega
 rw[e]
 refine ah.mkRow (r:=.strs []) (S.Grow (a.length+b.length+c.length) (by omega) (by omega)) ?_
 conv=>whnf
 refine aP.times 4 rfl ?_
 conv=>whnf
 refine Fork.mk (fun _=>?_) (fun q=>absurd (q.symm.trans (rfl)) Bool.false_ne_true)
 conv=>whnf
 repeat(refine VC.mk (by first|(omega)|(simp only[mW,lS,Rw.len,List.length_nil]; omega)|(simp only[okI] at *; omega)) ?_; conv=>whnf)
 refine Fork.mk (fun _=>?_) (fun q=>absurd (q.symm.trans (rfl)) Bool.false_ne_true)
 conv=>whnf
 repeat(refine VC.mk (by first|(omega)|(simp only[mW,lS,Rw.len,List.length_append,List.length_nil]; omega)|(simp only[okI] at *; omega)) ?_; conv=>whnf)
 refine Fork.mk (fun _=>?_) (fun q=>absurd (q.symm.trans (rfl)) Bool.false_ne_true)
 conv=>whnf
 repeat(refine VC.mk (by first|(omega)|(simp only[mW,lS,Rw.len,List.length_append,List.length_nil]; omega)|(simp only[okI] at *; omega)) ?_; conv=>whnf)
 refine Fork.mk (fun q=>absurd (q.symm.trans (rfl)).symm Bool.false_ne_true) (fun _=>?_)
 conv=>whnf
 refine iC.one (c:=n) (o:=.row 9 0 (.strs (a++b++c)) []) (t:=.own n) rfl rfl rfl nofun (.inr rfl) rfl (.eq rfl) ⟨rfl,rfl⟩
theorem S.YM(a b c:List Str)(h0:0<a.length)(ha:a.length<2^20)(hb:b.length<2^20)(hc:c.length<2^20) :
  uy Tryz.prog 106 (V.aT [.xR 0 false [.row 0 false (.strs a),.row 0 false (.strs b),.row 0 false (.strs c)]]) (fun n=>.own n) (some ⟨9,0,(Rw.strs (a++b++c)).aT⟩):=by
 refine⟨rfl,fun _=>rfl,(fun ob h=>by cases h; rw[gU]; intro t ht; obtain⟨x,_,rfl⟩:=List.mem_map.1 ht; rfl),(fun ob h=>by cases h; exact fun e=>absurd e (by decide:(0:Nat)≠fC)),fun n=>(S.Concat a b c n h0 ha hb hc).mono ?_⟩
 rintro t hp ⟨rfl,rfl⟩
 refine⟨rfl,?_⟩
 rw[bF]; simp[mZ,OV.aF,V.aT]; rfl
theorem ah.JM{P:Program}{f:FuncId}{args:List V}{ts:List T}{h:Hz}{n ty k:Nat}{r:Rw}{K:V->Hz->Prop}{KW:Nat->V->Hz->Prop}(H:uy P f ts (fun n=>.own n) (some ⟨ty,k,r.aT⟩))(hs:T.dw (fun _=>True) h.aj ts (V.aT args))(hh:T.pU r.aT=true)(hK:K (.own n) ((n,some (.row ty k r []))::h)):ah P false none f args h n K KW :=
 ⟨.inl (uy.lend H hs rfl (fun _ e=>by cases e; exact hh) ⟨.own n,_,rfl,by rw[bF]; simp[mZ,OV.aF,V.aT],(fun e=>by cases e),hK⟩)⟩
theorem LW{h:Hz}{j ty:Nat}{Z:Nat->Prop}{l:List V}(hz:Z j)(q:h.get j=some (.row ty 0 .nil l))(hf:V.dB l=true):T.sub Z h.aj (V.xR 0 false l).aG (V.own j).aG:=by
 show T.sub Z h.aj (.sl 0 false (V.aT l)) (.own j)
 simp only[T.sub]
 exact⟨trivial,hz,V.gV l hf,by decide,ty,by rw[aH q]; rfl⟩
theorem Ui{l:List Str}:T.pU (Rw.strs l).aT=true:=by
 show T.pU (l.map eS)=true
 induction l with
 |nil=>rfl
 |cons s r ih=>simp only[List.map_cons,T.pU,ih]; rfl
theorem ab3{h:Hz}{j i ty:Nat}{Z:Nat->Prop}{l:List Str}(hz:Z j)(q:h.get j=some (.row ty 0 (.strs l) []))(hi:i<=l.length):T.sub Z h.aj (V.row 0 false (.strs (l.take i))).aG (V.qw j 0 i).aG:=by
 show T.sub Z h.aj (.sl 0 false ((l.take i).map eS)) (.qw j 0 i)
 simp only[T.sub]
 refine⟨trivial,hz,?_,by decide,ty,l.map eS,?_,by simpa using hi,by simp[List.map_take]⟩
 ·rw[gU]; intro t ht; obtain⟨x,_,rfl⟩:=List.mem_map.1 ht; rfl
 ·rw[aH q]; simp[OV.aF,Rw.aT,V.aT]
def allNames(p:aW):List Str:=p.states++p.messages++p.values
def KJ(l:List Str)(i:Nat):Bool:= !(validName (l.getD i []))||(l.take i).any fun x=>l.getD i []==x
def xH(p:aW):Int:=bif (List.range (allNames p).length).any (KJ (allNames p)) then 2 else 0
theorem Dp{n:Nat}{f:Nat->Bool}:(List.range n).any f=true↔ ∃ i,i<n/\f i=true:=by
 simp[List.any_eq_true]
theorem S.mG(p:aW)(h0:0<p.states.length)(h1:p.states.length<2^20)(h2:p.messages.length<2^20)(h3:p.values.length<2^20):ak Tryz.prog 79 [.dat (.dJ p)] (.int (xH p)):=by
 have hlen:(allNames p).length<2^30:=by simp only[allNames,List.length_append]; omega
 refine ak.of Bd.mG (by simp) rfl rfl ?_
 conv=>whnf
 refine ah.JM (r:=.strs (allNames p)) (S.YM p.states p.messages p.values h0 h1 h2 h3) (And.intro (LW (ty:=22) trivial rfl rfl) trivial) Ui ?_
 conv=>whnf
 refine aP.same [3,14,15] (fun i:Nat=>[(16,.int i)]) (fun i=>i<=(allNames p).length/\(List.range i).any (KJ (allNames p))=false) (fun i=>(allNames p).length-i) 0 rfl (by decide) rfl (fun _=>rfl) ⟨Nat.zero_le _,rfl⟩ ⟨⟨_,rfl,rfl⟩,trivial⟩ ?_
 conv=>whnf
 refine⟨rfl,?_⟩
 rintro i ⟨hi,hall⟩
 conv=>whnf
 refine⟨fun h4=>?_,fun h4=>?_⟩
 ·have hi':i<(allNames p).length:=by simpa using h4
  conv=>whnf
  repeat(refine VC.mk (by simp only[Rw.rng] at *; omega) ?_; conv=>whnf)
  refine ah.pure (S.fD ((allNames p).getD i [])) rfl ?_
  conv=>whnf
  repeat(refine VC.mk (by first|exact fun h=>⟨h,h⟩|(intro h; (repeat' apply And.intro)<;>first|exact h|omega|(simp only[Rw.lT]; omega)|(simp only[Rw.rng]; omega))) ?_; conv=>whnf)
  refine ah.P8 (fun _=>S.slices_Contains_string ((allNames p).take i) ((allNames p).getD i []) false (by rw[List.length_take]; omega)) (fun _=>And.intro (ab3 (ty:=9) trivial rfl (by omega)) (And.intro (aC _) trivial)) rfl rfl ?_
  conv=>whnf
  refine .mk (by intro h; rw[h]; rfl) ?_
  conv=>whnf
  refine⟨fun h5=>?_,fun h5=>?_⟩
  ·conv=>whnf
   refine au.int ?_
   rw[xH,Dp.2 ⟨i,hi',h5⟩]; rfl
  ·conv=>whnf
   refine .mk (by simp only[okI] at *; omega) ?_
   conv=>whnf
   refine⟨i+1,⟨by omega,?_⟩,by omega,⟨⟨_,rfl,rfl⟩,trivial⟩,?_,rfl⟩
   ·rw[List.range_succ,List.any_append,hall]
    simp only[List.any_cons,List.any_nil,Bool.or_false,Bool.false_or]; exact h5
   ·repeat' (first|exact trivial|exact⟨_,rfl,rfl⟩|constructor)
 ·have hi':(allNames p).length<=i:=by simpa using h4
  have e:i=(allNames p).length:=Nat.le_antisymm hi hi'
  subst e
  conv=>whnf
  exact au.int (by rw[xH,hall]; rfl)
theorem ah.ab4{P:Program}{f:FuncId}{args:List V}{h:Hz}{hp0:Hp}{n:Nat}{K:V->Hz->Prop}{KW:Nat->V->Hz->Prop}{post:T->Hp->Prop}(S:aK P f (V.aT args) hp0 n post)(e:h.aj=hp0)(hK: ∀ t hp,post t hp-> ∃ v h',t=v.aG/\hp=Hz.aj h'/\K v h'):ah P false none f args h n K KW:=by
 subst e; exact ah.heap S hK
theorem NU{i:Nat}{a b:Option OV}{r:Hz}:Hz.aj ((i,a)::(i,b)::r)=Hz.aj ((i,a)::r):=funext fun j=>by
 simp only[Hz.aj,Hz.get]; cases Nat.beq i j<;>rfl
structure dD(p:aW):Prop where
 states:p.states.length<2^20
 messages:p.messages.length<2^20
 values:p.values.length<2^20
 bT:p.bT.length<2^30
 initial:p.initial.length<2^30
 leader:p.leader.length<2^30
 rules:p.rules.length<2^30
 rule: ∀ i,uT (p.rules.getD i default)
 pz:(p.rules.flatMap Rule.guards).length<2^30
def pK(p:aW)(i:Nat):Bool:= !(validName (p.rules.getD i default).name)||(p.rules.take i).any fun x=>x.name==(p.rules.getD i default).name
def oK(p:aW)(i:Nat):Bool:= !(rO (p.rules.getD i default).kind p.topology)||jP (p.rules.getD i default) p.topology
def uh(p:aW)(r:Rule):Int:=aQ [bU r.fr p.states.length,bU r.to p.states.length]
def WL(p:aW)(r:Rule):Bool:=decide (r.pos<0)||decide (r.pos>2)||(r.pos !=0&&p.topology==3)
def fO(p:aW)(i:Nat):Int :=
 let r:=p.rules.getD i default
 let n:Int:=p.states.length
 bif pK p i then 2 else bif oK p i then 6 else bif uh p r !=0 then uh p r else
 bif r.kind==1 then aQ [uS p r.guards,dR r.ex n,dR r.all n,jd p r.read,jd p r.write,dR r.send p.messages.length] else
 bif r.kind==2 then aQ [bU r.iQ n,bU r.BA n,jd p r.read,jd p r.write] else
 bif r.kind==3 then aQ [BG r.response n,jd p r.read,jd p r.write] else
 bif r.kind==4 then aQ [dR r.left n,dR r.right n,dR r.parent n,dX (WL p r) 1] else
 bif p.topology==4 then aQ [bU r.iQ n,bU r.BA n,dX (decide (r.direction<3)||decide (r.direction>4)) 1]
 else aQ [bU r.iQ n,bU r.BA n,dX (decide (r.direction<1)||decide (r.direction>2)) 1]
theorem S.jq(p:aW)(i:Nat)(hi:i<p.rules.length)(hp:dD p):ak Tryz.prog 84 [.dat (.dJ p),.int i] (.int (fO p i)):=by
 have hr:=hp.rule i
 have hp1:=hp.rules
 have hp2:=hp.states
 have hp3:=hp.messages
 refine ak.of Bd.jq (by simp) rfl rfl ?_
 conv=>whnf
 repeat(refine VC.mk (by first|(simp only[Rw.lT]; omega)|(simp only[Rw.rng] at *; omega)) ?_; conv=>whnf)
 refine ah.ab4 (S.KP p (p.rules.getD i default) (p.rules.take i) false (by rw[List.length_take]; omega) _) NU ?_
 rintro t hp' ⟨rfl,rfl⟩
 refine⟨.bool _,YL p (p.rules.getD i default),rfl,rfl,?_⟩
 conv=>whnf
 refine ah.pure (S.fD (p.rules.getD i default).name) rfl ?_
 conv=>whnf
 refine .mk (by intro h; rw[h]; rfl) ?_
 conv=>whnf
 refine⟨fun h1=>?_,fun h1=>?_⟩
 ·conv=>whnf
  exact au.int (by rw[fO,show pK p i=true from h1]; rfl)
 ·conv=>whnf
  refine ah.pure (S.nJ (p.rules.getD i default).kind p.topology) rfl ?_
  conv=>whnf
  repeat(refine VC.mk (by first|exact id|exact fun h=>⟨h,h⟩) ?_; conv=>whnf)
  refine ah.fJ (fun _=>S.kL (p.rules.getD i default) p.topology hr) rfl ?_
  conv=>whnf
  refine .mk (by intro h; rw[h]; rfl) ?_
  conv=>whnf
  refine⟨fun h2=>?_,fun h2=>?_⟩
  ·conv=>whnf
   exact au.int (by rw[fO,show pK p i=false from h1,show oK p i=true from h2]; rfl)
  ·conv=>whnf
   refine ah.pure (S.bQ (p.rules.getD i default).fr p.states.length) rfl ?_
   conv=>whnf
   refine ah.pure (S.bQ (p.rules.getD i default).to p.states.length) rfl ?_
   conv=>whnf
   refine ah.pure (S.bK [bU (p.rules.getD i default).fr p.states.length,bU (p.rules.getD i default).to p.states.length] true (show 2<2^40 by decide)) rfl ?_
   conv=>whnf
   refine⟨fun h3=>?_,fun h3=>?_⟩
   ·conv=>whnf
    exact au.int (by rw[fO,show pK p i=false from h1,show oK p i=false from h2,show(uh p (p.rules.getD i default) !=0)=true from h3]; rfl)
   ·conv=>whnf
    refine⟨fun h4=>?_,fun h4=>?_⟩
    ·conv=>whnf
     refine ah.pure (S.lF p (p.rules.getD i default).guards false (by have:=hr.guards; omega)) rfl ?_
     conv=>whnf
     refine ah.pure (S.dK (p.rules.getD i default).ex p.states.length false (by have:=hr.ex; omega)) rfl ?_
     conv=>whnf
     refine ah.pure (S.dK (p.rules.getD i default).all p.states.length false (by have:=hr.all; omega)) rfl ?_
     conv=>whnf
     refine ah.pure (S.fA p (p.rules.getD i default).read) rfl ?_
     conv=>whnf
     refine ah.pure (S.fA p (p.rules.getD i default).write) rfl ?_
     conv=>whnf
     refine ah.pure (S.dK (p.rules.getD i default).send p.messages.length false (by have:=hr.send; omega)) rfl ?_
     conv=>whnf
     refine ah.pure (S.bK [uS p (p.rules.getD i default).guards,dR (p.rules.getD i default).ex p.states.length,dR (p.rules.getD i default).all p.states.length,jd p (p.rules.getD i default).read,jd p (p.rules.getD i default).write,dR (p.rules.getD i default).send p.messages.length] true (show 6<2^40 by decide)) rfl ?_
     conv=>whnf
     exact au.int (by rw[fO,show pK p i=false from h1,show oK p i=false from h2,show(uh p (p.rules.getD i default) !=0)=false from h3,h4]; rfl)
    ·conv=>whnf
     refine⟨fun h5=>?_,fun h5=>?_⟩
     ·conv=>whnf
      refine ah.pure (S.bQ (p.rules.getD i default).iQ p.states.length) rfl ?_
      conv=>whnf
      refine ah.pure (S.bQ (p.rules.getD i default).BA p.states.length) rfl ?_
      conv=>whnf
      refine ah.pure (S.fA p (p.rules.getD i default).read) rfl ?_
      conv=>whnf
      refine ah.pure (S.fA p (p.rules.getD i default).write) rfl ?_
      conv=>whnf
      refine ah.pure (S.bK [bU (p.rules.getD i default).iQ p.states.length,bU (p.rules.getD i default).BA p.states.length,jd p (p.rules.getD i default).read,jd p (p.rules.getD i default).write] true (show 4<2^40 by decide)) rfl ?_
      conv=>whnf
      exact au.int (by rw[fO,show pK p i=false from h1,show oK p i=false from h2,show(uh p (p.rules.getD i default) !=0)=false from h3,h4,h5]; rfl)
     ·conv=>whnf
      refine⟨fun h6=>?_,fun h6=>?_⟩
      ·conv=>whnf
       refine ah.pure (S.jr (p.rules.getD i default).response p.states.length false (by have:=hr.response; omega)) rfl ?_
       conv=>whnf
       refine ah.pure (S.fA p (p.rules.getD i default).read) rfl ?_
       conv=>whnf
       refine ah.pure (S.fA p (p.rules.getD i default).write) rfl ?_
       conv=>whnf
       refine ah.pure (S.bK [BG (p.rules.getD i default).response p.states.length,jd p (p.rules.getD i default).read,jd p (p.rules.getD i default).write] true (show 3<2^40 by decide)) rfl ?_
       conv=>whnf
       exact au.int (by rw[fO,show pK p i=false from h1,show oK p i=false from h2,show(uh p (p.rules.getD i default) !=0)=false from h3,h4,h5,h6]; rfl)
      ·conv=>whnf
       refine⟨fun h7=>?_,fun h7=>?_⟩
       ·conv=>whnf
        repeat(refine VC.mk (by first|exact id|(intro h; rw[h]; rfl)|(intro h; simp_all; done)) ?_; conv=>whnf)
        refine ah.pure (S.dK (p.rules.getD i default).left p.states.length false (by have:=hr.left; omega)) rfl ?_
        conv=>whnf
        refine ah.pure (S.dK (p.rules.getD i default).right p.states.length false (by have:=hr.right; omega)) rfl ?_
        conv=>whnf
        refine ah.pure (S.dK (p.rules.getD i default).parent p.states.length false (by have:=hr.parent; omega)) rfl ?_
        conv=>whnf
        refine ah.pure (S.bM (WL p (p.rules.getD i default)) 1) rfl ?_
        conv=>whnf
        refine ah.pure (S.bK [dR (p.rules.getD i default).left p.states.length,dR (p.rules.getD i default).right p.states.length,dR (p.rules.getD i default).parent p.states.length,dX (WL p (p.rules.getD i default)) 1] true (show 4<2^40 by decide)) rfl ?_
        conv=>whnf
        exact au.int (by rw[fO,show pK p i=false from h1,show oK p i=false from h2,show(uh p (p.rules.getD i default) !=0)=false from h3,h4,h5,h6,h7]; rfl)
       ·conv=>whnf
        refine⟨fun h8=>?_,fun h8=>?_⟩
        ·conv=>whnf
         refine ah.pure (S.bQ (p.rules.getD i default).iQ p.states.length) rfl ?_
         conv=>whnf
         refine ah.pure (S.bQ (p.rules.getD i default).BA p.states.length) rfl ?_
         conv=>whnf
         repeat(refine VC.mk (by first|exact id|exact fun h=>⟨h,h⟩|(intro h; rw[h]; rfl)) ?_; conv=>whnf)
         refine ah.pure (S.bM (decide ((p.rules.getD i default).direction<3)||decide ((p.rules.getD i default).direction>4)) 1) rfl ?_
         conv=>whnf
         refine ah.pure (S.bK [bU (p.rules.getD i default).iQ p.states.length,bU (p.rules.getD i default).BA p.states.length,dX (decide ((p.rules.getD i default).direction<3)||decide ((p.rules.getD i default).direction>4)) 1] true (show 3<2^40 by decide)) rfl ?_
         conv=>whnf
         exact au.int (by rw[fO,show pK p i=false from h1,show oK p i=false from h2,show(uh p (p.rules.getD i default) !=0)=false from h3,h4,h5,h6,h7,h8]; rfl)
        ·conv=>whnf
         refine ah.pure (S.bQ (p.rules.getD i default).iQ p.states.length) rfl ?_
         conv=>whnf
         refine ah.pure (S.bQ (p.rules.getD i default).BA p.states.length) rfl ?_
         conv=>whnf
         repeat(refine VC.mk (by first|exact id|exact fun h=>⟨h,h⟩|(intro h; rw[h]; rfl)) ?_; conv=>whnf)
         refine ah.pure (S.bM (decide ((p.rules.getD i default).direction<1)||decide ((p.rules.getD i default).direction>2)) 1) rfl ?_
         conv=>whnf
         refine ah.pure (S.bK [bU (p.rules.getD i default).iQ p.states.length,bU (p.rules.getD i default).BA p.states.length,dX (decide ((p.rules.getD i default).direction<1)||decide ((p.rules.getD i default).direction>2)) 1] true (show 3<2^40 by decide)) rfl ?_
         conv=>whnf
         exact au.int (by rw[fO,show pK p i=false from h1,show oK p i=false from h2,show(uh p (p.rules.getD i default) !=0)=false from h3,h4,h5,h6,h7,h8]; rfl)
def uQ(g:xY):List xY->Nat->Int
 |[],_=> -1
 |x::r,i=>bif g==x then(i:Int) else uQ g r (i+1)
theorem NI{g:xY}{l:List xY}{i:Nat}:decide (0<=uQ g l i)=l.any fun x=>g==x:=by
 have: ∀ {l:List xY} {i:Nat},0<=uQ g l i↔(l.any fun x=>g==x)=true:=by
  intro l
  induction l with
  |nil=>intro i; simp[uQ]
  |cons x r ih =>
   intro i
   rw[List.any_cons,Bool.or_eq_true,<- ih (i:=i+1)]
   show(0:Int)<=(bif g==x then(i:Int) else uQ g r (i+1))↔_
   generalize (g==x)=b
   cases b<;>simp
 rw[Bool.eq_iff_iff,decide_eq_true_eq]; exact this
theorem S.W9(l:List xY)(g:xY)(f:Bool)(hl:l.length<2^40):ak Tryz.prog 134 [.row 7 f (.pz l),.dat (.Pv g)] (.int (uQ g l 0)):=by
 refine ak.of Bd.dQ (by simp) rfl rfl ?_
 conv=>whnf
 refine aP.same [0,3,6,7] (fun i:Nat=>[(8,.int i)]) (fun i=>i<=l.length/\uQ g l 0=uQ g (l.drop i) i) (fun i=>l.length-i) 0 rfl (by decide) rfl (fun _=>rfl) ⟨by omega,by simp⟩ ⟨⟨_,rfl,rfl⟩,trivial⟩ ?_
 conv=>whnf
 refine⟨rfl,?_⟩
 rintro i ⟨hi,hall⟩
 conv=>whnf
 refine⟨fun h3=>?_,fun h3=>?_⟩
 ·have hi':i<l.length:=by simpa using h3
  rw[bC default hi'] at hall
  simp only[uQ] at hall
  conv=>whnf
  refine .mk (by simp only[Rw.rng] at *; first|omega|(simp_all; done)|(simp_all; omega)) ?_
  conv=>whnf
  refine⟨fun h4=>?_,fun h4=>?_⟩
  ·conv=>whnf
   refine au.int ?_
   have h4':(g==l.getD i default)=true:=h4
   rw[hall,h4']; rfl
  ·conv=>whnf
   refine .mk (by simp only[okI] at *; first|omega|(simp_all; done)|(simp_all; omega)) ?_
   conv=>whnf
   refine⟨i+1,⟨by omega,?_⟩,by omega,⟨⟨_,rfl,rfl⟩,trivial⟩,?_,rfl⟩
   ·have h4':(g==l.getD i default)=false:=h4
    rw[hall,h4']; rfl
   ·repeat' (first|exact trivial|exact⟨_,rfl,rfl⟩|constructor)
 ·conv=>whnf
  refine au.int ?_
  have hi':l.length<=i:=by simpa using h3
  rw[hall,List.drop_eq_nil_of_le hi']; rfl
theorem S.NV(l:List xY)(g:xY)(f:Bool)(hl:l.length<2^40):ak Tryz.prog 117 [.row 7 f (.pz l),.dat (.Pv g)] (.bool (l.any fun x=>g==x)):=by
 refine ak.of Bd.dG (by simp) rfl rfl ?_
 conv=>whnf
 refine ah.pure (S.W9 l g f hl) rfl ?_
 conv=>whnf
 exact au.bool NI.symm
theorem WH{h:Hz}{j:Nat}{Z:Nat->Prop}{l:List xY}(hz:Z j)(q:h.get j=some (.row 161 7 (.pz l) [])):T.sub Z h.aj (V.row 7 false (.pz l)).aG (V.own j).aG:=by
 show T.sub Z h.aj (.sl 7 false (l.map MX)) (.own j)
 simp only[T.sub]
 refine⟨trivial,hz,?_,by decide,161,?_⟩
 ·rw[gU]; intro t ht; obtain⟨x,_,rfl⟩:=List.mem_map.1 ht; rfl
 ·have:=aH q
  rw[this]; simp[OV.aF,Rw.aT,V.aT]
theorem yT{α β:Type}{f:β->α->β}{b:β}{l:List α}{i:Nat}{d:α}(h:i<l.length):(l.take (i+1)).foldl f b=f ((l.take i).foldl f b) (l.getD i d):=by
 rw[List.take_add_one,List.foldl_append]
 simp[List.getElem?_eq_getElem h]
theorem au.ab1{h:Hz}{j:Nat}{l:List xY}(q:h.get j=some (.row 161 7 (.pz l) [])):au (.row 7 false (.pz l)) (.own j) h:=⟨WH trivial q⟩
def EP(acc:List xY)(g:xY):List xY:=bif acc.any (fun x=>g==x) then acc else acc++[g]
def wI(l:List Rule):List xY:=(l.flatMap Rule.guards).foldl EP []
theorem Xa{acc:List xY}{g:xY}:(EP acc g).length<=acc.length+1:=by
 unfold EP; cases acc.any (fun x=>g==x)<;>simp
theorem NW: ∀ {l acc:List xY},(l.foldl EP acc).length<=acc.length+l.length:=by
 intro l
 induction l with
 |nil=>intro acc; simp
 |cons g r ih =>
  intro acc
  have:=ih (acc:=EP acc g)
  have h2:=Xa (acc:=acc) (g:=g)
  simp only[List.foldl_cons,List.length_cons]; omega
abbrev rowT(l:List xY):OV:=.row 161 7 (.pz l) []
def wJ(p:aW)(i k:Nat):List xY:=((p.rules.getD i default).guards.take k).foldl EP (wI (p.rules.take i))
theorem NJ(p:aW)(hp:dD p)(i k:Nat)(_hi:i<p.rules.length):(wJ p i k).length<2^31:=by
 have h1:=NW (l:=(p.rules.getD i default).guards.take k) (acc:=wI (p.rules.take i))
 have h2:=NW (l:=(p.rules.take i).flatMap Rule.guards) (acc:=[])
 have h3:=(hp.rule i).guards
 have h4:((p.rules.take i).flatMap Rule.guards).length<=(p.rules.flatMap Rule.guards).length:=by
  conv=>rhs; rw[<- List.take_append_drop i p.rules,List.flatMap_append,List.length_append]
  omega
 have h5:=hp.pz
 have h6:((p.rules.getD i default).guards.take k).length<=(p.rules.getD i default).guards.length:=by simp[List.length_take]; omega
 unfold wJ
 unfold wI at h1 ⊢
 simp only[List.length_nil,Nat.zero_add] at h2
 omega
theorem JB(p:aW){i:Nat}(hi:i<p.rules.length):wI (p.rules.take (i+1))=wJ p i (p.rules.getD i default).guards.length:=by
 unfold wJ
 rw[List.take_of_length_le (Nat.le_refl _)]
 unfold wI
 rw[List.take_add_one,List.flatMap_append,List.foldl_append]
 simp[List.getElem?_eq_getElem hi]
theorem S.iL(p:aW)(hp:dD p):ak Tryz.prog 85 [.dat (.dJ p)] (.row 7 false (.pz (wI p.rules))):=by
 have hp1:=hp.rules
 refine ak.of Bd.iL (by simp) rfl rfl ?_
 conv=>whnf
 refine aP.nil 3 161 7 (by rfl) rfl rfl rfl ?_
 refine aP.objs 1 [9,10] (fun i:Nat=>[(11,.int i),(3,.own 0)]) (fun i=>[(0,rowT (wI (p.rules.take i)))]) (fun i=>i<=p.rules.length) (fun i=>p.rules.length-i) 0 [7] rfl (by decide) (fun _=>rfl) (Nat.zero_le _) ?_ ?_ ?_
 ·exact⟨⟨_,rfl,.eq rfl⟩,⟨_,rfl,.eq rfl⟩,trivial⟩
 ·exact⟨⟨rfl,nofun,rfl,rfl,rfl,_,rfl,rfl,rfl,bg.of_eq rfl⟩,trivial⟩
 conv=>whnf
 refine⟨⟨⟨_,rfl,.eq rfl⟩,⟨_,rfl,.eq rfl⟩,trivial⟩,rfl,?_⟩
 rintro i hi
 conv=>whnf
 refine⟨fun h3=>?_,fun h3=>?_⟩
 ·have hi':i<p.rules.length:=by simpa using h3
  conv=>whnf
  refine .mk (by simp only[Rw.rng] at *; first|omega|(simp_all; done)|(simp_all; omega)) ?_
  conv=>whnf
  refine aP.objs 1 [9,10,11,16,17] (fun k:Nat=>[(18,.int k),(3,.own 0)]) (fun k=>[(0,rowT (wJ p i k))]) (fun k=>k<=(p.rules.getD i default).guards.length) (fun k=>(p.rules.getD i default).guards.length-k) 0 [0] rfl (by decide) (fun _=>rfl) (Nat.zero_le _) ?_ ?_ ?_
  ·exact⟨⟨_,rfl,.eq rfl⟩,⟨_,rfl,.eq rfl⟩,trivial⟩
  ·exact⟨⟨rfl,nofun,rfl,rfl,rfl,_,rfl,rfl,rfl,bg.of_eq rfl⟩,trivial⟩
  conv=>whnf
  refine⟨⟨⟨_,rfl,.eq rfl⟩,⟨_,rfl,.eq rfl⟩,⟨_,rfl,.eq rfl⟩,⟨_,rfl,.eq rfl⟩,⟨_,rfl,.eq rfl⟩,trivial⟩,rfl,?_⟩
  rintro k hk
  have hacc:=NJ p hp i k hi'
  have hg:=(hp.rule i).guards
  conv=>whnf
  refine⟨fun h4=>?_,fun h4=>?_⟩
  ·have hk':k<(p.rules.getD i default).guards.length:=by simpa using h4
   have hst:wJ p i (k+1)=EP (wJ p i k) ((p.rules.getD i default).guards.getD k default):=yT hk'
   conv=>whnf
   refine .mk (by simp only[Rw.rng] at *; first|omega|(simp_all; done)|(simp_all; omega)) ?_
   conv=>whnf
   refine ah.lend (S.NV (wJ p i k) ((p.rules.getD i default).guards.getD k default) false (by omega)) (And.intro (WH trivial rfl) (And.intro (aC _) trivial)) rfl rfl ?_
   conv=>whnf
   refine⟨fun h5=>?_,fun h5=>?_⟩
   ·conv=>whnf
    repeat(refine VC.mk (by first|(show((wJ p i k).length+(0+1))*48<=140737488355328/\(wJ p i k).length+(0+1)<=1152921504606846976; omega)|(simp only[okI] at *; first|omega|(simp_all; done)|(simp_all; omega))) ?_; conv=>whnf)
    have h5':((wJ p i k).any fun x=>(p.rules.getD i default).guards.getD k default==x)=false:=by simpa using h5
    refine⟨k+1,[13],by omega,by omega,⟨⟨_,rfl,.eq rfl⟩,⟨_,rfl,.eq rfl⟩,trivial⟩,⟨⟨_,rfl,.eq rfl⟩,⟨_,rfl,.eq rfl⟩,⟨_,rfl,.eq rfl⟩,⟨_,rfl,.eq rfl⟩,⟨_,rfl,.eq rfl⟩,trivial⟩,⟨rfl,nofun,rfl,rfl,rfl,_,rfl,rfl,rfl,bg.of_eq ?_⟩,trivial⟩
    rw[hst,EP,h5']
    rfl
   ·conv=>whnf
    refine .mk (by simp only[okI] at *; first|omega|(simp_all; done)|(simp_all; omega)) ?_
    conv=>whnf
    have h5':((wJ p i k).any fun x=>(p.rules.getD i default).guards.getD k default==x)=true:=by simpa using h5
    refine⟨k+1,[0],by omega,by omega,⟨⟨_,rfl,.eq rfl⟩,⟨_,rfl,.eq rfl⟩,trivial⟩,⟨⟨_,rfl,.eq rfl⟩,⟨_,rfl,.eq rfl⟩,⟨_,rfl,.eq rfl⟩,⟨_,rfl,.eq rfl⟩,⟨_,rfl,.eq rfl⟩,trivial⟩,⟨rfl,nofun,rfl,rfl,rfl,_,rfl,rfl,rfl,bg.of_eq ?_⟩,trivial⟩
    rw[hst,EP,h5']; rfl
  ·have hk':(p.rules.getD i default).guards.length<=k:=by simpa using h4
   have e:k=(p.rules.getD i default).guards.length:=Nat.le_antisymm hk hk'
   subst e
   conv=>whnf
   refine .mk (by simp only[okI] at *; first|omega|(simp_all; done)|(simp_all; omega)) ?_
   conv=>whnf
   refine⟨i+1,[0],by omega,by omega,⟨⟨_,rfl,.eq rfl⟩,⟨_,rfl,.eq rfl⟩,trivial⟩,⟨⟨_,rfl,.eq rfl⟩,⟨_,rfl,.eq rfl⟩,trivial⟩,⟨rfl,nofun,rfl,rfl,rfl,_,rfl,rfl,rfl,bg.of_eq ?_⟩,trivial⟩
   rw[JB p hi']
 ·have hi':p.rules.length<=i:=by simpa using h3
  rw[List.take_of_length_le hi']
  conv=>whnf
  exact au.ab1 rfl
def rM(p:aW):Bool:=decide (p.topology<1)||decide (p.topology>4)||decide (p.fault<0)||decide (p.fault>3)
def sV(p:aW):Bool:=decide ((p.states.length:Int)>6)||decide ((p.messages.length:Int)>3)||decide ((p.values.length:Int)>3)||decide ((p.bT.length:Int)>4)||decide ((p.rules.length:Int)>8)
def NK(p:aW):Bool:=(!(p.topology==1)&&(decide ((p.messages.length:Int)>0)||decide ((p.values.length:Int)>0)||decide ((p.bT.length:Int)>0)||p.fault !=0))||((p.topology==1)&&decide ((p.leader.length:Int)>0))
def vH(p:aW):Int:=aQ [dR p.initial p.states.length,dX ((p.initial.length:Int)==0) 1,dR p.leader p.states.length]
def Ah(p:aW):Int:=aQ ((List.range p.rules.length).map (fO p))
def cO(p:aW):Int :=
 bif !(validName p.name) then 2 else bif rM p then 1 else bif (p.states.length:Int)==0 then 1 else bif sV p then 4 else
 bif xH p !=0 then xH p else bif NK p then 1 else
 bif p.bT.any (fun l=> !(NC l)) then 4 else
 bif vH p !=0 then vH p else
 bif Ah p !=0 then Ah p else dX (decide (((wI p.rules).length:Int)>3)) 4
theorem Hu{n i:Nat}{f:Nat->Int}(h:i<n):((List.range n).drop i).map f=f i::((List.range n).drop (i+1)).map f:=by
 rw[List.drop_eq_getElem_cons (by simpa using h)]; simp
theorem S.iD(p:aW)(hp:dD p):ak Tryz.prog 61 [.dat (.dJ p)] (.int (cO p)):=by
 have g1:=hp.states; have g2:=hp.messages; have g3:=hp.values; have g4:=hp.bT; have g5:=hp.initial; have g6:=hp.leader; have g7:=hp.rules
 refine ak.of Bd.iD (by simp) rfl rfl ?_
 conv=>whnf
 refine ah.pure (S.fD p.name) rfl ?_
 conv=>whnf
 refine⟨fun h1=>?_,fun h1=>?_⟩
 ·conv=>whnf
  exact au.int (by rw[cO,h1]; rfl)
 conv=>whnf
 repeat(refine VC.mk (by first|exact id|(intro h; rw[h]; rfl)) ?_; conv=>whnf)
 refine⟨fun h2=>?_,fun h2=>?_⟩
 ·conv=>whnf
  exact au.int (by rw[cO,h1,show rM p=true from h2]; rfl)
 conv=>whnf
 refine⟨fun h3=>?_,fun h3=>?_⟩
 ·conv=>whnf
  exact au.int (by rw[cO,h1,show rM p=false from h2,h3]; rfl)
 conv=>whnf
 repeat(refine VC.mk (by first|exact id|(intro h; rw[h]; rfl)) ?_; conv=>whnf)
 refine⟨fun h4=>?_,fun h4=>?_⟩
 ·conv=>whnf
  exact au.int (by rw[cO,h1,show rM p=false from h2,h3,show sV p=true from h4]; rfl)
 conv=>whnf
 have h0:0<p.states.length:=by
  rcases Nat.eq_zero_or_pos p.states.length with e|e
  ·rw[e] at h3; exact absurd h3 (by decide)
  ·exact e
 refine ah.pure (S.mG p h0 g1 g2 g3) rfl ?_
 conv=>whnf
 refine⟨fun h5=>?_,fun h5=>?_⟩
 ·conv=>whnf
  exact au.int (by rw[cO,h1,show rM p=false from h2,h3,show sV p=false from h4,h5]; rfl)
 conv=>whnf
 repeat(refine VC.mk (by first|exact id|(intro h; rw[h]; rfl)|(intro h; simp_all; done)) ?_; conv=>whnf)
 refine⟨fun h6=>?_,fun h6=>?_⟩
 ·conv=>whnf
  exact au.int (by rw[cO,h1,show rM p=false from h2,h3,show sV p=false from h4,h5,show NK p=true from h6]; rfl)
 conv=>whnf
 refine aP.same [1,4,111,112] (fun i:Nat=>[(113,.int i)]) (fun i=>i<=p.bT.length/\(p.bT.take i).any (fun l=> !(NC l))=false) (fun i=>p.bT.length-i) 0 rfl (by decide) rfl (fun _=>rfl) ⟨by omega,by simp⟩ ⟨⟨_,rfl,rfl⟩,trivial⟩ ?_
 conv=>whnf
 refine⟨rfl,?_⟩
 rintro i ⟨hi,hall⟩
 conv=>whnf
 refine⟨fun h7=>?_,fun h7=>?_⟩
 ·have hi':i<p.bT.length:=by simpa using h7
  conv=>whnf
  refine .mk (by simp only[Rw.rng] at *; omega) ?_
  conv=>whnf
  refine ah.pure (S.iY (p.bT.getD i default)) rfl ?_
  conv=>whnf
  refine⟨fun h8=>?_,fun h8=>?_⟩
  ·conv=>whnf
   exact au.int (by rw[cO,h1,show rM p=false from h2,h3,show sV p=false from h4,h5,show NK p=false from h6,je (d:=default) hi' h8]; rfl)
  ·conv=>whnf
   refine .mk (by simp only[okI] at *; omega) ?_
   conv=>whnf
   refine⟨i+1,⟨by omega,?_⟩,by omega,⟨⟨_,rfl,rfl⟩,trivial⟩,?_,rfl⟩
   ·rw[kY (d:=default) hi' hall]; exact h8
   ·repeat' (first|exact trivial|exact⟨_,rfl,rfl⟩|constructor)
 have hi':p.bT.length<=i:=by simpa using h7
 rw[List.take_of_length_le hi'] at hall
 conv=>whnf
 refine ah.pure (S.dK p.initial p.states.length false (by omega)) rfl ?_
 conv=>whnf
 refine ah.pure (S.bM ((p.initial.length:Int)==0) 1) rfl ?_
 conv=>whnf
 refine ah.pure (S.dK p.leader p.states.length false (by omega)) rfl ?_
 conv=>whnf
 refine ah.pure (S.bK [dR p.initial p.states.length,dX ((p.initial.length:Int)==0) 1,dR p.leader p.states.length] true (show 3<2^40 by decide)) rfl ?_
 conv=>whnf
 refine⟨fun h9=>?_,fun h9=>?_⟩
 ·conv=>whnf
  exact au.int (by rw[cO,h1,show rM p=false from h2,h3,show sV p=false from h4,h5,show NK p=false from h6,hall,show(vH p !=0)=true from h9]; rfl)
 conv=>whnf
 refine aP.same [1,140,141] (fun i:Nat=>[(142,.int i)]) (fun i=>i<=p.rules.length/\Ah p=aQ (((List.range p.rules.length).drop i).map (fO p))) (fun i=>p.rules.length-i) 0 rfl (by decide) rfl (fun _=>rfl) ⟨by omega,by simp[Ah]⟩ ⟨⟨_,rfl,rfl⟩,trivial⟩ ?_
 conv=>whnf
 refine⟨rfl,?_⟩
 rintro i ⟨hi,hr⟩
 conv=>whnf
 refine⟨fun h10=>?_,fun h10=>?_⟩
 ·have hi':i<p.rules.length:=by simpa using h10
  rw[Hu hi'] at hr
  simp only[aQ] at hr
  conv=>whnf
  refine ah.pure (S.jq p i hi' hp) rfl ?_
  conv=>whnf
  refine⟨fun h11=>?_,fun h11=>?_⟩
  ·conv=>whnf
   have aa1:fO p i≠0:=IX h11
   rw[if_neg aa1] at hr
   exact au.int (by rw[cO,h1,show rM p=false from h2,h3,show sV p=false from h4,h5,show NK p=false from h6,hall,show(vH p !=0)=false from h9,hr,h11]; rfl)
  ·conv=>whnf
   refine .mk (by simp only[okI] at *; omega) ?_
   conv=>whnf
   have aa1:fO p i=0:=xI h11
   rw[if_pos aa1] at hr
   refine⟨i+1,⟨by omega,hr⟩,by omega,⟨⟨_,rfl,rfl⟩,trivial⟩,?_,rfl⟩
   repeat' (first|exact trivial|exact⟨_,rfl,rfl⟩|constructor)
 have hi':p.rules.length<=i:=by simpa using h10
 rw[List.drop_eq_nil_of_le (by simpa using hi')] at hr
 conv=>whnf
 refine ah.pure (S.iL p hp) rfl ?_
 conv=>whnf
 refine ah.pure (S.bM (decide (((wI p.rules).length:Int)>3)) 4) rfl ?_
 conv=>whnf
 exact au.int (by rw[cO,h1,show rM p=false from h2,h3,show sV p=false from h4,h5,show NK p=false from h6,hall,show(vH p !=0)=false from h9,hr]; rfl)
theorem au.eqv{a b:V}{h:Hz}(e:a.aG=b.aG):au a b h:=⟨by rw[e]; exact aC _⟩
def NP(acc:Bool)(r:Rule):Bool:=acc&&(r.kind==1)&&decide (r.fr<r.to)&&((r.ex.length:Int)==0)&&((r.all.length:Int)==0)
def Ud(acc:Bool)(r:Rule):Bool:=acc||decide ((r.all.length:Int)>0)
def rF(p:aW):Bool:=(p.topology==1)&&(p.fault==0)&&((p.messages.length:Int)==0)&&((p.bT.length:Int)==0)
structure Cls where
 Pv:Bool
 cover:Bool
 word:Bool
 tree:Bool
 monadic:Bool
def jJ(p:aW):Cls :=
 ⟨(p.topology==1)&&((p.values.length:Int)==0)&&p.rules.foldl NP true,rF p&& !(p.rules.foldl Ud false),(p.topology==2)||(p.topology==3),p.topology==4,rF p&&decide ((p.states.length:Int)<=4)⟩
def ab2(c:Cls):V:=.agg [.bool c.Pv,.bool c.cover,.bool c.word,.bool c.tree,.bool c.monadic]
def IW:Cls:=⟨false,false,false,false,false⟩
def Ee(p:aW):V:=.gQ [ab2 (bif cO p !=0 then IW else jJ p),.int (cO p)]
theorem S.jK(p:aW)(hp:dD p):ak Tryz.prog 37 [.dat (.dJ p)] (Ee p):=by
 have g1:=hp.states; have g2:=hp.messages; have g3:=hp.values; have g4:=hp.bT; have g7:=hp.rules
 refine ak.of Bd.jK (by simp) rfl rfl ?_
 conv=>whnf
 refine ah.pure (S.iD p hp) rfl ?_
 conv=>whnf
 refine⟨fun h1=>?_,fun h1=>?_⟩
 ·conv=>whnf
  refine au.eqv ?_
  rw[Ee,h1]; rfl
 have h1':cO p=0:=xI h1
 conv=>whnf
 refine aP.same [1,2,3,18,19] (fun i:Nat=>[(20,.int i),(5,.bool ((p.rules.take i).foldl NP true)),(6,.bool ((p.rules.take i).foldl Ud false))]) (fun i=>i<=p.rules.length) (fun i=>p.rules.length-i) 0 rfl (by decide) rfl (fun _=>rfl) (Nat.zero_le _) ⟨⟨_,rfl,rfl⟩,⟨_,rfl,rfl⟩,⟨_,rfl,rfl⟩,trivial⟩ ?_
 conv=>whnf
 refine⟨rfl,?_⟩
 rintro i hi
 have g8:=hp.rule i
 have g9:=g8.ex; have g10:=g8.all
 conv=>whnf
 refine⟨fun h7=>?_,fun h7=>?_⟩
 ·have hi':i<p.rules.length:=by simpa using h7
  conv=>whnf
  repeat(refine VC.mk (by first|exact id|exact fun h=>⟨h,h⟩|(intro h; rw[h]; rfl)|(simp only[okI,Rw.rng] at *; omega)) ?_; conv=>whnf)
  refine⟨i+1,by omega,by omega,⟨⟨_,rfl,rfl⟩,⟨_,rfl,?_⟩,⟨_,rfl,?_⟩,trivial⟩,?_,rfl⟩
  ·rw[yT (d:=default) hi']; rfl
  ·rw[yT (d:=default) hi']; rfl
  ·repeat' (first|exact trivial|exact⟨_,rfl,rfl⟩|constructor)
 have hi':p.rules.length<=i:=by simpa using h7
 rw[List.take_of_length_le hi']
 conv=>whnf
 repeat(refine VC.mk (by first|exact id|(intro h; rw[h]; rfl)) ?_; conv=>whnf)
 refine au.eqv ?_
 rw[Ee,h1']
 rfl
def kR(r:Rule)(t:Int):Bool :=
 bif !(r.kind==1)&&(decide ((r.guards.length:Int)>0)||decide ((r.ex.length:Int)>0)||decide ((r.all.length:Int)>0)||decide ((r.send.length:Int)>0)) then true else
 bif !(r.kind==1)&& !(r.kind==2)&& !(r.kind==3)&&(r.read != -1||r.write != -1) then true else
 bif !(r.kind==2)&& !(r.kind==5)&&(r.iQ !=0||r.BA !=0) then true else
 bif (!(r.kind==3)&&decide ((r.response.length:Int)>0))||(!(r.kind==5)&&r.direction !=0) then true else
 bif !(r.kind==4)&&(r.pos !=0||decide ((r.left.length:Int)>0)||decide ((r.right.length:Int)>0)) then true else
 decide ((r.parent.length:Int)>0)&& !((r.kind==4)&&(t==4))
theorem gt0{n:Nat}:decide ((n:Int)>0)= !(n==0):=by
 cases n with
 |zero=>rfl
 |succ n=>rw[decide_eq_true (by omega)]; rfl
theorem acQ(a b c d e f g h:Nat):decide ((a:Int)+b+c+d+e+f+g+h>0)=(!(a==0)|| !(b==0)|| !(c==0)|| !(d==0)|| !(e==0)|| !(f==0)|| !(g==0)|| !(h==0)):=by
 rw[Bool.eq_iff_iff]
 simp only[decide_eq_true_eq,Bool.or_eq_true,Bool.not_eq_true',beq_eq_false_iff_ne,ne_eq]
 omega
theorem yh{r:Rule}{t:Int}(h:1<=r.kind/\r.kind<=5):kR r t=jP r t:=by
 have hk:r.kind=1\/r.kind=2\/r.kind=3\/r.kind=4\/r.kind=5:=by omega
 simp only[kR,jP,Bl,gt0,acQ,bne]
 generalize (r.guards.length==0)=g1
 generalize (r.ex.length==0)=g2
 generalize (r.all.length==0)=g3
 generalize (r.send.length==0)=g4
 generalize (r.response.length==0)=g5
 generalize (r.left.length==0)=g6
 generalize (r.right.length==0)=g7
 generalize (r.parent.length==0)=g8
 generalize (r.read== -1)=g9
 generalize (r.write== -1)=g10
 generalize (r.iQ==0)=g11
 generalize (r.BA==0)=g12
 generalize (r.direction==0)=g13
 generalize (r.pos==0)=g14
 rcases hk with hk|hk|hk|hk|hk<;>rw[hk] <;>
  (first
   |(simp; done)
   |(cases (t==4)<;>simp<;>grind)
   |(simp; grind))
end Go.Proofs.YtbfhebmdcpmfaaaGreatDoor
