/-
 A part of the proof. No condition.
-/
import Derived.Test.YtkmldgihhaooaaaGreatDoorNb
import Derived.Test.YtkmldgihhaooaaaGreatDoorLg
namespace Go.Proofs.YtkmldgihhaooaaaGreatDoor
open Go.Ab Go.Proofs
set_option maxRecDepth 100000
def dM(b:Bool)(e:Int):Int:=bif b then e else 0
theorem S.bU(b:Bool)(e:Int):ak Tryz.prog 111 [.bool b,.int e] (.int (dM b e)):=by
 refine ak.of Bd.bU (by simp) rfl rfl ?_
 conv=>whnf
 refine⟨fun h=>?_,fun h=>?_⟩
 ·conv=>whnf
  exact aj.int (by rw[h]; rfl)
 ·conv=>whnf
  exact aj.int (by rw[h]; rfl)
def qN(i n:Int):Bool:=decide (i<0)||decide (i>=n)
def dh(i n:Int):Int:=dM (qN i n) 5
theorem S.bV(i n:Int):ak Tryz.prog 137 [.int i,.int n] (.int (dh i n)):=by
 refine ak.of Bd.bV (by simp) rfl rfl ?_
 conv=>whnf
 repeat(refine VC.mk (by first|exact fun h=>⟨h,h⟩|(intro h; rw[h]; rfl)) ?_; conv=>whnf)
 refine ah.pure (S.bU (qN i n) 5) rfl ?_
 conv=>whnf
 exact aj.int rfl
def bH:List Int->Int
 |[]=>0
 |e::r=>if e=0 then bH r else e
theorem S.bK(l:List Int)(f:Bool)(hl:l.length<2^40):ak Tryz.prog 110 [.row 0 f (.ints l)] (.int (bH l)):=by
 refine ak.of Bd.bK (by simp) rfl rfl ?_
 conv=>whnf
 refine aG.same [5,6] (fun i:Nat=>[(7,.int i)]) (fun i=>i<=l.length/\bH l=bH (l.drop i)) (fun i=>l.length-i) 0 rfl (by decide) rfl (fun _=>rfl) ⟨by omega,by simp⟩ ⟨⟨_,rfl,rfl⟩,trivial⟩ ?_
 conv=>whnf
 refine⟨rfl,?_⟩
 rintro i ⟨hi,hall⟩
 conv=>whnf
 refine⟨fun h3=>?_,fun h3=>?_⟩
 ·have hi':i<l.length:=by simpa using h3
  rw[dB 0 hi'] at hall
  simp only[bH] at hall
  conv=>whnf
  refine .mk (by simp only[Rw.rng] at *; omega) ?_
  conv=>whnf
  refine⟨fun h4=>?_,fun h4=>?_⟩
  ·conv=>whnf
   refine aj.int ?_
   have:l.getD i 0≠0:=by simpa using h4
   rw[hall,if_neg this]; rfl
  ·conv=>whnf
   refine .mk (by simp only[okI] at *; omega) ?_
   conv=>whnf
   have:l.getD i 0=0:=by simpa using h4
   rw[if_pos this] at hall
   refine⟨i+1,⟨by omega,hall⟩,by omega,⟨⟨_,rfl,rfl⟩,trivial⟩,?_,rfl⟩
   repeat' (first|exact trivial|exact⟨_,rfl,rfl⟩|constructor)
 ·conv=>whnf
  refine aj.int ?_
  have hi':l.length<=i:=by simpa using h3
  rw[hall,List.drop_eq_nil_of_le hi']; rfl
def FC:List Int->Bool
 |a::b::r=>decide (a<b)&&FC (b::r)
 |_=>true
def jo(l:List Int)(n:Int):Int:=bif l.any (fun i=>qN i n) then 5 else bif FC l then 0 else 1
theorem S.dY(l:List Int)(n:Int)(f:Bool)(hl:l.length<2^40):ak Tryz.prog 109 [.row 0 f (.ints l),.int n] (.int (jo l n)):=by
 refine ak.of Bd.dY (by simp) rfl rfl ?_
 conv=>whnf
 refine aG.same [0,1,8,9] (fun i:Nat=>[(10,.int i)]) (fun i=>i<=l.length/\(l.take i).any (fun i=>qN i n)=false) (fun i=>l.length-i) 0 rfl (by decide) rfl (fun _=>rfl) ⟨by omega,by simp⟩ ⟨⟨_,rfl,rfl⟩,trivial⟩ ?_
 conv=>whnf
 refine⟨rfl,?_⟩
 rintro i ⟨hi,hall⟩
 conv=>whnf
 refine⟨fun h3=>?_,fun h3=>?_⟩
 ·have hi':i<l.length:=by simpa using h3
  conv=>whnf
  repeat(refine VC.mk (by first|exact fun h=>⟨h,h⟩|(intro h; rw[h]; rfl)|(simp only[Rw.rng] at *; omega)) ?_; conv=>whnf)
  refine⟨fun h4=>?_,fun h4=>?_⟩
  ·conv=>whnf
   refine aj.int ?_
   rw[jo,nU (d:=0) hi' h4]; rfl
  ·conv=>whnf
   refine .mk (by simp only[okI] at *; omega) ?_
   conv=>whnf
   refine⟨i+1,⟨by omega,?_⟩,by omega,⟨⟨_,rfl,rfl⟩,trivial⟩,?_,rfl⟩
   ·rw[qP (d:=0) hi' hall]; exact h4
   ·repeat' (first|exact trivial|exact⟨_,rfl,rfl⟩|constructor)
 ·have hi':l.length<=i:=by simpa using h3
  rw[List.take_of_length_le hi'] at hall
  conv=>whnf
  refine aG.same [0] (fun i:Nat=>[(7,.int (i+1))]) (fun i=>(i<l.length\/i=0)/\FC l=FC (l.drop i)) (fun i=>l.length-i) 0 rfl (by decide) rfl (fun _=>rfl) ⟨by omega,by simp⟩ ⟨⟨_,rfl,rfl⟩,trivial⟩ ?_
  conv=>whnf
  refine⟨rfl,?_⟩
  rintro i ⟨hi,hinc⟩
  conv=>whnf
  refine⟨fun h5=>?_,fun h5=>?_⟩
  ·have hi1:i+1<l.length:=by have:=of_decide_eq_true h5; omega
   rw[dB 0 (show i<l.length by omega),dB 0 hi1] at hinc
   simp only[FC] at hinc
   rw[<- dB 0 hi1] at hinc
   conv=>whnf
   repeat(refine VC.mk (by simp only[okI,Rw.rng] at *; omega) ?_; conv=>whnf)
   refine⟨fun h6=>?_,fun h6=>?_⟩
   ·conv=>whnf
    refine aj.int ?_
    have e1:((i:Int)+1).toNat=i+1:=by omega
    have e2:((i:Int)+1-1).toNat=i:=by omega
    rw[e1,e2] at h6
    have h6':l.getD (i+1) 0<=l.getD i 0:=of_decide_eq_true h6
    rw[jo,hall,hinc,decide_eq_false (by omega)]; rfl
   ·conv=>whnf
    refine .mk (by simp only[okI] at *; omega) ?_
    conv=>whnf
    have e1:((i:Int)+1).toNat=i+1:=by omega
    have e2:((i:Int)+1-1).toNat=i:=by omega
    rw[e1,e2] at h6
    have h6': ¬ l.getD (i+1) 0<=l.getD i 0:=of_decide_eq_false h6
    rw[decide_eq_true (by omega),Bool.true_and] at hinc
    refine⟨i+1,⟨by omega,hinc⟩,by omega,⟨⟨_,rfl,rfl⟩,trivial⟩,?_,rfl⟩
    repeat' (first|exact trivial|exact⟨_,rfl,rfl⟩|constructor)
  ·conv=>whnf
   refine aj.int ?_
   have h5': ¬ ((i:Int)+1<l.length):=of_decide_eq_false h5
   have:FC l=true:=by
    rw[hinc]
    rcases hd:l.drop i with _|⟨a,_|⟨b,r⟩⟩
    ·rfl
    ·rfl
    ·have:=congrArg List.length hd
     simp only[List.length_drop,List.length_cons] at this
     omega
   rw[jo,hall,this]; rfl
def aat(n:Int):Bool:=decide (n>= -100)&&decide (n<=100)
theorem S.iD(n:Int):ak Tryz.prog 156 [.int n] (.bool (aat n)):=by
 refine ak.of Bd.iD (by simp) rfl rfl ?_
 conv=>whnf
 repeat(refine VC.mk id ?_; conv=>whnf)
 exact aj.bool rfl
def Q8(l:Lin):Bool:=aat l.c&&aat l.n&&aat l.t&&aat l.f
theorem S.jE(l:Lin):ak Tryz.prog 133 [.dat (.lin l)] (.bool (Q8 l)):=by
 refine ak.of Bd.jE (by simp) rfl rfl ?_
 conv=>whnf
 refine ah.pure (S.iD l.c) rfl ?_
 conv=>whnf
 repeat(refine VC.mk id ?_; conv=>whnf)
 refine ah.gJ (fun _=>S.iD l.n) rfl ?_
 conv=>whnf
 repeat(refine VC.mk id ?_; conv=>whnf)
 refine ah.gJ (fun _=>S.iD l.t) rfl ?_
 conv=>whnf
 repeat(refine VC.mk id ?_; conv=>whnf)
 refine ah.gJ (fun _=>S.iD l.f) rfl ?_
 conv=>whnf
 refine VC.mk id ?_
 conv=>whnf
 exact aj.bool rfl
def jH(p:aP)(v:Int):Int:=dM (decide (v< -1)||decide (v>=p.values.length)) 5
theorem S.fZ(p:aP)(v:Int):ak Tryz.prog 162 [.dat (.iU p),.int v] (.int (jH p v)):=by
 refine ak.of Bd.fZ (by simp) rfl rfl ?_
 conv=>whnf
 repeat(refine VC.mk (by first|exact id|exact fun h=>⟨h,h⟩|(intro h; rw[h]; rfl)) ?_; conv=>whnf)
 refine ah.pure (S.bU _ 5) rfl ?_
 conv=>whnf
 exact aj.int rfl
theorem Rk{a:Int}(h:(a !=0)=true):a≠0:=by simpa using h
theorem Ce{a:Int}(h:(a !=0)=false):a=0:=by simpa using h
def uN(k t:Int):Bool:=bif k==1||k==2||k==3 then t==1 else bif k==4||k==5 then !(t==1) else false
theorem S.pz(k t:Int):ak Tryz.prog 159 [.int k,.int t] (.bool (uN k t)):=by
 refine ak.of Bd.pz (by simp) rfl rfl ?_
 conv=>whnf
 refine⟨fun h1=>?_,fun h1=>?_⟩
 ·conv=>whnf
  refine Fork.mk (fun _=>?_) (fun q=>absurd (q.symm.trans (h1)) Bool.false_ne_true)
  conv=>whnf
  exact aj.bool (by simp[uN,h1])
 ·conv=>whnf
  refine⟨fun h2=>?_,fun h2=>?_⟩
  ·conv=>whnf
   refine Fork.mk (fun _=>?_) (fun q=>absurd (q.symm.trans (h2)) Bool.false_ne_true)
   conv=>whnf
   exact aj.bool (by simp[uN,h1,h2])
  ·conv=>whnf
   refine⟨fun h3=>?_,fun h3=>?_⟩
   ·conv=>whnf
    exact aj.bool (by simp[uN,h1,h2,h3])
   ·conv=>whnf
    refine⟨fun h4=>?_,fun h4=>?_⟩
    ·conv=>whnf
     refine Fork.mk (fun _=>?_) (fun q=>absurd (q.symm.trans (h4)) Bool.false_ne_true)
     conv=>whnf
     exact aj.bool (by simp[uN,h1,h2,h3,h4,bne])
    ·conv=>whnf
     refine⟨fun h5=>?_,fun h5=>?_⟩
     ·conv=>whnf
      exact aj.bool (by simp[uN,h1,h2,h3,h4,h5,bne])
     ·conv=>whnf
      exact aj.bool (by simp[uN,h1,h2,h3,h4,h5])
def pI:List Int->Int->Int
 |[],_=>0
 |x::r,n=>if dh x n=0 then pI r n else dh x n
def Ei(l:List Int)(n:Int):Int:=bif (l.length:Int) !=n then 1 else pI l n
theorem S.jR(l:List Int)(n:Int)(f:Bool)(hl:l.length<2^40):ak Tryz.prog 163 [.row 0 f (.ints l),.int n] (.int (Ei l n)):=by
 refine ak.of Bd.jR (by simp) rfl rfl ?_
 conv=>whnf
 refine⟨fun h=>?_,fun h=>?_⟩
 ·conv=>whnf
  exact aj.int (by rw[Ei,h]; rfl)
 ·conv=>whnf
  refine aG.same [0,1,12,13] (fun i:Nat=>[(14,.int i)]) (fun i=>i<=l.length/\pI l n=pI (l.drop i) n) (fun i=>l.length-i) 0 rfl (by decide) rfl (fun _=>rfl) ⟨by omega,by simp⟩ ⟨⟨_,rfl,rfl⟩,trivial⟩ ?_
  conv=>whnf
  refine⟨rfl,?_⟩
  rintro i ⟨hi,hall⟩
  conv=>whnf
  refine⟨fun h3=>?_,fun h3=>?_⟩
  ·have hi':i<l.length:=by simpa using h3
   rw[dB 0 hi'] at hall
   simp only[pI] at hall
   conv=>whnf
   refine .mk (by simp only[Rw.rng] at *; omega) ?_
   conv=>whnf
   refine ah.pure (S.bV (l.getD i 0) n) rfl ?_
   conv=>whnf
   refine⟨fun h4=>?_,fun h4=>?_⟩
   ·conv=>whnf
    refine aj.int ?_
    have:dh (l.getD i 0) n≠0:=by simpa using h4
    rw[Ei,h,cond_false,hall,if_neg this]
   ·conv=>whnf
    refine .mk (by simp only[okI] at *; omega) ?_
    conv=>whnf
    have:dh (l.getD i 0) n=0:=by simpa using h4
    rw[if_pos this] at hall
    refine⟨i+1,⟨by omega,hall⟩,by omega,⟨⟨_,rfl,rfl⟩,trivial⟩,?_,rfl⟩
    repeat' (first|exact trivial|exact⟨_,rfl,rfl⟩|constructor)
  ·conv=>whnf
   refine aj.int ?_
   have hi':l.length<=i:=by simpa using h3
   rw[Ei,h,cond_false,hall,List.drop_eq_nil_of_le hi']; rfl
def guardE(p:aP)(g:zT):Int:=bH [dh g.message p.messages.length,dM (decide (g.ER<1)||decide (g.ER>100)) 1,dM (!(Q8 g.bound)) 4]
def jW(p:aP):List zT->Int
 |[]=>0
 |g::r=>if guardE p g=0 then jW p r else guardE p g
def xR(p:aP)(l:List zT):Int:=if jW p l=0 then dM (decide ((l.length:Int)>2)) 4 else jW p l
theorem S.mV(p:aP)(l:List zT)(f:Bool)(hl:l.length<2^40):ak Tryz.prog 161 [.dat (.iU p),.row 7 f (.qH l)] (.int (xR p l)):=by
 refine ak.of Bd.mV (by simp) rfl rfl ?_
 conv=>whnf
 refine aG.same [1,2,8,9] (fun i:Nat=>[(10,.int i)]) (fun i=>i<=l.length/\jW p l=jW p (l.drop i)) (fun i=>l.length-i) 0 rfl (by decide) rfl (fun _=>rfl) ⟨by omega,by simp⟩ ⟨⟨_,rfl,rfl⟩,trivial⟩ ?_
 conv=>whnf
 refine⟨rfl,?_⟩
 rintro i ⟨hi,hall⟩
 conv=>whnf
 refine⟨fun h3=>?_,fun h3=>?_⟩
 ·have hi':i<l.length:=by simpa using h3
  rw[dB default hi'] at hall
  simp only[jW] at hall
  conv=>whnf
  refine .mk (by simp only[Rw.rng] at *; omega) ?_
  conv=>whnf
  refine ah.pure (S.bV (l.getD i default).message p.messages.length) rfl ?_
  conv=>whnf
  repeat(refine VC.mk (by first|exact id|(intro h; rw[h]; rfl)) ?_; conv=>whnf)
  refine ah.pure (S.bU (decide ((l.getD i default).ER<1)||decide ((l.getD i default).ER>100)) 1) rfl ?_
  conv=>whnf
  refine ah.pure (S.jE (l.getD i default).bound) rfl ?_
  conv=>whnf
  refine ah.pure (S.bU (!(Q8 (l.getD i default).bound)) 4) rfl ?_
  conv=>whnf
  refine ah.pure (S.bK [dh (l.getD i default).message p.messages.length,dM (decide ((l.getD i default).ER<1)||decide ((l.getD i default).ER>100)) 1,dM (!(Q8 (l.getD i default).bound)) 4] true (show 3<2^40 by decide)) rfl ?_
  conv=>whnf
  refine⟨fun h4=>?_,fun h4=>?_⟩
  ·conv=>whnf
   refine aj.int ?_
   have h4':guardE p (l.getD i default)≠0:=Rk h4
   rw[if_neg h4'] at hall
   rw[xR,hall,if_neg h4']; rfl
  ·conv=>whnf
   refine .mk (by simp only[okI] at *; omega) ?_
   conv=>whnf
   have h4':guardE p (l.getD i default)=0:=Ce h4
   rw[if_pos h4'] at hall
   refine⟨i+1,⟨by omega,hall⟩,by omega,⟨⟨_,rfl,rfl⟩,trivial⟩,?_,rfl⟩
   repeat' (first|exact trivial|exact⟨_,rfl,rfl⟩|constructor)
 ·have hi':l.length<=i:=by simpa using h3
  rw[List.drop_eq_nil_of_le hi'] at hall
  conv=>whnf
  refine ah.pure (S.bU (decide ((l.length:Int)>2)) 4) rfl ?_
  conv=>whnf
  exact aj.int (by rw[xR,hall]; rfl)
structure sG(r:Rule):Prop where
 response:r.response.length<2^30
 guards:r.guards.length<2^30
 ex:r.ex.length<2^30
 all:r.all.length<2^30
 send:r.send.length<2^30
 left:r.left.length<2^30
 right:r.right.length<2^30
 parent:r.parent.length<2^30
def D7(r:Rule):Bool :=
 decide ((r.response.length:Int)+r.guards.length+r.ex.length+r.all.length+r.send.length+r.left.length+r.right.length+r.parent.length>0)||r.dS !=0||r.wX !=0||r.pos !=0||r.direction !=0||r.read != -1||r.write != -1
def kJ(r:Rule)(t:Int):Bool :=
 bif r.kind==1 then D7 {r with guards:=[],ex:=[],all:=[],send:=[],read:= -1,write:= -1} else
 bif r.kind==2 then(bif decide ((r.response.length:Int)>0) then true else D7 {r with dS:=0,wX:=0,response:=[],read:= -1,write:= -1}) else
 bif r.kind==3 then D7 {r with response:=[],read:= -1,write:= -1} else
 bif r.kind==4 then(bif t==4 then D7 {r with pos:=0,left:=[],right:=[],parent:=[]} else D7 {r with pos:=0,left:=[],right:=[]}) else
 bif r.kind==5 then D7 {r with dS:=0,wX:=0,direction:=0} else D7 r
theorem S.lJ(r:Rule)(t:Int)(hs:sG r):ak Tryz.prog 160 [.dat (.rule r),.int t] (.bool (kJ r t)):=by
 obtain⟨g1,g2,g3,g4,g5,g6,g7,g8⟩:=hs
 refine ak.of Bd.lJ (by simp) rfl rfl ?_
 conv=>whnf
 refine⟨fun h1=>?_,fun h1=>?_⟩
 ·conv=>whnf
  repeat(refine VC.mk (by first|exact id|(intro h; rw[h]; rfl)|(simp only[okI] at *; omega)) ?_; conv=>whnf)
  exact aj.bool (by simp[kJ,D7,h1])
 ·conv=>whnf
  refine⟨fun h2=>?_,fun h2=>?_⟩
  ·conv=>whnf
   refine⟨fun h6=>?_,fun h6=>?_⟩
   ·conv=>whnf
    exact aj.bool (by rw[kJ,h1,h2,show decide ((r.response.length:Int)>0)=true from h6]; rfl)
   ·conv=>whnf
    repeat(refine VC.mk (by first|exact id|(intro h; rw[h]; rfl)|(simp only[okI] at *; omega)) ?_; conv=>whnf)
    exact aj.bool (by rw[kJ,h1,h2,show decide ((r.response.length:Int)>0)=false from h6]; simp[D7])
  ·conv=>whnf
   refine⟨fun h3=>?_,fun h3=>?_⟩
   ·conv=>whnf
    repeat(refine VC.mk (by first|exact id|(intro h; rw[h]; rfl)|(simp only[okI] at *; omega)) ?_; conv=>whnf)
    exact aj.bool (by simp[kJ,D7,h1,h2,h3])
   ·conv=>whnf
    refine⟨fun h4=>?_,fun h4=>?_⟩
    ·conv=>whnf
     refine⟨fun h7=>?_,fun h7=>?_⟩
     ·conv=>whnf
      repeat(refine VC.mk (by first|exact id|(intro h; rw[h]; rfl)|(simp only[okI] at *; omega)) ?_; conv=>whnf)
      exact aj.bool (by simp[kJ,D7,h1,h2,h3,h4,h7])
     ·conv=>whnf
      repeat(refine VC.mk (by first|exact id|(intro h; rw[h]; rfl)|(simp only[okI] at *; omega)) ?_; conv=>whnf)
      exact aj.bool (by simp[kJ,D7,h1,h2,h3,h4,h7])
    ·conv=>whnf
     refine⟨fun h5=>?_,fun h5=>?_⟩
     ·conv=>whnf
      repeat(refine VC.mk (by first|exact id|(intro h; rw[h]; rfl)|(simp only[okI] at *; omega)) ?_; conv=>whnf)
      exact aj.bool (by simp[kJ,D7,h1,h2,h3,h4,h5])
     ·conv=>whnf
      repeat(refine VC.mk (by first|exact id|(intro h; rw[h]; rfl)|(simp only[okI] at *; omega)) ?_; conv=>whnf)
      exact aj.bool (by simp[kJ,D7,h1,h2,h3,h4,h5])
def aau(h:Hz):Hz->Prop
 |[]=>True
 |(i,o)::r=>h.get i=o/\aau h r
theorem XF{h:Hz}: ∀ {h0:Hz},aau h h0-> ∀ {i:Nat} {o:OV},h0.get i=some o->h.get i=some o:=by
 intro h0
 induction h0 with
 |nil=>intro _ i o e; cases e
 |cons p r ih =>
  obtain⟨j,u⟩:=p
  intro hs i o e
  simp only[Hz.get] at e
  cases hb:Nat.beq j i with
  |true=>rw[hb] at e; simp only[cond_true] at e; rw[<- Nat.eq_of_beq_eq_true hb,hs.1,e]
  |false=>rw[hb] at e; exact ih hs.2 e
def XG:Hz->Bool
 |[]=>true
 |(_,some o)::r=>o.D8&&XG r
 |(_,none)::r=>XG r
theorem Rt: ∀ {h0:Hz},XG h0=true-> ∀ {i:Nat} {o:OV},h0.get i=some o->o.D8=true:=by
 intro h0
 induction h0 with
 |nil=>intro _ i o e; cases e
 |cons p r ih =>
  obtain⟨j,u⟩:=p
  intro hs i o e
  simp only[Hz.get] at e
  cases hb:Nat.beq j i with
  |true =>
   rw[hb] at e; simp only[cond_true] at e; subst e
   simp only[XG,Bool.and_eq_true] at hs; exact hs.1
  |false =>
   rw[hb] at e
   refine ih ?_ e
   cases u with
   |none=>exact hs
   |some o=>simp only[XG,Bool.and_eq_true] at hs; exact hs.2
theorem OV.Ru{o:OV}(h:o.D8=true):T.aO (fun _=>False) o.aA.l:=OV.BP h
theorem jA.same{nx:Nat}{h0 h:Hz}{n:Nat}{post:T->Hp->Prop}{v:V}(hf:v.free=true)(hs:aau h h0)(hg:H6 nx h0=true)(hfr:XG h0=true)(hp:post v.aF h0.au):jA h0 n post v h:=by
 have hG:=E5 hg
 have get: ∀ i ob,h0.au i=some ob-> ∃ o,h0.get i=some o/\ob=o.aA:=fun i ob e=>by
  simp only[Hz.au,Option.map_eq_some_iff] at e
  obtain⟨o,e1,e2⟩:=e
  exact⟨o,e1,e2.symm⟩
 have hfree:=V.nZ v hf
 refine⟨fun _=>False,id,v.aF,h0.au,hp,?_,fun i ob hi=>?_,fun i j _ _ e=>e,T.aY (fun _ h=>h.elim) _ (fE hfree),fun i ob hi=>?_,fun i _ _=>rfl⟩
 ·rw[Tt]; exact aH _
 ·obtain⟨o,e1,rfl⟩:=get i ob hi
  refine⟨o.aA,aQ (XF hs e1),fun h=>h,rfl,rfl,?_,zq (hG i _ hi).2.2⟩
  rw[uV _ (OV.Ru (Rt hfr e1))]; exact eP _
 ·obtain⟨o,e1,rfl⟩:=get i ob hi
  exact⟨.inl (by rw[hi]; rfl),T.aB (fun _ h=>h.elim) _ (OV.Ru (Rt hfr e1))⟩
abbrev hRP(p:aP)(r:Rule):Hz:=[(7,some (.box 86 19 (.dat (.rule r)))),(0,some (.box 27 11 (.dat (.iU p))))]
theorem S.OU(p:aP)(r x:Rule)(n:Nat):aT Tryz.prog 158 (V.aW [.dat (.rule x),.ptr 7 0 0]) (hRP p r).au n (fun t hp=>t= .bool (x.name==r.name)/\hp=(hRP p r).au):=by
 refine pX.of (nx:=8) Bd.nI (by simp) ⟨_,_,rfl,rfl⟩ rfl rfl ?_
 conv=>whnf
 exact jA.same (nx:=8) rfl ⟨rfl,rfl,trivial⟩ rfl rfl ⟨rfl,rfl⟩
def FM(s:Str):List Rule->Nat->Int
 |[],_=> -1
 |x::r,i=>bif x.name==s then(i:Int) else FM s r (i+1)
theorem S.XH(p:aP)(r:Rule)(l:List Rule)(f:Bool)(hl:l.length<2^30)(n:Nat):aT Tryz.prog 174 (V.aW [.row 19 f (.rules l),.fn 158 [.ptr 7 0 0]]) (hRP p r).au n (fun t hp=>t= .int (FM r.name l 0)/\hp=(hRP p r).au):=by
 refine pX.of (nx:=8) Bd.gq (by simp) ⟨_,_,rfl,rfl⟩ rfl rfl ?_
 conv=>whnf
 refine aG.same [0,1,6,7] (fun i:Nat=>[(8,.int i)]) (fun i=>i<=l.length/\FM r.name l 0=FM r.name (l.drop i) i) (fun i=>l.length-i) 0 rfl (by decide) rfl (fun _=>rfl) ⟨by omega,by simp⟩ ⟨⟨_,rfl,rfl⟩,trivial⟩ ?_
 conv=>whnf
 refine⟨rfl,?_⟩
 rintro i ⟨hi,hall⟩
 conv=>whnf
 refine⟨fun h3=>?_,fun h3=>?_⟩
 ·have hi':i<l.length:=by simpa using h3
  rw[dB default hi'] at hall
  simp only[FM] at hall
  conv=>whnf
  refine .mk (by simp only[Rw.rng] at *; omega) ?_
  conv=>whnf
  refine ah.heap (S.OU p r (l.getD i default) _) ?_
  rintro t hp ⟨rfl,rfl⟩
  refine⟨.bool _,hRP p r,rfl,rfl,?_⟩
  conv=>whnf
  refine⟨fun h4=>?_,fun h4=>?_⟩
  ·conv=>whnf
   rw[h4] at hall
   exact jA.same (nx:=8) rfl ⟨rfl,rfl,trivial⟩ rfl rfl ⟨by rw[hall]; rfl,rfl⟩
  ·conv=>whnf
   refine .mk (by simp only[okI] at *; omega) ?_
   conv=>whnf
   rw[h4] at hall
   refine⟨i+1,⟨by omega,hall⟩,by omega,⟨⟨_,rfl,rfl⟩,trivial⟩,?_,rfl⟩
   repeat' (first|exact trivial|exact⟨_,rfl,rfl⟩|constructor)
 ·conv=>whnf
  have hi':l.length<=i:=by simpa using h3
  rw[List.drop_eq_nil_of_le hi'] at hall
  exact jA.same (nx:=8) rfl ⟨rfl,rfl,trivial⟩ rfl rfl ⟨by rw[hall]; rfl,rfl⟩
theorem aav{s:Str}{l:List Rule}{i:Nat}:decide (0<=FM s l i)=l.any fun x=>x.name==s:=by
 have: ∀ {l:List Rule} {i:Nat},0<=FM s l i↔(l.any fun x=>x.name==s)=true:=by
  intro l
  induction l with
  |nil=>intro i; simp[FM]
  |cons x r ih =>
   intro i
   rw[List.any_cons,Bool.or_eq_true,<- ih (i:=i+1)]
   show(0:Int)<=(bif x.name==s then(i:Int) else FM s r (i+1))↔_
   generalize (x.name==s)=b
   cases b<;>simp
 rw[Bool.eq_iff_iff,decide_eq_true_eq]; exact this
theorem S.OW(p:aP)(r:Rule)(l:List Rule)(f:Bool)(hl:l.length<2^30)(n:Nat):aT Tryz.prog 157 (V.aW [.row 19 f (.rules l),.fn 158 [.ptr 7 0 0]]) (hRP p r).au n (fun t hp=>t= .bool (l.any fun x=>x.name==r.name)/\hp=(hRP p r).au):=by
 refine pX.of (nx:=8) Bd.fG (by simp) ⟨_,_,rfl,rfl⟩ rfl rfl ?_
 conv=>whnf
 refine ah.heap (S.XH p r l f hl _) ?_
 rintro t hp ⟨rfl,rfl⟩
 refine⟨.int _,hRP p r,rfl,rfl,?_⟩
 conv=>whnf
 exact jA.same (nx:=8) rfl ⟨rfl,rfl,trivial⟩ rfl rfl ⟨by rw[<- aav (i:=0)]; rfl,rfl⟩
theorem ah.mkRow{P:Program}{f:FuncId}{args:List V}{h:Hz}{n ty k:Nat}{r:Rw}{K:V->Hz->Prop}{KW:Nat->V->Hz->Prop}(H:zX P f (V.aW args) (fun n=>.own n) (some ⟨ty,k,r.aW⟩))(hK:K (.own n) ((n,some (.row ty k r []))::h)):ah P false none f args h n K KW :=
 ah.heap (zX.frame H _ _) (by rintro t hp ⟨rfl,rfl⟩; exact⟨.own n,_,rfl,by rw[cu]; simp[jh,OV.aA,V.aW],hK⟩)
theorem S.Concat(a b c:List Str)(n:Nat)(h0:0<a.length)(ha:a.length<2^20)(hb:b.length<2^20)(hc:c.length<2^20) :
  aT Tryz.prog 154 (V.aW [.Gv 0 false [.row 0 false (.strs a),.row 0 false (.strs b),.row 0 false (.strs c)]]) no n (fun t hp=>t= .own n/\hp=Hz.au [(n,some (.row 9 0 (.strs (a++b++c)) []))]):=by
 refine pX.of (nx:=0) (h0:=[]) Bd.jl (by simp) ⟨_,_,rfl,rfl⟩ rfl rfl ?_
 conv=>whnf
 refine aG.times 4 rfl ?_
 conv=>whnf
 refine Fork.mk (fun _=>?_) (fun q=>absurd (q.symm.trans (rfl)) Bool.false_ne_true)
 conv=>whnf
 repeat(refine VC.mk (by first|(omega)|(simp only[okI] at *; omega)) ?_; conv=>whnf)
 refine Fork.mk (fun q=>absurd (q.symm.trans (decide_eq_false (by omega))).symm Bool.false_ne_true) (fun _=>?_)
 conv=>whnf
 refine .mk (by simp only[okI] at *; omega) ?_
 conv=>whnf
 refine Fork.mk (fun _=>?_) (fun q=>absurd (q.symm.trans (rfl)) Bool.false_ne_true)
 conv=>whnf
 repeat(refine VC.mk (by first|(omega)|(simp only[okI] at *; omega)) ?_; conv=>whnf)
 refine Fork.mk (fun q=>absurd (q.symm.trans (decide_eq_false (by omega))).symm Bool.false_ne_true) (fun _=>?_)
 conv=>whnf
 refine .mk (by simp only[okI] at *; omega) ?_
 conv=>whnf
 refine Fork.mk (fun _=>?_) (fun q=>absurd (q.symm.trans (rfl)) Bool.false_ne_true)
 conv=>whnf
 repeat(refine VC.mk (by first|(omega)|(simp only[okI] at *; omega)) ?_; conv=>whnf)
 refine Fork.mk (fun q=>absurd (q.symm.trans (decide_eq_false (by omega))).symm Bool.false_ne_true) (fun _=>?_)
 conv=>whnf
 refine .mk (by simp only[okI] at *; omega) ?_
 conv=>whnf
 refine Fork.mk (fun q=>absurd (q.symm.trans (rfl)).symm Bool.false_ne_true) (fun _=>?_)
 conv=>whnf
 have e:(0+(a.length:Int)+b.length+c.length)=((a.length+b.length+c.length:Nat):Int):=by omega
 rw[e]
 refine ah.mkRow (r:=.strs []) (S.Grow (a.length+b.length+c.length) (by omega) (by omega)) ?_
 conv=>whnf
 refine aG.times 4 rfl ?_
 conv=>whnf
 refine Fork.mk (fun _=>?_) (fun q=>absurd (q.symm.trans (rfl)) Bool.false_ne_true)
 conv=>whnf
 repeat(refine VC.mk (by first|(omega)|(simp only[nK,nT,Rw.len,List.length_nil]; omega)|(simp only[okI] at *; omega)) ?_; conv=>whnf)
 refine Fork.mk (fun _=>?_) (fun q=>absurd (q.symm.trans (rfl)) Bool.false_ne_true)
 conv=>whnf
 repeat(refine VC.mk (by first|(omega)|(simp only[nK,nT,Rw.len,List.length_append,List.length_nil]; omega)|(simp only[okI] at *; omega)) ?_; conv=>whnf)
 refine Fork.mk (fun _=>?_) (fun q=>absurd (q.symm.trans (rfl)) Bool.false_ne_true)
 conv=>whnf
 repeat(refine VC.mk (by first|(omega)|(simp only[nK,nT,Rw.len,List.length_append,List.length_nil]; omega)|(simp only[okI] at *; omega)) ?_; conv=>whnf)
 refine Fork.mk (fun q=>absurd (q.symm.trans (rfl)).symm Bool.false_ne_true) (fun _=>?_)
 conv=>whnf
 refine jA.one (c:=n) (o:=.row 9 0 (.strs (a++b++c)) []) (t:=.own n) rfl rfl rfl nofun (.inr rfl) rfl (.eq rfl) ⟨rfl,rfl⟩
theorem S.acp(a b c:List Str)(h0:0<a.length)(ha:a.length<2^20)(hb:b.length<2^20)(hc:c.length<2^20) :
  zX Tryz.prog 154 (V.aW [.Gv 0 false [.row 0 false (.strs a),.row 0 false (.strs b),.row 0 false (.strs c)]]) (fun n=>.own n) (some ⟨9,0,(Rw.strs (a++b++c)).aW⟩):=by
 refine⟨rfl,fun _=>rfl,(fun ob h=>by cases h; rw[iw]; intro t ht; obtain⟨x,_,rfl⟩:=List.mem_map.1 ht; rfl),(fun ob h=>by cases h; exact fun e=>absurd e (by decide:(0:Nat)≠fO)),fun n=>(S.Concat a b c n h0 ha hb hc).mono ?_⟩
 rintro t hp ⟨rfl,rfl⟩
 refine⟨rfl,?_⟩
 rw[cu]; simp[jh,OV.aA,V.aW]; rfl
theorem ah.acr{P:Program}{f:FuncId}{args:List V}{ts:List T}{h:Hz}{n ty k:Nat}{r:Rw}{K:V->Hz->Prop}{KW:Nat->V->Hz->Prop}(H:zX P f ts (fun n=>.own n) (some ⟨ty,k,r.aW⟩))(hs:T.dJ (fun _=>True) h.au ts (V.aW args))(hh:T.wM r.aW=true)(hK:K (.own n) ((n,some (.row ty k r []))::h)):ah P false none f args h n K KW :=
 ⟨.inl (zX.lend H hs rfl (fun _ e=>by cases e; exact hh) ⟨.own n,_,rfl,by rw[cu]; simp[jh,OV.aA,V.aW],(fun e=>by cases e),hK⟩)⟩
theorem afp{h:Hz}{j ty:Nat}{Z:Nat->Prop}{l:List V}(hz:Z j)(q:h.get j=some (.row ty 0 .nil l))(hf:V.bY l=true):T.sub Z h.au (V.Gv 0 false l).aF (V.own j).aF:=by
 show T.sub Z h.au (.sl 0 false (V.aW l)) (.own j)
 simp only[T.sub]
 exact⟨trivial,hz,V.iC l hf,by decide,ty,by rw[aQ q]; rfl⟩
theorem XI{l:List Str}:T.wM (Rw.strs l).aW=true:=by
 show T.wM (l.map eS)=true
 induction l with
 |nil=>rfl
 |cons s r ih=>simp only[List.map_cons,T.wM,ih]; rfl
theorem afq{h:Hz}{j i ty:Nat}{Z:Nat->Prop}{l:List Str}(hz:Z j)(q:h.get j=some (.row ty 0 (.strs l) []))(hi:i<=l.length):T.sub Z h.au (V.row 0 false (.strs (l.take i))).aF (V.oH j 0 i).aF:=by
 show T.sub Z h.au (.sl 0 false ((l.take i).map eS)) (.oH j 0 i)
 simp only[T.sub]
 refine⟨trivial,hz,?_,by decide,ty,l.map eS,?_,by simpa using hi,by simp[List.map_take]⟩
 ·rw[iw]; intro t ht; obtain⟨x,_,rfl⟩:=List.mem_map.1 ht; rfl
 ·rw[aQ q]; simp[OV.aA,Rw.aW,V.aW]
def allNames(p:aP):List Str:=p.states++p.messages++p.values
def OO(l:List Str)(i:Nat):Bool:= !(validName (l.getD i []))||(l.take i).any fun x=>l.getD i []==x
def zG(p:aP):Int:=bif (List.range (allNames p).length).any (OO (allNames p)) then 2 else 0
theorem rY{n:Nat}{f:Nat->Bool}:(List.range n).any f=true↔ ∃ i,i<n/\f i=true:=by
 simp[List.any_eq_true]
theorem S.oG(p:aP)(h0:0<p.states.length)(h1:p.states.length<2^20)(h2:p.messages.length<2^20)(h3:p.values.length<2^20):ak Tryz.prog 132 [.dat (.iU p)] (.int (zG p)):=by
 have hlen:(allNames p).length<2^30:=by simp only[allNames,List.length_append]; omega
 refine ak.of Bd.oG (by simp) rfl rfl ?_
 conv=>whnf
 refine ah.acr (r:=.strs (allNames p)) (S.acp p.states p.messages p.values h0 h1 h2 h3) (And.intro (afp (ty:=22) trivial rfl rfl) trivial) XI ?_
 conv=>whnf
 refine aG.same [3,14,15] (fun i:Nat=>[(16,.int i)]) (fun i=>i<=(allNames p).length/\(List.range i).any (OO (allNames p))=false) (fun i=>(allNames p).length-i) 0 rfl (by decide) rfl (fun _=>rfl) ⟨Nat.zero_le _,rfl⟩ ⟨⟨_,rfl,rfl⟩,trivial⟩ ?_
 conv=>whnf
 refine⟨rfl,?_⟩
 rintro i ⟨hi,hall⟩
 conv=>whnf
 refine⟨fun h4=>?_,fun h4=>?_⟩
 ·have hi':i<(allNames p).length:=by simpa using h4
  conv=>whnf
  repeat(refine VC.mk (by simp only[Rw.rng] at *; omega) ?_; conv=>whnf)
  refine ah.pure (S.gI ((allNames p).getD i [])) rfl ?_
  conv=>whnf
  repeat(refine VC.mk (by first|exact fun h=>⟨h,h⟩|(intro h; (repeat' apply And.intro)<;>first|exact h|omega|(simp only[Rw.rP]; omega)|(simp only[Rw.rng]; omega))) ?_; conv=>whnf)
  refine ah.aer (fun _=>S.slices_Contains_string ((allNames p).take i) ((allNames p).getD i []) false (by rw[List.length_take]; omega)) (fun _=>And.intro (afq (ty:=9) trivial rfl (by omega)) (And.intro (aH _) trivial)) rfl rfl ?_
  conv=>whnf
  refine .mk (by intro h; rw[h]; rfl) ?_
  conv=>whnf
  refine⟨fun h5=>?_,fun h5=>?_⟩
  ·conv=>whnf
   refine aj.int ?_
   rw[zG,rY.2 ⟨i,hi',h5⟩]; rfl
  ·conv=>whnf
   refine .mk (by simp only[okI] at *; omega) ?_
   conv=>whnf
   refine⟨i+1,⟨by omega,?_⟩,by omega,⟨⟨_,rfl,rfl⟩,trivial⟩,?_,rfl⟩
   ·rw[List.range_succ,List.any_append,hall]
    simp only[List.any_cons,List.any_nil,Bool.or_false,Bool.false_or]; exact h5
   ·repeat' (first|exact trivial|exact⟨_,rfl,rfl⟩|constructor)
 ·have hi':(allNames p).length<=i:=by simpa using h4
  have e:i=(allNames p).length:=Nat.le_antisymm hi hi'
  subst e
  conv=>whnf
  exact aj.int (by rw[zG,hall]; rfl)
theorem ah.oO{P:Program}{f:FuncId}{args:List V}{h:Hz}{hp0:Hp}{n:Nat}{K:V->Hz->Prop}{KW:Nat->V->Hz->Prop}{post:T->Hp->Prop}(S:aT P f (V.aW args) hp0 n post)(e:h.au=hp0)(hK: ∀ t hp,post t hp-> ∃ v h',t=v.aF/\hp=Hz.au h'/\K v h'):ah P false none f args h n K KW:=by
 subst e; exact ah.heap S hK
theorem Rx{i:Nat}{a b:Option OV}{r:Hz}:Hz.au ((i,a)::(i,b)::r)=Hz.au ((i,a)::r):=funext fun j=>by
 simp only[Hz.au,Hz.get]; cases Nat.beq i j<;>rfl
structure fM(p:aP):Prop where
 states:p.states.length<2^20
 messages:p.messages.length<2^20
 values:p.values.length<2^20
 bZ:p.bZ.length<2^30
 initial:p.initial.length<2^30
 leader:p.leader.length<2^30
 rules:p.rules.length<2^30
 rule: ∀ i,sG (p.rules.getD i default)
 qH:(p.rules.flatMap Rule.guards).length<2^30
def rJ(p:aP)(i:Nat):Bool:= !(validName (p.rules.getD i default).name)||(p.rules.take i).any fun x=>x.name==(p.rules.getD i default).name
def qO(p:aP)(i:Nat):Bool:= !(uN (p.rules.getD i default).kind p.topology)||kJ (p.rules.getD i default) p.topology
def wW(p:aP)(r:Rule):Int:=bH [dh r.fr p.states.length,dh r.to p.states.length]
def aaj(p:aP)(r:Rule):Bool:=decide (r.pos<0)||decide (r.pos>2)||(r.pos !=0&&p.topology==3)
def gQ(p:aP)(i:Nat):Int :=
 let r:=p.rules.getD i default
 let n:Int:=p.states.length
 bif rJ p i then 2 else bif qO p i then 6 else bif wW p r !=0 then wW p r else
 bif r.kind==1 then bH [xR p r.guards,jo r.ex n,jo r.all n,jH p r.read,jH p r.write,jo r.send p.messages.length] else
 bif r.kind==2 then bH [dh r.dS n,dh r.wX n,jH p r.read,jH p r.write] else
 bif r.kind==3 then bH [Ei r.response n,jH p r.read,jH p r.write] else
 bif r.kind==4 then bH [jo r.left n,jo r.right n,jo r.parent n,dM (aaj p r) 1] else
 bif p.topology==4 then bH [dh r.dS n,dh r.wX n,dM (decide (r.direction<3)||decide (r.direction>4)) 1]
 else bH [dh r.dS n,dh r.wX n,dM (decide (r.direction<1)||decide (r.direction>2)) 1]
theorem S.jQ(p:aP)(i:Nat)(hi:i<p.rules.length)(hp:fM p):ak Tryz.prog 134 [.dat (.iU p),.int i] (.int (gQ p i)):=by
 have hr:=hp.rule i
 have hp1:=hp.rules
 have hp2:=hp.states
 have hp3:=hp.messages
 refine ak.of Bd.jQ (by simp) rfl rfl ?_
 conv=>whnf
 repeat(refine VC.mk (by first|(simp only[Rw.rP]; omega)|(simp only[Rw.rng] at *; omega)) ?_; conv=>whnf)
 refine ah.oO (S.OW p (p.rules.getD i default) (p.rules.take i) false (by rw[List.length_take]; omega) _) Rx ?_
 rintro t hp' ⟨rfl,rfl⟩
 refine⟨.bool _,hRP p (p.rules.getD i default),rfl,rfl,?_⟩
 conv=>whnf
 refine ah.pure (S.gI (p.rules.getD i default).name) rfl ?_
 conv=>whnf
 refine .mk (by intro h; rw[h]; rfl) ?_
 conv=>whnf
 refine⟨fun h1=>?_,fun h1=>?_⟩
 ·conv=>whnf
  exact aj.int (by rw[gQ,show rJ p i=true from h1]; rfl)
 ·conv=>whnf
  refine ah.pure (S.pz (p.rules.getD i default).kind p.topology) rfl ?_
  conv=>whnf
  repeat(refine VC.mk (by first|exact id|exact fun h=>⟨h,h⟩) ?_; conv=>whnf)
  refine ah.gJ (fun _=>S.lJ (p.rules.getD i default) p.topology hr) rfl ?_
  conv=>whnf
  refine .mk (by intro h; rw[h]; rfl) ?_
  conv=>whnf
  refine⟨fun h2=>?_,fun h2=>?_⟩
  ·conv=>whnf
   exact aj.int (by rw[gQ,show rJ p i=false from h1,show qO p i=true from h2]; rfl)
  ·conv=>whnf
   refine ah.pure (S.bV (p.rules.getD i default).fr p.states.length) rfl ?_
   conv=>whnf
   refine ah.pure (S.bV (p.rules.getD i default).to p.states.length) rfl ?_
   conv=>whnf
   refine ah.pure (S.bK [dh (p.rules.getD i default).fr p.states.length,dh (p.rules.getD i default).to p.states.length] true (show 2<2^40 by decide)) rfl ?_
   conv=>whnf
   refine⟨fun h3=>?_,fun h3=>?_⟩
   ·conv=>whnf
    exact aj.int (by rw[gQ,show rJ p i=false from h1,show qO p i=false from h2,show(wW p (p.rules.getD i default) !=0)=true from h3]; rfl)
   ·conv=>whnf
    refine⟨fun h4=>?_,fun h4=>?_⟩
    ·conv=>whnf
     refine ah.pure (S.mV p (p.rules.getD i default).guards false (by have:=hr.guards; omega)) rfl ?_
     conv=>whnf
     refine ah.pure (S.dY (p.rules.getD i default).ex p.states.length false (by have:=hr.ex; omega)) rfl ?_
     conv=>whnf
     refine ah.pure (S.dY (p.rules.getD i default).all p.states.length false (by have:=hr.all; omega)) rfl ?_
     conv=>whnf
     refine ah.pure (S.fZ p (p.rules.getD i default).read) rfl ?_
     conv=>whnf
     refine ah.pure (S.fZ p (p.rules.getD i default).write) rfl ?_
     conv=>whnf
     refine ah.pure (S.dY (p.rules.getD i default).send p.messages.length false (by have:=hr.send; omega)) rfl ?_
     conv=>whnf
     refine ah.pure (S.bK [xR p (p.rules.getD i default).guards,jo (p.rules.getD i default).ex p.states.length,jo (p.rules.getD i default).all p.states.length,jH p (p.rules.getD i default).read,jH p (p.rules.getD i default).write,jo (p.rules.getD i default).send p.messages.length] true (show 6<2^40 by decide)) rfl ?_
     conv=>whnf
     exact aj.int (by rw[gQ,show rJ p i=false from h1,show qO p i=false from h2,show(wW p (p.rules.getD i default) !=0)=false from h3,h4]; rfl)
    ·conv=>whnf
     refine⟨fun h5=>?_,fun h5=>?_⟩
     ·conv=>whnf
      refine ah.pure (S.bV (p.rules.getD i default).dS p.states.length) rfl ?_
      conv=>whnf
      refine ah.pure (S.bV (p.rules.getD i default).wX p.states.length) rfl ?_
      conv=>whnf
      refine ah.pure (S.fZ p (p.rules.getD i default).read) rfl ?_
      conv=>whnf
      refine ah.pure (S.fZ p (p.rules.getD i default).write) rfl ?_
      conv=>whnf
      refine ah.pure (S.bK [dh (p.rules.getD i default).dS p.states.length,dh (p.rules.getD i default).wX p.states.length,jH p (p.rules.getD i default).read,jH p (p.rules.getD i default).write] true (show 4<2^40 by decide)) rfl ?_
      conv=>whnf
      exact aj.int (by rw[gQ,show rJ p i=false from h1,show qO p i=false from h2,show(wW p (p.rules.getD i default) !=0)=false from h3,h4,h5]; rfl)
     ·conv=>whnf
      refine⟨fun h6=>?_,fun h6=>?_⟩
      ·conv=>whnf
       refine ah.pure (S.jR (p.rules.getD i default).response p.states.length false (by have:=hr.response; omega)) rfl ?_
       conv=>whnf
       refine ah.pure (S.fZ p (p.rules.getD i default).read) rfl ?_
       conv=>whnf
       refine ah.pure (S.fZ p (p.rules.getD i default).write) rfl ?_
       conv=>whnf
       refine ah.pure (S.bK [Ei (p.rules.getD i default).response p.states.length,jH p (p.rules.getD i default).read,jH p (p.rules.getD i default).write] true (show 3<2^40 by decide)) rfl ?_
       conv=>whnf
       exact aj.int (by rw[gQ,show rJ p i=false from h1,show qO p i=false from h2,show(wW p (p.rules.getD i default) !=0)=false from h3,h4,h5,h6]; rfl)
      ·conv=>whnf
       refine⟨fun h7=>?_,fun h7=>?_⟩
       ·conv=>whnf
        repeat(refine VC.mk (by first|exact id|(intro h; rw[h]; rfl)|(intro h; simp_all; done)) ?_; conv=>whnf)
        refine ah.pure (S.dY (p.rules.getD i default).left p.states.length false (by have:=hr.left; omega)) rfl ?_
        conv=>whnf
        refine ah.pure (S.dY (p.rules.getD i default).right p.states.length false (by have:=hr.right; omega)) rfl ?_
        conv=>whnf
        refine ah.pure (S.dY (p.rules.getD i default).parent p.states.length false (by have:=hr.parent; omega)) rfl ?_
        conv=>whnf
        refine ah.pure (S.bU (aaj p (p.rules.getD i default)) 1) rfl ?_
        conv=>whnf
        refine ah.pure (S.bK [jo (p.rules.getD i default).left p.states.length,jo (p.rules.getD i default).right p.states.length,jo (p.rules.getD i default).parent p.states.length,dM (aaj p (p.rules.getD i default)) 1] true (show 4<2^40 by decide)) rfl ?_
        conv=>whnf
        exact aj.int (by rw[gQ,show rJ p i=false from h1,show qO p i=false from h2,show(wW p (p.rules.getD i default) !=0)=false from h3,h4,h5,h6,h7]; rfl)
       ·conv=>whnf
        refine⟨fun h8=>?_,fun h8=>?_⟩
        ·conv=>whnf
         refine ah.pure (S.bV (p.rules.getD i default).dS p.states.length) rfl ?_
         conv=>whnf
         refine ah.pure (S.bV (p.rules.getD i default).wX p.states.length) rfl ?_
         conv=>whnf
         repeat(refine VC.mk (by first|exact id|exact fun h=>⟨h,h⟩|(intro h; rw[h]; rfl)) ?_; conv=>whnf)
         refine ah.pure (S.bU (decide ((p.rules.getD i default).direction<3)||decide ((p.rules.getD i default).direction>4)) 1) rfl ?_
         conv=>whnf
         refine ah.pure (S.bK [dh (p.rules.getD i default).dS p.states.length,dh (p.rules.getD i default).wX p.states.length,dM (decide ((p.rules.getD i default).direction<3)||decide ((p.rules.getD i default).direction>4)) 1] true (show 3<2^40 by decide)) rfl ?_
         conv=>whnf
         exact aj.int (by rw[gQ,show rJ p i=false from h1,show qO p i=false from h2,show(wW p (p.rules.getD i default) !=0)=false from h3,h4,h5,h6,h7,h8]; rfl)
        ·conv=>whnf
         refine ah.pure (S.bV (p.rules.getD i default).dS p.states.length) rfl ?_
         conv=>whnf
         refine ah.pure (S.bV (p.rules.getD i default).wX p.states.length) rfl ?_
         conv=>whnf
         repeat(refine VC.mk (by first|exact id|exact fun h=>⟨h,h⟩|(intro h; rw[h]; rfl)) ?_; conv=>whnf)
         refine ah.pure (S.bU (decide ((p.rules.getD i default).direction<1)||decide ((p.rules.getD i default).direction>2)) 1) rfl ?_
         conv=>whnf
         refine ah.pure (S.bK [dh (p.rules.getD i default).dS p.states.length,dh (p.rules.getD i default).wX p.states.length,dM (decide ((p.rules.getD i default).direction<1)||decide ((p.rules.getD i default).direction>2)) 1] true (show 3<2^40 by decide)) rfl ?_
         conv=>whnf
         exact aj.int (by rw[gQ,show rJ p i=false from h1,show qO p i=false from h2,show(wW p (p.rules.getD i default) !=0)=false from h3,h4,h5,h6,h7,h8]; rfl)
def xQ(g:zT):List zT->Nat->Int
 |[],_=> -1
 |x::r,i=>bif g==x then(i:Int) else xQ g r (i+1)
theorem Ri{g:zT}{l:List zT}{i:Nat}:decide (0<=xQ g l i)=l.any fun x=>g==x:=by
 have: ∀ {l:List zT} {i:Nat},0<=xQ g l i↔(l.any fun x=>g==x)=true:=by
  intro l
  induction l with
  |nil=>intro i; simp[xQ]
  |cons x r ih =>
   intro i
   rw[List.any_cons,Bool.or_eq_true,<- ih (i:=i+1)]
   show(0:Int)<=(bif g==x then(i:Int) else xQ g r (i+1))↔_
   generalize (g==x)=b
   cases b<;>simp
 rw[Bool.eq_iff_iff,decide_eq_true_eq]; exact this
theorem S.aaw(l:List zT)(g:zT)(f:Bool)(hl:l.length<2^40):ak Tryz.prog 175 [.row 7 f (.qH l),.dat (.RF g)] (.int (xQ g l 0)):=by
 refine ak.of Bd.eH (by simp) rfl rfl ?_
 conv=>whnf
 refine aG.same [0,3,6,7] (fun i:Nat=>[(8,.int i)]) (fun i=>i<=l.length/\xQ g l 0=xQ g (l.drop i) i) (fun i=>l.length-i) 0 rfl (by decide) rfl (fun _=>rfl) ⟨by omega,by simp⟩ ⟨⟨_,rfl,rfl⟩,trivial⟩ ?_
 conv=>whnf
 refine⟨rfl,?_⟩
 rintro i ⟨hi,hall⟩
 conv=>whnf
 refine⟨fun h3=>?_,fun h3=>?_⟩
 ·have hi':i<l.length:=by simpa using h3
  rw[dB default hi'] at hall
  simp only[xQ] at hall
  conv=>whnf
  refine .mk (by simp only[Rw.rng] at *; first|omega|(simp_all; done)|(simp_all; omega)) ?_
  conv=>whnf
  refine⟨fun h4=>?_,fun h4=>?_⟩
  ·conv=>whnf
   refine aj.int ?_
   have h4':(g==l.getD i default)=true:=h4
   rw[hall,h4']; rfl
  ·conv=>whnf
   refine .mk (by simp only[okI] at *; first|omega|(simp_all; done)|(simp_all; omega)) ?_
   conv=>whnf
   refine⟨i+1,⟨by omega,?_⟩,by omega,⟨⟨_,rfl,rfl⟩,trivial⟩,?_,rfl⟩
   ·have h4':(g==l.getD i default)=false:=h4
    rw[hall,h4']; rfl
   ·repeat' (first|exact trivial|exact⟨_,rfl,rfl⟩|constructor)
 ·conv=>whnf
  refine aj.int ?_
  have hi':l.length<=i:=by simpa using h3
  rw[hall,List.drop_eq_nil_of_le hi']; rfl
theorem S.Ry(l:List zT)(g:zT)(f:Bool)(hl:l.length<2^40):ak Tryz.prog 164 [.row 7 f (.qH l),.dat (.RF g)] (.bool (l.any fun x=>g==x)):=by
 refine ak.of Bd.dR (by simp) rfl rfl ?_
 conv=>whnf
 refine ah.pure (S.aaw l g f hl) rfl ?_
 conv=>whnf
 exact aj.bool Ri.symm
theorem aag{h:Hz}{j:Nat}{Z:Nat->Prop}{l:List zT}(hz:Z j)(q:h.get j=some (.row 148 7 (.qH l) [])):T.sub Z h.au (V.row 7 false (.qH l)).aF (V.own j).aF:=by
 show T.sub Z h.au (.sl 7 false (l.map Qh)) (.own j)
 simp only[T.sub]
 refine⟨trivial,hz,?_,by decide,148,?_⟩
 ·rw[iw]; intro t ht; obtain⟨x,_,rfl⟩:=List.mem_map.1 ht; rfl
 ·have:=aQ q
  rw[this]; simp[OV.aA,Rw.aW,V.aW]
theorem Bh{α β:Type}{f:β->α->β}{b:β}{l:List α}{i:Nat}{d:α}(h:i<l.length):(l.take (i+1)).foldl f b=f ((l.take i).foldl f b) (l.getD i d):=by
 rw[List.take_add_one,List.foldl_append]
 simp[List.getElem?_eq_getElem h]
theorem aj.afl{h:Hz}{j:Nat}{l:List zT}(q:h.get j=some (.row 148 7 (.qH l) [])):aj (.row 7 false (.qH l)) (.own j) h:=⟨aag trivial q⟩
def Ih(acc:List zT)(g:zT):List zT:=bif acc.any (fun x=>g==x) then acc else acc++[g]
def yX(l:List Rule):List zT:=(l.flatMap Rule.guards).foldl Ih []
theorem aax{acc:List zT}{g:zT}:(Ih acc g).length<=acc.length+1:=by
 unfold Ih; cases acc.any (fun x=>g==x)<;>simp
theorem Rz: ∀ {l acc:List zT},(l.foldl Ih acc).length<=acc.length+l.length:=by
 intro l
 induction l with
 |nil=>intro acc; simp
 |cons g r ih =>
  intro acc
  have:=ih (acc:=Ih acc g)
  have h2:=aax (acc:=acc) (g:=g)
  simp only[List.foldl_cons,List.length_cons]; omega
abbrev rowT(l:List zT):OV:=.row 148 7 (.qH l) []
def yY(p:aP)(i k:Nat):List zT:=((p.rules.getD i default).guards.take k).foldl Ih (yX (p.rules.take i))
theorem Rj(p:aP)(hp:fM p)(i k:Nat)(_hi:i<p.rules.length):(yY p i k).length<2^31:=by
 have h1:=Rz (l:=(p.rules.getD i default).guards.take k) (acc:=yX (p.rules.take i))
 have h2:=Rz (l:=(p.rules.take i).flatMap Rule.guards) (acc:=[])
 have h3:=(hp.rule i).guards
 have h4:((p.rules.take i).flatMap Rule.guards).length<=(p.rules.flatMap Rule.guards).length:=by
  conv=>rhs; rw[<- List.take_append_drop i p.rules,List.flatMap_append,List.length_append]
  omega
 have h5:=hp.qH
 have h6:((p.rules.getD i default).guards.take k).length<=(p.rules.getD i default).guards.length:=by simp[List.length_take]; omega
 unfold yY
 unfold yX at h1 ⊢
 simp only[List.length_nil,Nat.zero_add] at h2
 omega
theorem Nl(p:aP){i:Nat}(hi:i<p.rules.length):yX (p.rules.take (i+1))=yY p i (p.rules.getD i default).guards.length:=by
 unfold yY
 rw[List.take_of_length_le (Nat.le_refl _)]
 unfold yX
 rw[List.take_add_one,List.flatMap_append,List.foldl_append]
 simp[List.getElem?_eq_getElem hi]
theorem S.jr(p:aP)(hp:fM p):ak Tryz.prog 135 [.dat (.iU p)] (.row 7 false (.qH (yX p.rules))):=by
 have hp1:=hp.rules
 refine ak.of Bd.jr (by simp) rfl rfl ?_
 conv=>whnf
 refine aG.nil 3 148 7 (by rfl) rfl rfl rfl ?_
 refine aG.objs 1 [9,10] (fun i:Nat=>[(11,.int i),(3,.own 0)]) (fun i=>[(0,rowT (yX (p.rules.take i)))]) (fun i=>i<=p.rules.length) (fun i=>p.rules.length-i) 0 [7] rfl (by decide) (fun _=>rfl) (Nat.zero_le _) ?_ ?_ ?_
 ·exact(sR rfl)
 ·exact⟨⟨rfl,nofun,rfl,rfl,rfl,_,rfl,rfl,rfl,aI.of_eq rfl⟩,trivial⟩
 conv=>whnf
 refine⟨(sR rfl),rfl,?_⟩
 rintro i hi
 conv=>whnf
 refine⟨fun h3=>?_,fun h3=>?_⟩
 ·have hi':i<p.rules.length:=by simpa using h3
  conv=>whnf
  refine .mk (by simp only[Rw.rng] at *; first|omega|(simp_all; done)|(simp_all; omega)) ?_
  conv=>whnf
  refine aG.objs 1 [9,10,11,16,17] (fun k:Nat=>[(18,.int k),(3,.own 0)]) (fun k=>[(0,rowT (yY p i k))]) (fun k=>k<=(p.rules.getD i default).guards.length) (fun k=>(p.rules.getD i default).guards.length-k) 0 [0] rfl (by decide) (fun _=>rfl) (Nat.zero_le _) ?_ ?_ ?_
  ·exact(sR rfl)
  ·exact⟨⟨rfl,nofun,rfl,rfl,rfl,_,rfl,rfl,rfl,aI.of_eq rfl⟩,trivial⟩
  conv=>whnf
  refine⟨(sR rfl),rfl,?_⟩
  rintro k hk
  have hacc:=Rj p hp i k hi'
  have hg:=(hp.rule i).guards
  conv=>whnf
  refine⟨fun h4=>?_,fun h4=>?_⟩
  ·have hk':k<(p.rules.getD i default).guards.length:=by simpa using h4
   have hst:yY p i (k+1)=Ih (yY p i k) ((p.rules.getD i default).guards.getD k default):=Bh hk'
   conv=>whnf
   refine .mk (by simp only[Rw.rng] at *; first|omega|(simp_all; done)|(simp_all; omega)) ?_
   conv=>whnf
   refine ah.lend (S.Ry (yY p i k) ((p.rules.getD i default).guards.getD k default) false (by omega)) (And.intro (aag trivial rfl) (And.intro (aH _) trivial)) rfl rfl ?_
   conv=>whnf
   refine⟨fun h5=>?_,fun h5=>?_⟩
   ·conv=>whnf
    repeat(refine VC.mk (by first|(show((yY p i k).length+(0+1))*48<=140737488355328/\(yY p i k).length+(0+1)<=1152921504606846976; omega)|(simp only[okI] at *; first|omega|(simp_all; done)|(simp_all; omega))) ?_; conv=>whnf)
    have h5':((yY p i k).any fun x=>(p.rules.getD i default).guards.getD k default==x)=false:=by simpa using h5
    refine⟨k+1,[13],by omega,by omega,(sR rfl),(sR rfl),⟨rfl,nofun,rfl,rfl,rfl,_,rfl,rfl,rfl,aI.of_eq ?_⟩,trivial⟩
    rw[hst,Ih,h5']
    rfl
   ·conv=>whnf
    refine .mk (by simp only[okI] at *; first|omega|(simp_all; done)|(simp_all; omega)) ?_
    conv=>whnf
    have h5':((yY p i k).any fun x=>(p.rules.getD i default).guards.getD k default==x)=true:=by simpa using h5
    refine⟨k+1,[0],by omega,by omega,(sR rfl),(sR rfl),⟨rfl,nofun,rfl,rfl,rfl,_,rfl,rfl,rfl,aI.of_eq ?_⟩,trivial⟩
    rw[hst,Ih,h5']; rfl
  ·have hk':(p.rules.getD i default).guards.length<=k:=by simpa using h4
   have e:k=(p.rules.getD i default).guards.length:=Nat.le_antisymm hk hk'
   subst e
   conv=>whnf
   refine .mk (by simp only[okI] at *; first|omega|(simp_all; done)|(simp_all; omega)) ?_
   conv=>whnf
   refine⟨i+1,[0],by omega,by omega,(sR rfl),(sR rfl),⟨rfl,nofun,rfl,rfl,rfl,_,rfl,rfl,rfl,aI.of_eq ?_⟩,trivial⟩
   rw[Nl p hi']
 ·have hi':p.rules.length<=i:=by simpa using h3
  rw[List.take_of_length_le hi']
  conv=>whnf
  exact aj.afl rfl
def uM(p:aP):Bool:=decide (p.topology<1)||decide (p.topology>4)||decide (p.fault<0)||decide (p.fault>3)
def vS(p:aP):Bool:=decide ((p.states.length:Int)>6)||decide ((p.messages.length:Int)>3)||decide ((p.values.length:Int)>3)||decide ((p.bZ.length:Int)>4)||decide ((p.rules.length:Int)>8)
def Rl(p:aP):Bool:=(!(p.topology==1)&&(decide ((p.messages.length:Int)>0)||decide ((p.values.length:Int)>0)||decide ((p.bZ.length:Int)>0)||p.fault !=0))||((p.topology==1)&&decide ((p.leader.length:Int)>0))
def yw(p:aP):Int:=bH [jo p.initial p.states.length,dM ((p.initial.length:Int)==0) 1,jo p.leader p.states.length]
def Df(p:aP):Int:=bH ((List.range p.rules.length).map (gQ p))
def bg(p:aP):Int :=
 bif !(validName p.name) then 2 else bif uM p then 1 else bif (p.states.length:Int)==0 then 1 else bif vS p then 4 else
 bif zG p !=0 then zG p else bif Rl p then 1 else
 bif p.bZ.any (fun l=> !(Q8 l)) then 4 else
 bif yw p !=0 then yw p else
 bif Df p !=0 then Df p else dM (decide (((yX p.rules).length:Int)>3)) 4
theorem KH{n i:Nat}{f:Nat->Int}(h:i<n):((List.range n).drop i).map f=f i::((List.range n).drop (i+1)).map f:=by
 rw[List.drop_eq_getElem_cons (by simpa using h)]; simp
theorem S.iW(p:aP)(hp:fM p):ak Tryz.prog 107 [.dat (.iU p)] (.int (bg p)):=by
 have g1:=hp.states; have g2:=hp.messages; have g3:=hp.values; have g4:=hp.bZ; have g5:=hp.initial; have g6:=hp.leader; have g7:=hp.rules
 refine ak.of Bd.iW (by simp) rfl rfl ?_
 conv=>whnf
 refine ah.pure (S.gI p.name) rfl ?_
 conv=>whnf
 refine⟨fun h1=>?_,fun h1=>?_⟩
 ·conv=>whnf
  exact aj.int (by rw[bg,h1]; rfl)
 conv=>whnf
 repeat(refine VC.mk (by first|exact id|(intro h; rw[h]; rfl)) ?_; conv=>whnf)
 refine⟨fun h2=>?_,fun h2=>?_⟩
 ·conv=>whnf
  exact aj.int (by rw[bg,h1,show uM p=true from h2]; rfl)
 conv=>whnf
 refine⟨fun h3=>?_,fun h3=>?_⟩
 ·conv=>whnf
  exact aj.int (by rw[bg,h1,show uM p=false from h2,h3]; rfl)
 conv=>whnf
 repeat(refine VC.mk (by first|exact id|(intro h; rw[h]; rfl)) ?_; conv=>whnf)
 refine⟨fun h4=>?_,fun h4=>?_⟩
 ·conv=>whnf
  exact aj.int (by rw[bg,h1,show uM p=false from h2,h3,show vS p=true from h4]; rfl)
 conv=>whnf
 have h0:0<p.states.length:=by
  rcases Nat.eq_zero_or_pos p.states.length with e|e
  ·rw[e] at h3; exact absurd h3 (by decide)
  ·exact e
 refine ah.pure (S.oG p h0 g1 g2 g3) rfl ?_
 conv=>whnf
 refine⟨fun h5=>?_,fun h5=>?_⟩
 ·conv=>whnf
  exact aj.int (by rw[bg,h1,show uM p=false from h2,h3,show vS p=false from h4,h5]; rfl)
 conv=>whnf
 repeat(refine VC.mk (by first|exact id|(intro h; rw[h]; rfl)|(intro h; simp_all; done)) ?_; conv=>whnf)
 refine⟨fun h6=>?_,fun h6=>?_⟩
 ·conv=>whnf
  exact aj.int (by rw[bg,h1,show uM p=false from h2,h3,show vS p=false from h4,h5,show Rl p=true from h6]; rfl)
 conv=>whnf
 refine aG.same [1,4,111,112] (fun i:Nat=>[(113,.int i)]) (fun i=>i<=p.bZ.length/\(p.bZ.take i).any (fun l=> !(Q8 l))=false) (fun i=>p.bZ.length-i) 0 rfl (by decide) rfl (fun _=>rfl) ⟨by omega,by simp⟩ ⟨⟨_,rfl,rfl⟩,trivial⟩ ?_
 conv=>whnf
 refine⟨rfl,?_⟩
 rintro i ⟨hi,hall⟩
 conv=>whnf
 refine⟨fun h7=>?_,fun h7=>?_⟩
 ·have hi':i<p.bZ.length:=by simpa using h7
  conv=>whnf
  refine .mk (by simp only[Rw.rng] at *; omega) ?_
  conv=>whnf
  refine ah.pure (S.jE (p.bZ.getD i default)) rfl ?_
  conv=>whnf
  refine⟨fun h8=>?_,fun h8=>?_⟩
  ·conv=>whnf
   exact aj.int (by rw[bg,h1,show uM p=false from h2,h3,show vS p=false from h4,h5,show Rl p=false from h6,nU (d:=default) hi' h8]; rfl)
  ·conv=>whnf
   refine .mk (by simp only[okI] at *; omega) ?_
   conv=>whnf
   refine⟨i+1,⟨by omega,?_⟩,by omega,⟨⟨_,rfl,rfl⟩,trivial⟩,?_,rfl⟩
   ·rw[qP (d:=default) hi' hall]; exact h8
   ·repeat' (first|exact trivial|exact⟨_,rfl,rfl⟩|constructor)
 have hi':p.bZ.length<=i:=by simpa using h7
 rw[List.take_of_length_le hi'] at hall
 conv=>whnf
 refine ah.pure (S.dY p.initial p.states.length false (by omega)) rfl ?_
 conv=>whnf
 refine ah.pure (S.bU ((p.initial.length:Int)==0) 1) rfl ?_
 conv=>whnf
 refine ah.pure (S.dY p.leader p.states.length false (by omega)) rfl ?_
 conv=>whnf
 refine ah.pure (S.bK [jo p.initial p.states.length,dM ((p.initial.length:Int)==0) 1,jo p.leader p.states.length] true (show 3<2^40 by decide)) rfl ?_
 conv=>whnf
 refine⟨fun h9=>?_,fun h9=>?_⟩
 ·conv=>whnf
  exact aj.int (by rw[bg,h1,show uM p=false from h2,h3,show vS p=false from h4,h5,show Rl p=false from h6,hall,show(yw p !=0)=true from h9]; rfl)
 conv=>whnf
 refine aG.same [1,140,141] (fun i:Nat=>[(142,.int i)]) (fun i=>i<=p.rules.length/\Df p=bH (((List.range p.rules.length).drop i).map (gQ p))) (fun i=>p.rules.length-i) 0 rfl (by decide) rfl (fun _=>rfl) ⟨by omega,by simp[Df]⟩ ⟨⟨_,rfl,rfl⟩,trivial⟩ ?_
 conv=>whnf
 refine⟨rfl,?_⟩
 rintro i ⟨hi,hr⟩
 conv=>whnf
 refine⟨fun h10=>?_,fun h10=>?_⟩
 ·have hi':i<p.rules.length:=by simpa using h10
  rw[KH hi'] at hr
  simp only[bH] at hr
  conv=>whnf
  refine ah.pure (S.jQ p i hi' hp) rfl ?_
  conv=>whnf
  refine⟨fun h11=>?_,fun h11=>?_⟩
  ·conv=>whnf
   have aed:gQ p i≠0:=Rk h11
   rw[if_neg aed] at hr
   exact aj.int (by rw[bg,h1,show uM p=false from h2,h3,show vS p=false from h4,h5,show Rl p=false from h6,hall,show(yw p !=0)=false from h9,hr,h11]; rfl)
  ·conv=>whnf
   refine .mk (by simp only[okI] at *; omega) ?_
   conv=>whnf
   have aed:gQ p i=0:=Ce h11
   rw[if_pos aed] at hr
   refine⟨i+1,⟨by omega,hr⟩,by omega,⟨⟨_,rfl,rfl⟩,trivial⟩,?_,rfl⟩
   repeat' (first|exact trivial|exact⟨_,rfl,rfl⟩|constructor)
 have hi':p.rules.length<=i:=by simpa using h10
 rw[List.drop_eq_nil_of_le (by simpa using hi')] at hr
 conv=>whnf
 refine ah.pure (S.jr p hp) rfl ?_
 conv=>whnf
 refine ah.pure (S.bU (decide (((yX p.rules).length:Int)>3)) 4) rfl ?_
 conv=>whnf
 exact aj.int (by rw[bg,h1,show uM p=false from h2,h3,show vS p=false from h4,h5,show Rl p=false from h6,hall,show(yw p !=0)=false from h9,hr]; rfl)
theorem aj.eqv{a b:V}{h:Hz}(e:a.aF=b.aF):aj a b h:=⟨by rw[e]; exact aH _⟩
def Ro(acc:Bool)(r:Rule):Bool:=acc&&(r.kind==1)&&decide (r.fr<r.to)&&((r.ex.length:Int)==0)&&((r.all.length:Int)==0)
def KL(acc:Bool)(r:Rule):Bool:=acc||decide ((r.all.length:Int)>0)
def qM(p:aP):Bool:=(p.topology==1)&&(p.fault==0)&&((p.messages.length:Int)==0)&&((p.bZ.length:Int)==0)
structure Cls where
 RF:Bool
 cover:Bool
 word:Bool
 tree:Bool
 monadic:Bool
def iV(p:aP):Cls :=
 ⟨(p.topology==1)&&((p.values.length:Int)==0)&&p.rules.foldl Ro true,qM p&& !(p.rules.foldl KL false),(p.topology==2)||(p.topology==3),p.topology==4,qM p&&decide ((p.states.length:Int)<=4)⟩
def afn(c:Cls):V:=.agg [.bool c.RF,.bool c.cover,.bool c.word,.bool c.tree,.bool c.monadic]
def G7:Cls:=⟨false,false,false,false,false⟩
def G5(p:aP):V:=.cO [afn (bif bg p !=0 then G7 else iV p),.int (bg p)]
theorem S.gY(p:aP)(hp:fM p):ak Tryz.prog 69 [.dat (.iU p)] (G5 p):=by
 have g1:=hp.states; have g2:=hp.messages; have g3:=hp.values; have g4:=hp.bZ; have g7:=hp.rules
 refine ak.of Bd.gY (by simp) rfl rfl ?_
 conv=>whnf
 refine ah.pure (S.iW p hp) rfl ?_
 conv=>whnf
 refine⟨fun h1=>?_,fun h1=>?_⟩
 ·conv=>whnf
  refine aj.eqv ?_
  rw[G5,h1]; rfl
 have h1':bg p=0:=Ce h1
 conv=>whnf
 refine aG.same [1,2,3,18,19] (fun i:Nat=>[(20,.int i),(5,.bool ((p.rules.take i).foldl Ro true)),(6,.bool ((p.rules.take i).foldl KL false))]) (fun i=>i<=p.rules.length) (fun i=>p.rules.length-i) 0 rfl (by decide) rfl (fun _=>rfl) (Nat.zero_le _) ⟨⟨_,rfl,rfl⟩,⟨_,rfl,rfl⟩,⟨_,rfl,rfl⟩,trivial⟩ ?_
 conv=>whnf
 refine⟨rfl,?_⟩
 rintro i hi
 have g8:=hp.rule i
 have g9:=g8.ex; have g10:=g8.all
 conv=>whnf
 refine⟨fun h7=>?_,fun h7=>?_⟩
 ·have hi':i<p.rules.length:=by simpa using h7
  conv=>whnf
  repeat(refine VC.mk (by first|exact id|exact fun h=>⟨h,h⟩|(intro h; rw[h]; rfl)|(simp only[okI,Rw.rng] at *; omega)) ?_; conv=>whnf)
  refine⟨i+1,by omega,by omega,⟨⟨_,rfl,rfl⟩,⟨_,rfl,?_⟩,⟨_,rfl,?_⟩,trivial⟩,?_,rfl⟩
  ·rw[Bh (d:=default) hi']; rfl
  ·rw[Bh (d:=default) hi']; rfl
  ·repeat' (first|exact trivial|exact⟨_,rfl,rfl⟩|constructor)
 have hi':p.rules.length<=i:=by simpa using h7
 rw[List.take_of_length_le hi']
 conv=>whnf
 repeat(refine VC.mk (by first|exact id|(intro h; rw[h]; rfl)) ?_; conv=>whnf)
 refine aj.eqv ?_
 rw[G5,h1']
 rfl
def lS(r:Rule)(t:Int):Bool :=
 bif !(r.kind==1)&&(decide ((r.guards.length:Int)>0)||decide ((r.ex.length:Int)>0)||decide ((r.all.length:Int)>0)||decide ((r.send.length:Int)>0)) then true else
 bif !(r.kind==1)&& !(r.kind==2)&& !(r.kind==3)&&(r.read != -1||r.write != -1) then true else
 bif !(r.kind==2)&& !(r.kind==5)&&(r.dS !=0||r.wX !=0) then true else
 bif (!(r.kind==3)&&decide ((r.response.length:Int)>0))||(!(r.kind==5)&&r.direction !=0) then true else
 bif !(r.kind==4)&&(r.pos !=0||decide ((r.left.length:Int)>0)||decide ((r.right.length:Int)>0)) then true else
 decide ((r.parent.length:Int)>0)&& !((r.kind==4)&&(t==4))
theorem gt0{n:Nat}:decide ((n:Int)>0)= !(n==0):=by
 cases n with
 |zero=>rfl
 |succ n=>rw[decide_eq_true (by omega)]; rfl
theorem afZ(a b c d e f g h:Nat):decide ((a:Int)+b+c+d+e+f+g+h>0)=(!(a==0)|| !(b==0)|| !(c==0)|| !(d==0)|| !(e==0)|| !(f==0)|| !(g==0)|| !(h==0)):=by
 rw[Bool.eq_iff_iff]
 simp only[decide_eq_true_eq,Bool.or_eq_true,Bool.not_eq_true',beq_eq_false_iff_ne,ne_eq]
 omega
theorem Ae{r:Rule}{t:Int}(h:1<=r.kind/\r.kind<=5):lS r t=kJ r t:=by
 have hk:r.kind=1\/r.kind=2\/r.kind=3\/r.kind=4\/r.kind=5:=by omega
 simp only[lS,kJ,D7,gt0,afZ,bne]
 generalize (r.guards.length==0)=g1
 generalize (r.ex.length==0)=g2
 generalize (r.all.length==0)=g3
 generalize (r.send.length==0)=g4
 generalize (r.response.length==0)=g5
 generalize (r.left.length==0)=g6
 generalize (r.right.length==0)=g7
 generalize (r.parent.length==0)=g8
 generalize (r.read== -1)=g9
 generalize (r.write== -1)=g10
 generalize (r.dS==0)=g11
 generalize (r.wX==0)=g12
 generalize (r.direction==0)=g13
 generalize (r.pos==0)=g14
 rcases hk with hk|hk|hk|hk|hk<;>rw[hk] <;>
  (first
   |(simp; done)
   |(cases (t==4)<;>simp<;>grind)
   |(simp; grind))
end Go.Proofs.YtkmldgihhaooaaaGreatDoor
