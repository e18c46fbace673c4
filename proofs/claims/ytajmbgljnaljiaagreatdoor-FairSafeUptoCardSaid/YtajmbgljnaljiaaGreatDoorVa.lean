/-
 A part of the proof. No condition.
-/
import Derived.Test.YtajmbgljnaljiaaGreatDoorNb
import Derived.Test.YtajmbgljnaljiaaGreatDoorLg
namespace Go.Proofs.YtajmbgljnaljiaaGreatDoor
open Go.Ab Go.Proofs
set_option maxRecDepth 100000
def fE(b:Bool)(e:Int):Int:=bif b then e else 0
theorem S.bU(b:Bool)(e:Int):aj Tryz.prog 103 [.bool b,.int e] (.int (fE b e)):=by
 refine aj.of Bd.bU (by simp) rfl rfl ?_
 conv=>whnf
 refine⟨fun h=>?_,fun h=>?_⟩
 ·conv=>whnf
  exact ak.int (by rw[h]; rfl)
 ·conv=>whnf
  exact ak.int (by rw[h]; rfl)
def oM(i n:Int):Bool:=decide (i<0)||decide (i>=n)
def dG(i n:Int):Int:=fE (oM i n) 5
theorem S.bV(i n:Int):aj Tryz.prog 130 [.int i,.int n] (.int (dG i n)):=by
 refine aj.of Bd.bV (by simp) rfl rfl ?_
 conv=>whnf
 repeat(refine VC.mk (by first|exact fun h=>⟨h,h⟩|(intro h; rw[h]; rfl)) ?_; conv=>whnf)
 refine ah.pure (S.bU (oM i n) 5) rfl ?_
 conv=>whnf
 exact ak.int rfl
def bJ:List Int->Int
 |[]=>0
 |e::r=>if e=0 then bJ r else e
theorem S.bM(l:List Int)(f:Bool)(hl:l.length<2^40):aj Tryz.prog 102 [.row 0 f (.ints l)] (.int (bJ l)):=by
 refine aj.of Bd.bM (by simp) rfl rfl ?_
 conv=>whnf
 refine aI.same [5,6] (fun i:Nat=>[(7,.int i)]) (fun i=>i<=l.length/\bJ l=bJ (l.drop i)) (fun i=>l.length-i) 0 rfl (by decide) rfl (fun _=>rfl) ⟨by omega,by simp⟩ ⟨⟨_,rfl,rfl⟩,trivial⟩ ?_
 conv=>whnf
 refine⟨rfl,?_⟩
 rintro i ⟨hi,hall⟩
 conv=>whnf
 refine⟨fun h3=>?_,fun h3=>?_⟩
 ·have hi':i<l.length:=by simpa using h3
  rw[dO 0 hi'] at hall
  simp only[bJ] at hall
  conv=>whnf
  refine .mk (by simp only[Rw.rng] at *; omega) ?_
  conv=>whnf
  refine⟨fun h4=>?_,fun h4=>?_⟩
  ·conv=>whnf
   refine ak.int ?_
   have:l.getD i 0≠0:=by simpa using h4
   rw[hall,if_neg this]; rfl
  ·conv=>whnf
   refine .mk (by simp only[okI] at *; omega) ?_
   conv=>whnf
   have:l.getD i 0=0:=by simpa using h4
   rw[if_pos this] at hall
   refine⟨i+1,⟨by omega,hall⟩,by omega,⟨⟨_,rfl,rfl⟩,trivial⟩,?_,rfl⟩
   repeat' (first|exact trivial|exact⟨_,rfl,rfl⟩|constructor)
 ·conv=>whnf
  refine ak.int ?_
  have hi':l.length<=i:=by simpa using h3
  rw[hall,List.drop_eq_nil_of_le hi']; rfl
def KF:List Int->Bool
 |a::b::r=>decide (a<b)&&KF (b::r)
 |_=>true
def jw(l:List Int)(n:Int):Int:=bif l.any (fun i=>oM i n) then 5 else bif KF l then 0 else 1
theorem S.dJ(l:List Int)(n:Int)(f:Bool)(hl:l.length<2^40):aj Tryz.prog 101 [.row 0 f (.ints l),.int n] (.int (jw l n)):=by
 refine aj.of Bd.dJ (by simp) rfl rfl ?_
 conv=>whnf
 refine aI.same [0,1,8,9] (fun i:Nat=>[(10,.int i)]) (fun i=>i<=l.length/\(l.take i).any (fun i=>oM i n)=false) (fun i=>l.length-i) 0 rfl (by decide) rfl (fun _=>rfl) ⟨by omega,by simp⟩ ⟨⟨_,rfl,rfl⟩,trivial⟩ ?_
 conv=>whnf
 refine⟨rfl,?_⟩
 rintro i ⟨hi,hall⟩
 conv=>whnf
 refine⟨fun h3=>?_,fun h3=>?_⟩
 ·have hi':i<l.length:=by simpa using h3
  conv=>whnf
  repeat(refine VC.mk (by first|exact fun h=>⟨h,h⟩|(intro h; rw[h]; rfl)|(simp only[Rw.rng] at *; omega)) ?_; conv=>whnf)
  refine⟨fun h4=>?_,fun h4=>?_⟩
  ·conv=>whnf
   refine ak.int ?_
   rw[jw,gI (d:=0) hi' h4]; rfl
  ·conv=>whnf
   refine .mk (by simp only[okI] at *; omega) ?_
   conv=>whnf
   refine⟨i+1,⟨by omega,?_⟩,by omega,⟨⟨_,rfl,rfl⟩,trivial⟩,?_,rfl⟩
   ·rw[jE (d:=0) hi' hall]; exact h4
   ·repeat' (first|exact trivial|exact⟨_,rfl,rfl⟩|constructor)
 ·have hi':l.length<=i:=by simpa using h3
  rw[List.take_of_length_le hi'] at hall
  conv=>whnf
  refine aI.same [0] (fun i:Nat=>[(7,.int (i+1))]) (fun i=>(i<l.length\/i=0)/\KF l=KF (l.drop i)) (fun i=>l.length-i) 0 rfl (by decide) rfl (fun _=>rfl) ⟨by omega,by simp⟩ ⟨⟨_,rfl,rfl⟩,trivial⟩ ?_
  conv=>whnf
  refine⟨rfl,?_⟩
  rintro i ⟨hi,hinc⟩
  conv=>whnf
  refine⟨fun h5=>?_,fun h5=>?_⟩
  ·have hi1:i+1<l.length:=by have:=of_decide_eq_true h5; omega
   rw[dO 0 (show i<l.length by omega),dO 0 hi1] at hinc
   simp only[KF] at hinc
   rw[<- dO 0 hi1] at hinc
   conv=>whnf
   repeat(refine VC.mk (by simp only[okI,Rw.rng] at *; omega) ?_; conv=>whnf)
   refine⟨fun h6=>?_,fun h6=>?_⟩
   ·conv=>whnf
    refine ak.int ?_
    have e1:((i:Int)+1).toNat=i+1:=by omega
    have e2:((i:Int)+1-1).toNat=i:=by omega
    rw[e1,e2] at h6
    have h6':l.getD (i+1) 0<=l.getD i 0:=of_decide_eq_true h6
    rw[jw,hall,hinc,decide_eq_false (by omega)]; rfl
   ·conv=>whnf
    refine .mk (by simp only[okI] at *; omega) ?_
    conv=>whnf
    have e1:((i:Int)+1).toNat=i+1:=by omega
    have e2:((i:Int)+1-1).toNat=i:=by omega
    rw[e1,e2] at h6
    have h6': ¬ l.getD (i+1) 0<=l.getD i 0:=of_decide_eq_false h6
    rw[decide_eq_true (by omega),Bool.true_and] at hinc
    refine⟨i+1,⟨by omega,hinc⟩,by omega,⟨⟨_,rfl,rfl⟩,trivial⟩,?_,rfl⟩
    repeat' (first|exact trivial|exact⟨_,rfl,rfl⟩|constructor)
  ·conv=>whnf
   refine ak.int ?_
   have h5': ¬ ((i:Int)+1<l.length):=of_decide_eq_false h5
   have:KF l=true:=by
    rw[hinc]
    rcases hd:l.drop i with _|⟨a,_|⟨b,r⟩⟩
    ·rfl
    ·rfl
    ·have:=congrArg List.length hd
     simp only[List.length_drop,List.length_cons] at this
     omega
   rw[jw,hall,this]; rfl
def aaJ(n:Int):Bool:=decide (n>= -100)&&decide (n<=100)
theorem S.fF(n:Int):aj Tryz.prog 150 [.int n] (.bool (aaJ n)):=by
 refine aj.of Bd.fF (by simp) rfl rfl ?_
 conv=>whnf
 repeat(refine VC.mk id ?_; conv=>whnf)
 exact ak.bool rfl
def QN(l:Lin):Bool:=aaJ l.c&&aaJ l.n&&aaJ l.t&&aaJ l.f
theorem S.gZ(l:Lin):aj Tryz.prog 126 [.dat (.lin l)] (.bool (QN l)):=by
 refine aj.of Bd.gZ (by simp) rfl rfl ?_
 conv=>whnf
 refine ah.pure (S.fF l.c) rfl ?_
 conv=>whnf
 repeat(refine VC.mk id ?_; conv=>whnf)
 refine ah.iD (fun _=>S.fF l.n) rfl ?_
 conv=>whnf
 repeat(refine VC.mk id ?_; conv=>whnf)
 refine ah.iD (fun _=>S.fF l.t) rfl ?_
 conv=>whnf
 repeat(refine VC.mk id ?_; conv=>whnf)
 refine ah.iD (fun _=>S.fF l.f) rfl ?_
 conv=>whnf
 refine VC.mk id ?_
 conv=>whnf
 exact ak.bool rfl
def jQ(p:aO)(v:Int):Int:=fE (decide (v< -1)||decide (v>=p.values.length)) 5
theorem S.eP(p:aO)(v:Int):aj Tryz.prog 156 [.dat (.kS p),.int v] (.int (jQ p v)):=by
 refine aj.of Bd.eP (by simp) rfl rfl ?_
 conv=>whnf
 repeat(refine VC.mk (by first|exact id|exact fun h=>⟨h,h⟩|(intro h; rw[h]; rfl)) ?_; conv=>whnf)
 refine ah.pure (S.bU _ 5) rfl ?_
 conv=>whnf
 exact ak.int rfl
theorem QW{a:Int}(h:(a !=0)=true):a≠0:=by simpa using h
theorem IL{a:Int}(h:(a !=0)=false):a=0:=by simpa using h
def sQ(k t:Int):Bool:=bif k==1||k==2||k==3 then t==1 else bif k==4||k==5 then !(t==1) else false
theorem S.kW(k t:Int):aj Tryz.prog 153 [.int k,.int t] (.bool (sQ k t)):=by
 refine aj.of Bd.kW (by simp) rfl rfl ?_
 conv=>whnf
 refine⟨fun h1=>?_,fun h1=>?_⟩
 ·conv=>whnf
  refine Fork.mk (fun _=>?_) (fun q=>absurd (q.symm.trans (h1)) Bool.false_ne_true)
  conv=>whnf
  exact ak.bool (by simp[sQ,h1])
 ·conv=>whnf
  refine⟨fun h2=>?_,fun h2=>?_⟩
  ·conv=>whnf
   refine Fork.mk (fun _=>?_) (fun q=>absurd (q.symm.trans (h2)) Bool.false_ne_true)
   conv=>whnf
   exact ak.bool (by simp[sQ,h1,h2])
  ·conv=>whnf
   refine⟨fun h3=>?_,fun h3=>?_⟩
   ·conv=>whnf
    exact ak.bool (by simp[sQ,h1,h2,h3])
   ·conv=>whnf
    refine⟨fun h4=>?_,fun h4=>?_⟩
    ·conv=>whnf
     refine Fork.mk (fun _=>?_) (fun q=>absurd (q.symm.trans (h4)) Bool.false_ne_true)
     conv=>whnf
     exact ak.bool (by simp[sQ,h1,h2,h3,h4,bne])
    ·conv=>whnf
     refine⟨fun h5=>?_,fun h5=>?_⟩
     ·conv=>whnf
      exact ak.bool (by simp[sQ,h1,h2,h3,h4,h5,bne])
     ·conv=>whnf
      exact ak.bool (by simp[sQ,h1,h2,h3,h4,h5])
def pI:List Int->Int->Int
 |[],_=>0
 |x::r,n=>if dG x n=0 then pI r n else dG x n
def D5(l:List Int)(n:Int):Int:=bif (l.length:Int) !=n then 1 else pI l n
theorem S.gQ(l:List Int)(n:Int)(f:Bool)(hl:l.length<2^40):aj Tryz.prog 157 [.row 0 f (.ints l),.int n] (.int (D5 l n)):=by
 refine aj.of Bd.gQ (by simp) rfl rfl ?_
 conv=>whnf
 refine⟨fun h=>?_,fun h=>?_⟩
 ·conv=>whnf
  exact ak.int (by rw[D5,h]; rfl)
 ·conv=>whnf
  refine aI.same [0,1,12,13] (fun i:Nat=>[(14,.int i)]) (fun i=>i<=l.length/\pI l n=pI (l.drop i) n) (fun i=>l.length-i) 0 rfl (by decide) rfl (fun _=>rfl) ⟨by omega,by simp⟩ ⟨⟨_,rfl,rfl⟩,trivial⟩ ?_
  conv=>whnf
  refine⟨rfl,?_⟩
  rintro i ⟨hi,hall⟩
  conv=>whnf
  refine⟨fun h3=>?_,fun h3=>?_⟩
  ·have hi':i<l.length:=by simpa using h3
   rw[dO 0 hi'] at hall
   simp only[pI] at hall
   conv=>whnf
   refine .mk (by simp only[Rw.rng] at *; omega) ?_
   conv=>whnf
   refine ah.pure (S.bV (l.getD i 0) n) rfl ?_
   conv=>whnf
   refine⟨fun h4=>?_,fun h4=>?_⟩
   ·conv=>whnf
    refine ak.int ?_
    have:dG (l.getD i 0) n≠0:=by simpa using h4
    rw[D5,h,cond_false,hall,if_neg this]
   ·conv=>whnf
    refine .mk (by simp only[okI] at *; omega) ?_
    conv=>whnf
    have:dG (l.getD i 0) n=0:=by simpa using h4
    rw[if_pos this] at hall
    refine⟨i+1,⟨by omega,hall⟩,by omega,⟨⟨_,rfl,rfl⟩,trivial⟩,?_,rfl⟩
    repeat' (first|exact trivial|exact⟨_,rfl,rfl⟩|constructor)
  ·conv=>whnf
   refine ak.int ?_
   have hi':l.length<=i:=by simpa using h3
   rw[D5,h,cond_false,hall,List.drop_eq_nil_of_le hi']; rfl
def guardE(p:aO)(g:zG):Int:=bJ [dG g.message p.messages.length,fE (decide (g.Ep<1)||decide (g.Ep>100)) 1,fE (!(QN g.bound)) 4]
def jY(p:aO):List zG->Int
 |[]=>0
 |g::r=>if guardE p g=0 then jY p r else guardE p g
def wS(p:aO)(l:List zG):Int:=if jY p l=0 then fE (decide ((l.length:Int)>2)) 4 else jY p l
theorem S.jD(p:aO)(l:List zG)(f:Bool)(hl:l.length<2^40):aj Tryz.prog 155 [.dat (.kS p),.row 7 f (.qE l)] (.int (wS p l)):=by
 refine aj.of Bd.jD (by simp) rfl rfl ?_
 conv=>whnf
 refine aI.same [1,2,8,9] (fun i:Nat=>[(10,.int i)]) (fun i=>i<=l.length/\jY p l=jY p (l.drop i)) (fun i=>l.length-i) 0 rfl (by decide) rfl (fun _=>rfl) ⟨by omega,by simp⟩ ⟨⟨_,rfl,rfl⟩,trivial⟩ ?_
 conv=>whnf
 refine⟨rfl,?_⟩
 rintro i ⟨hi,hall⟩
 conv=>whnf
 refine⟨fun h3=>?_,fun h3=>?_⟩
 ·have hi':i<l.length:=by simpa using h3
  rw[dO default hi'] at hall
  simp only[jY] at hall
  conv=>whnf
  refine .mk (by simp only[Rw.rng] at *; omega) ?_
  conv=>whnf
  refine ah.pure (S.bV (l.getD i default).message p.messages.length) rfl ?_
  conv=>whnf
  repeat(refine VC.mk (by first|exact id|(intro h; rw[h]; rfl)) ?_; conv=>whnf)
  refine ah.pure (S.bU (decide ((l.getD i default).Ep<1)||decide ((l.getD i default).Ep>100)) 1) rfl ?_
  conv=>whnf
  refine ah.pure (S.gZ (l.getD i default).bound) rfl ?_
  conv=>whnf
  refine ah.pure (S.bU (!(QN (l.getD i default).bound)) 4) rfl ?_
  conv=>whnf
  refine ah.pure (S.bM [dG (l.getD i default).message p.messages.length,fE (decide ((l.getD i default).Ep<1)||decide ((l.getD i default).Ep>100)) 1,fE (!(QN (l.getD i default).bound)) 4] true (show 3<2^40 by decide)) rfl ?_
  conv=>whnf
  refine⟨fun h4=>?_,fun h4=>?_⟩
  ·conv=>whnf
   refine ak.int ?_
   have h4':guardE p (l.getD i default)≠0:=QW h4
   rw[if_neg h4'] at hall
   rw[wS,hall,if_neg h4']; rfl
  ·conv=>whnf
   refine .mk (by simp only[okI] at *; omega) ?_
   conv=>whnf
   have h4':guardE p (l.getD i default)=0:=IL h4
   rw[if_pos h4'] at hall
   refine⟨i+1,⟨by omega,hall⟩,by omega,⟨⟨_,rfl,rfl⟩,trivial⟩,?_,rfl⟩
   repeat' (first|exact trivial|exact⟨_,rfl,rfl⟩|constructor)
 ·have hi':l.length<=i:=by simpa using h3
  rw[List.drop_eq_nil_of_le hi'] at hall
  conv=>whnf
  refine ah.pure (S.bU (decide ((l.length:Int)>2)) 4) rfl ?_
  conv=>whnf
  exact ak.int (by rw[wS,hall]; rfl)
structure wX(r:Rule):Prop where
 response:r.response.length<2^30
 guards:r.guards.length<2^30
 ex:r.ex.length<2^30
 all:r.all.length<2^30
 send:r.send.length<2^30
 left:r.left.length<2^30
 right:r.right.length<2^30
 parent:r.parent.length<2^30
def Du(r:Rule):Bool :=
 decide ((r.response.length:Int)+r.guards.length+r.ex.length+r.all.length+r.send.length+r.left.length+r.right.length+r.parent.length>0)||r.gB !=0||r.AB !=0||r.pos !=0||r.direction !=0||r.read != -1||r.write != -1
def kN(r:Rule)(t:Int):Bool :=
 bif r.kind==1 then Du {r with guards:=[],ex:=[],all:=[],send:=[],read:= -1,write:= -1} else
 bif r.kind==2 then(bif decide ((r.response.length:Int)>0) then true else Du {r with gB:=0,AB:=0,response:=[],read:= -1,write:= -1}) else
 bif r.kind==3 then Du {r with response:=[],read:= -1,write:= -1} else
 bif r.kind==4 then(bif t==4 then Du {r with pos:=0,left:=[],right:=[],parent:=[]} else Du {r with pos:=0,left:=[],right:=[]}) else
 bif r.kind==5 then Du {r with gB:=0,AB:=0,direction:=0} else Du r
theorem S.jd(r:Rule)(t:Int)(hs:wX r):aj Tryz.prog 154 [.dat (.rule r),.int t] (.bool (kN r t)):=by
 obtain⟨g1,g2,g3,g4,g5,g6,g7,g8⟩:=hs
 refine aj.of Bd.jd (by simp) rfl rfl ?_
 conv=>whnf
 refine⟨fun h1=>?_,fun h1=>?_⟩
 ·conv=>whnf
  repeat(refine VC.mk (by first|exact id|(intro h; rw[h]; rfl)|(simp only[okI] at *; omega)) ?_; conv=>whnf)
  exact ak.bool (by simp[kN,Du,h1])
 ·conv=>whnf
  refine⟨fun h2=>?_,fun h2=>?_⟩
  ·conv=>whnf
   refine⟨fun h6=>?_,fun h6=>?_⟩
   ·conv=>whnf
    exact ak.bool (by rw[kN,h1,h2,show decide ((r.response.length:Int)>0)=true from h6]; rfl)
   ·conv=>whnf
    repeat(refine VC.mk (by first|exact id|(intro h; rw[h]; rfl)|(simp only[okI] at *; omega)) ?_; conv=>whnf)
    exact ak.bool (by rw[kN,h1,h2,show decide ((r.response.length:Int)>0)=false from h6]; simp[Du])
  ·conv=>whnf
   refine⟨fun h3=>?_,fun h3=>?_⟩
   ·conv=>whnf
    repeat(refine VC.mk (by first|exact id|(intro h; rw[h]; rfl)|(simp only[okI] at *; omega)) ?_; conv=>whnf)
    exact ak.bool (by simp[kN,Du,h1,h2,h3])
   ·conv=>whnf
    refine⟨fun h4=>?_,fun h4=>?_⟩
    ·conv=>whnf
     refine⟨fun h7=>?_,fun h7=>?_⟩
     ·conv=>whnf
      repeat(refine VC.mk (by first|exact id|(intro h; rw[h]; rfl)|(simp only[okI] at *; omega)) ?_; conv=>whnf)
      exact ak.bool (by simp[kN,Du,h1,h2,h3,h4,h7])
     ·conv=>whnf
      repeat(refine VC.mk (by first|exact id|(intro h; rw[h]; rfl)|(simp only[okI] at *; omega)) ?_; conv=>whnf)
      exact ak.bool (by simp[kN,Du,h1,h2,h3,h4,h7])
    ·conv=>whnf
     refine⟨fun h5=>?_,fun h5=>?_⟩
     ·conv=>whnf
      repeat(refine VC.mk (by first|exact id|(intro h; rw[h]; rfl)|(simp only[okI] at *; omega)) ?_; conv=>whnf)
      exact ak.bool (by simp[kN,Du,h1,h2,h3,h4,h5])
     ·conv=>whnf
      repeat(refine VC.mk (by first|exact id|(intro h; rw[h]; rfl)|(simp only[okI] at *; omega)) ?_; conv=>whnf)
      exact ak.bool (by simp[kN,Du,h1,h2,h3,h4,h5])
def aaK(h:Hz):Hz->Prop
 |[]=>True
 |(i,o)::r=>h.get i=o/\aaK h r
theorem Xx{h:Hz}: ∀ {h0:Hz},aaK h h0-> ∀ {i:Nat} {o:OV},h0.get i=some o->h.get i=some o:=by
 intro h0
 induction h0 with
 |nil=>intro _ i o e; cases e
 |cons p r ih =>
  obtain⟨j,u⟩:=p
  intro hs i o e
  simp only[Hz.get] at e
  cases hb:Nat.beq j i with
  |true=>rw[hb] at e; simp only[cond_true] at e; rw[<- Nat.eq_of_beq_eq_true hb,hs.1,e]
  |false=>rw[hb] at e; exact ih hs.2 e
def Xy:Hz->Bool
 |[]=>true
 |(_,some o)::r=>o.Rj&&Xy r
 |(_,none)::r=>Xy r
theorem Q8: ∀ {h0:Hz},Xy h0=true-> ∀ {i:Nat} {o:OV},h0.get i=some o->o.Rj=true:=by
 intro h0
 induction h0 with
 |nil=>intro _ i o e; cases e
 |cons p r ih =>
  obtain⟨j,u⟩:=p
  intro hs i o e
  simp only[Hz.get] at e
  cases hb:Nat.beq j i with
  |true =>
   rw[hb] at e; simp only[cond_true] at e; subst e
   simp only[Xy,Bool.and_eq_true] at hs; exact hs.1
  |false =>
   rw[hb] at e
   refine ih ?_ e
   cases u with
   |none=>exact hs
   |some o=>simp only[Xy,Bool.and_eq_true] at hs; exact hs.2
theorem OV.Q9{o:OV}(h:o.Rj=true):T.aJ (fun _=>False) o.aF.l:=OV.H6 h
theorem ny.same{nx:Nat}{h0 h:Hz}{n:Nat}{post:T->Hp->Prop}{v:V}(hf:v.free=true)(hs:aaK h h0)(hg:Gx nx h0=true)(hfr:Xy h0=true)(hp:post v.aG h0.ay):ny h0 n post v h:=by
 have hG:=EH hg
 have get: ∀ i ob,h0.ay i=some ob-> ∃ o,h0.get i=some o/\ob=o.aF:=fun i ob e=>by
  simp only[Hz.ay,Option.map_eq_some_iff] at e
  obtain⟨o,e1,e2⟩:=e
  exact⟨o,e1,e2.symm⟩
 have hfree:=V.qK v hf
 refine⟨fun _=>False,id,v.aG,h0.ay,hp,?_,fun i ob hi=>?_,fun i j _ _ e=>e,T.bD (fun _ h=>h.elim) _ (dU hfree),fun i ob hi=>?_,fun i _ _=>rfl⟩
 ·rw[S9]; exact dP _
 ·obtain⟨o,e1,rfl⟩:=get i ob hi
  refine⟨o.aF,aZ (Xx hs e1),fun h=>h,rfl,rfl,?_,Fa (hG i _ hi).2.2⟩
  rw[uz _ (OV.Q9 (Q8 hfr e1))]; exact dS _
 ·obtain⟨o,e1,rfl⟩:=get i ob hi
  exact⟨.inl (by rw[hi]; rfl),T.aA (fun _ h=>h.elim) _ (OV.Q9 (Q8 hfr e1))⟩
abbrev hRP(p:aO)(r:Rule):Hz:=[(7,some (.box 85 19 (.dat (.rule r)))),(0,some (.box 27 11 (.dat (.kS p))))]
theorem S.OB(p:aO)(r x:Rule)(n:Nat):aN Tryz.prog 152 (V.bn [.dat (.rule x),.ptr 7 0 0]) (hRP p r).ay n (fun t hp=>t= .bool (x.name==r.name)/\hp=(hRP p r).ay):=by
 refine oI.of (nx:=8) Bd.iU (by simp) ⟨_,_,rfl,rfl⟩ rfl rfl ?_
 conv=>whnf
 exact ny.same (nx:=8) rfl ⟨rfl,rfl,trivial⟩ rfl rfl ⟨rfl,rfl⟩
def ET(s:Str):List Rule->Nat->Int
 |[],_=> -1
 |x::r,i=>bif x.name==s then(i:Int) else ET s r (i+1)
theorem S.Xz(p:aO)(r:Rule)(l:List Rule)(f:Bool)(hl:l.length<2^30)(n:Nat):aN Tryz.prog 169 (V.bn [.row 19 f (.rules l),.fn 152 [.ptr 7 0 0]]) (hRP p r).ay n (fun t hp=>t= .int (ET r.name l 0)/\hp=(hRP p r).ay):=by
 refine oI.of (nx:=8) Bd.dF (by simp) ⟨_,_,rfl,rfl⟩ rfl rfl ?_
 conv=>whnf
 refine aI.same [0,1,6,7] (fun i:Nat=>[(8,.int i)]) (fun i=>i<=l.length/\ET r.name l 0=ET r.name (l.drop i) i) (fun i=>l.length-i) 0 rfl (by decide) rfl (fun _=>rfl) ⟨by omega,by simp⟩ ⟨⟨_,rfl,rfl⟩,trivial⟩ ?_
 conv=>whnf
 refine⟨rfl,?_⟩
 rintro i ⟨hi,hall⟩
 conv=>whnf
 refine⟨fun h3=>?_,fun h3=>?_⟩
 ·have hi':i<l.length:=by simpa using h3
  rw[dO default hi'] at hall
  simp only[ET] at hall
  conv=>whnf
  refine .mk (by simp only[Rw.rng] at *; omega) ?_
  conv=>whnf
  refine ah.heap (S.OB p r (l.getD i default) _) ?_
  rintro t hp ⟨rfl,rfl⟩
  refine⟨.bool _,hRP p r,rfl,rfl,?_⟩
  conv=>whnf
  refine⟨fun h4=>?_,fun h4=>?_⟩
  ·conv=>whnf
   rw[h4] at hall
   exact ny.same (nx:=8) rfl ⟨rfl,rfl,trivial⟩ rfl rfl ⟨by rw[hall]; rfl,rfl⟩
  ·conv=>whnf
   refine .mk (by simp only[okI] at *; omega) ?_
   conv=>whnf
   rw[h4] at hall
   refine⟨i+1,⟨by omega,hall⟩,by omega,⟨⟨_,rfl,rfl⟩,trivial⟩,?_,rfl⟩
   repeat' (first|exact trivial|exact⟨_,rfl,rfl⟩|constructor)
 ·conv=>whnf
  have hi':l.length<=i:=by simpa using h3
  rw[List.drop_eq_nil_of_le hi'] at hall
  exact ny.same (nx:=8) rfl ⟨rfl,rfl,trivial⟩ rfl rfl ⟨by rw[hall]; rfl,rfl⟩
theorem aaL{s:Str}{l:List Rule}{i:Nat}:decide (0<=ET s l i)=l.any fun x=>x.name==s:=by
 have: ∀ {l:List Rule} {i:Nat},0<=ET s l i↔(l.any fun x=>x.name==s)=true:=by
  intro l
  induction l with
  |nil=>intro i; simp[ET]
  |cons x r ih =>
   intro i
   rw[List.any_cons,Bool.or_eq_true,<- ih (i:=i+1)]
   show(0:Int)<=(bif x.name==s then(i:Int) else ET s r (i+1))↔_
   generalize (x.name==s)=b
   cases b<;>simp
 rw[Bool.eq_iff_iff,decide_eq_true_eq]; exact this
theorem S.OC(p:aO)(r:Rule)(l:List Rule)(f:Bool)(hl:l.length<2^30)(n:Nat):aN Tryz.prog 151 (V.bn [.row 19 f (.rules l),.fn 152 [.ptr 7 0 0]]) (hRP p r).ay n (fun t hp=>t= .bool (l.any fun x=>x.name==r.name)/\hp=(hRP p r).ay):=by
 refine oI.of (nx:=8) Bd.cZ (by simp) ⟨_,_,rfl,rfl⟩ rfl rfl ?_
 conv=>whnf
 refine ah.heap (S.Xz p r l f hl _) ?_
 rintro t hp ⟨rfl,rfl⟩
 refine⟨.int _,hRP p r,rfl,rfl,?_⟩
 conv=>whnf
 exact ny.same (nx:=8) rfl ⟨rfl,rfl,trivial⟩ rfl rfl ⟨by rw[<- aaL (i:=0)]; rfl,rfl⟩
theorem ah.mkRow{P:Program}{f:FuncId}{args:List V}{h:Hz}{n ty k:Nat}{r:Rw}{K:V->Hz->Prop}{KW:Nat->V->Hz->Prop}(H:qY P f (V.bn args) (fun n=>.own n) (some ⟨ty,k,r.bn⟩))(hK:K (.own n) ((n,some (.row ty k r []))::h)):ah P false none f args h n K KW :=
 ah.heap (qY.frame H _ _) (by rintro t hp ⟨rfl,rfl⟩; exact⟨.own n,_,rfl,by rw[bQ]; simp[fO,OV.aF,V.bn],hK⟩)
theorem S.Concat(a b c:List Str)(n:Nat)(h0:0<a.length)(ha:a.length<2^20)(hb:b.length<2^20)(hc:c.length<2^20) :
  aN Tryz.prog 148 (V.bn [.JD 0 false [.row 0 false (.strs a),.row 0 false (.strs b),.row 0 false (.strs c)]]) no n (fun t hp=>t= .own n/\hp=Hz.ay [(n,some (.row 9 0 (.strs (a++b++c)) []))]):=by
 refine oI.of (nx:=0) (h0:=[]) Bd.eH (by simp) ⟨_,_,rfl,rfl⟩ rfl rfl ?_
 conv=>whnf
 refine aI.times 4 rfl ?_
 conv=>whnf
 refine Fork.mk (fun _=>?_) (fun q=>absurd (q.symm.trans (rfl)) Bool.false_ne_true)
 conv=>whnf
 repeat(refine VC.mk (by first|(omega)|(simp only[okI] at *; omega)) ?_; conv=>whnf)
 refine Fork.mk (fun q=>absurd (q.symm.trans (decide_eq_false (by omega))).symm Bool.false_ne_true) (fun _=>?_)
 conv=>whnf
 refine .mk (by simp only[okI] at *; omega) ?_
 conv=>whnf
 refine Fork.mk (fun _=>?_) (fun q=>absurd (q.symm.trans (rfl)) Bool.false_ne_true)
 conv=>whnf
 repeat(refine VC.mk (by first|(omega)|(simp only[okI] at *; omega)) ?_; conv=>whnf)
 refine Fork.mk (fun q=>absurd (q.symm.trans (decide_eq_false (by omega))).symm Bool.false_ne_true) (fun _=>?_)
 conv=>whnf
 refine .mk (by simp only[okI] at *; omega) ?_
 conv=>whnf
 refine Fork.mk (fun _=>?_) (fun q=>absurd (q.symm.trans (rfl)) Bool.false_ne_true)
 conv=>whnf
 repeat(refine VC.mk (by first|(omega)|(simp only[okI] at *; omega)) ?_; conv=>whnf)
 refine Fork.mk (fun q=>absurd (q.symm.trans (decide_eq_false (by omega))).symm Bool.false_ne_true) (fun _=>?_)
 conv=>whnf
 refine .mk (by simp only[okI] at *; omega) ?_
 conv=>whnf
 refine Fork.mk (fun q=>absurd (q.symm.trans (rfl)).symm Bool.false_ne_true) (fun _=>?_)
 conv=>whnf
 have e:(0+(a.length:Int)+b.length+c.length)=((a.length+b.length+c.length:Nat):Int):=by omega
 rw[e]
 refine ah.mkRow (r:=.strs []) (S.Grow (a.length+b.length+c.length) (by omega) (by omega)) ?_
 conv=>whnf
 refine aI.times 4 rfl ?_
 conv=>whnf
 refine Fork.mk (fun _=>?_) (fun q=>absurd (q.symm.trans (rfl)) Bool.false_ne_true)
 conv=>whnf
 repeat(refine VC.mk (by first|(omega)|(simp only[nG,og,Rw.len,List.length_nil]; omega)|(simp only[okI] at *; omega)) ?_; conv=>whnf)
 refine Fork.mk (fun _=>?_) (fun q=>absurd (q.symm.trans (rfl)) Bool.false_ne_true)
 conv=>whnf
 repeat(refine VC.mk (by first|(omega)|(simp only[nG,og,Rw.len,List.length_append,List.length_nil]; omega)|(simp only[okI] at *; omega)) ?_; conv=>whnf)
 refine Fork.mk (fun _=>?_) (fun q=>absurd (q.symm.trans (rfl)) Bool.false_ne_true)
 conv=>whnf
 repeat(refine VC.mk (by first|(omega)|(simp only[nG,og,Rw.len,List.length_append,List.length_nil]; omega)|(simp only[okI] at *; omega)) ?_; conv=>whnf)
 refine Fork.mk (fun q=>absurd (q.symm.trans (rfl)).symm Bool.false_ne_true) (fun _=>?_)
 conv=>whnf
 refine ny.one (c:=n) (o:=.row 9 0 (.strs (a++b++c)) []) (t:=.own n) rfl rfl rfl nofun (.inr rfl) rfl (.eq rfl) ⟨rfl,rfl⟩
theorem S.acO(a b c:List Str)(h0:0<a.length)(ha:a.length<2^20)(hb:b.length<2^20)(hc:c.length<2^20) :
  qY Tryz.prog 148 (V.bn [.JD 0 false [.row 0 false (.strs a),.row 0 false (.strs b),.row 0 false (.strs c)]]) (fun n=>.own n) (some ⟨9,0,(Rw.strs (a++b++c)).bn⟩):=by
 refine⟨rfl,fun _=>rfl,(fun ob h=>by cases h; rw[fU]; intro t ht; obtain⟨x,_,rfl⟩:=List.mem_map.1 ht; rfl),(fun ob h=>by cases h; exact fun e=>absurd e (by decide:(0:Nat)≠dI)),fun n=>(S.Concat a b c n h0 ha hb hc).mono ?_⟩
 rintro t hp ⟨rfl,rfl⟩
 refine⟨rfl,?_⟩
 rw[bQ]; simp[fO,OV.aF,V.bn]; rfl
theorem ah.acP{P:Program}{f:FuncId}{args:List V}{ts:List T}{h:Hz}{n ty k:Nat}{r:Rw}{K:V->Hz->Prop}{KW:Nat->V->Hz->Prop}(H:qY P f ts (fun n=>.own n) (some ⟨ty,k,r.bn⟩))(hs:T.dM (fun _=>True) h.ay ts (V.bn args))(hh:T.ug r.bn=true)(hK:K (.own n) ((n,some (.row ty k r []))::h)):ah P false none f args h n K KW :=
 ⟨.inl (qY.lend H hs rfl (fun _ e=>by cases e; exact hh) ⟨.own n,_,rfl,by rw[bQ]; simp[fO,OV.aF,V.bn],(fun e=>by cases e),hK⟩)⟩
theorem agh{h:Hz}{j ty:Nat}{Z:Nat->Prop}{l:List V}(hz:Z j)(q:h.get j=some (.row ty 0 .nil l))(hf:V.bC l=true):T.sub Z h.ay (V.JD 0 false l).aG (V.own j).aG:=by
 show T.sub Z h.ay (.sl 0 false (V.bn l)) (.own j)
 simp only[T.sub]
 exact⟨trivial,hz,V.kZ l hf,by decide,ty,by rw[aZ q]; rfl⟩
theorem XA{l:List Str}:T.ug (Rw.strs l).bn=true:=by
 show T.ug (l.map eS)=true
 induction l with
 |nil=>rfl
 |cons s r ih=>simp only[List.map_cons,T.ug,ih]; rfl
theorem agi{h:Hz}{j i ty:Nat}{Z:Nat->Prop}{l:List Str}(hz:Z j)(q:h.get j=some (.row ty 0 (.strs l) []))(hi:i<=l.length):T.sub Z h.ay (V.row 0 false (.strs (l.take i))).aG (V.kR j 0 i).aG:=by
 show T.sub Z h.ay (.sl 0 false ((l.take i).map eS)) (.kR j 0 i)
 simp only[T.sub]
 refine⟨trivial,hz,?_,by decide,ty,l.map eS,?_,by simpa using hi,by simp[List.map_take]⟩
 ·rw[fU]; intro t ht; obtain⟨x,_,rfl⟩:=List.mem_map.1 ht; rfl
 ·rw[aZ q]; simp[OV.aF,Rw.bn,V.bn]
def allNames(p:aO):List Str:=p.states++p.messages++p.values
def Ox(l:List Str)(i:Nat):Bool:= !(validName (l.getD i []))||(l.take i).any fun x=>l.getD i []==x
def zu(p:aO):Int:=bif (List.range (allNames p).length).any (Ox (allNames p)) then 2 else 0
theorem nT{n:Nat}{f:Nat->Bool}:(List.range n).any f=true↔ ∃ i,i<n/\f i=true:=by
 simp[List.any_eq_true]
theorem S.jU(p:aO)(h0:0<p.states.length)(h1:p.states.length<2^20)(h2:p.messages.length<2^20)(h3:p.values.length<2^20):aj Tryz.prog 125 [.dat (.kS p)] (.int (zu p)):=by
 have hlen:(allNames p).length<2^30:=by simp only[allNames,List.length_append]; omega
 refine aj.of Bd.jU (by simp) rfl rfl ?_
 conv=>whnf
 refine ah.acP (r:=.strs (allNames p)) (S.acO p.states p.messages p.values h0 h1 h2 h3) (And.intro (agh (ty:=22) trivial rfl rfl) trivial) XA ?_
 conv=>whnf
 refine aI.same [3,14,15] (fun i:Nat=>[(16,.int i)]) (fun i=>i<=(allNames p).length/\(List.range i).any (Ox (allNames p))=false) (fun i=>(allNames p).length-i) 0 rfl (by decide) rfl (fun _=>rfl) ⟨Nat.zero_le _,rfl⟩ ⟨⟨_,rfl,rfl⟩,trivial⟩ ?_
 conv=>whnf
 refine⟨rfl,?_⟩
 rintro i ⟨hi,hall⟩
 conv=>whnf
 refine⟨fun h4=>?_,fun h4=>?_⟩
 ·have hi':i<(allNames p).length:=by simpa using h4
  conv=>whnf
  repeat(refine VC.mk (by simp only[Rw.rng] at *; omega) ?_; conv=>whnf)
  refine ah.pure (S.dY ((allNames p).getD i [])) rfl ?_
  conv=>whnf
  repeat(refine VC.mk (by first|exact fun h=>⟨h,h⟩|(intro h; (repeat' apply And.intro)<;>first|exact h|omega|(simp only[Rw.qp]; omega)|(simp only[Rw.rng]; omega))) ?_; conv=>whnf)
  refine ah.Yt (fun _=>S.slices_Contains_string ((allNames p).take i) ((allNames p).getD i []) false (by rw[List.length_take]; omega)) (fun _=>And.intro (agi (ty:=9) trivial rfl (by omega)) (And.intro (dP _) trivial)) rfl rfl ?_
  conv=>whnf
  refine .mk (by intro h; rw[h]; rfl) ?_
  conv=>whnf
  refine⟨fun h5=>?_,fun h5=>?_⟩
  ·conv=>whnf
   refine ak.int ?_
   rw[zu,nT.2 ⟨i,hi',h5⟩]; rfl
  ·conv=>whnf
   refine .mk (by simp only[okI] at *; omega) ?_
   conv=>whnf
   refine⟨i+1,⟨by omega,?_⟩,by omega,⟨⟨_,rfl,rfl⟩,trivial⟩,?_,rfl⟩
   ·rw[List.range_succ,List.any_append,hall]
    simp only[List.any_cons,List.any_nil,Bool.or_false,Bool.false_or]; exact h5
   ·repeat' (first|exact trivial|exact⟨_,rfl,rfl⟩|constructor)
 ·have hi':(allNames p).length<=i:=by simpa using h4
  have e:i=(allNames p).length:=Nat.le_antisymm hi hi'
  subst e
  conv=>whnf
  exact ak.int (by rw[zu,hall]; rfl)
theorem ah.agj{P:Program}{f:FuncId}{args:List V}{h:Hz}{hp0:Hp}{n:Nat}{K:V->Hz->Prop}{KW:Nat->V->Hz->Prop}{post:T->Hp->Prop}(S:aN P f (V.bn args) hp0 n post)(e:h.ay=hp0)(hK: ∀ t hp,post t hp-> ∃ v h',t=v.aG/\hp=Hz.ay h'/\K v h'):ah P false none f args h n K KW:=by
 subst e; exact ah.heap S hK
theorem Rf{i:Nat}{a b:Option OV}{r:Hz}:Hz.ay ((i,a)::(i,b)::r)=Hz.ay ((i,a)::r):=funext fun j=>by
 simp only[Hz.ay,Hz.get]; cases Nat.beq i j<;>rfl
structure fG(p:aO):Prop where
 states:p.states.length<2^20
 messages:p.messages.length<2^20
 values:p.values.length<2^20
 dD:p.dD.length<2^30
 initial:p.initial.length<2^30
 leader:p.leader.length<2^30
 rules:p.rules.length<2^30
 rule: ∀ i,wX (p.rules.getD i default)
 qE:(p.rules.flatMap Rule.guards).length<2^30
def qW(p:aO)(i:Nat):Bool:= !(validName (p.rules.getD i default).name)||(p.rules.take i).any fun x=>x.name==(p.rules.getD i default).name
def oQ(p:aO)(i:Nat):Bool:= !(sQ (p.rules.getD i default).kind p.topology)||kN (p.rules.getD i default) p.topology
def vY(p:aO)(r:Rule):Int:=bJ [dG r.fr p.states.length,dG r.to p.states.length]
def aaz(p:aO)(r:Rule):Bool:=decide (r.pos<0)||decide (r.pos>2)||(r.pos !=0&&p.topology==3)
def ig(p:aO)(i:Nat):Int :=
 let r:=p.rules.getD i default
 let n:Int:=p.states.length
 bif qW p i then 2 else bif oQ p i then 6 else bif vY p r !=0 then vY p r else
 bif r.kind==1 then bJ [wS p r.guards,jw r.ex n,jw r.all n,jQ p r.read,jQ p r.write,jw r.send p.messages.length] else
 bif r.kind==2 then bJ [dG r.gB n,dG r.AB n,jQ p r.read,jQ p r.write] else
 bif r.kind==3 then bJ [D5 r.response n,jQ p r.read,jQ p r.write] else
 bif r.kind==4 then bJ [jw r.left n,jw r.right n,jw r.parent n,fE (aaz p r) 1] else
 bif p.topology==4 then bJ [dG r.gB n,dG r.AB n,fE (decide (r.direction<3)||decide (r.direction>4)) 1]
 else bJ [dG r.gB n,dG r.AB n,fE (decide (r.direction<1)||decide (r.direction>2)) 1]
theorem S.gK(p:aO)(i:Nat)(hi:i<p.rules.length)(hp:fG p):aj Tryz.prog 127 [.dat (.kS p),.int i] (.int (ig p i)):=by
 have hr:=hp.rule i
 have hp1:=hp.rules
 have hp2:=hp.states
 have hp3:=hp.messages
 refine aj.of Bd.gK (by simp) rfl rfl ?_
 conv=>whnf
 repeat(refine VC.mk (by first|(simp only[Rw.qp]; omega)|(simp only[Rw.rng] at *; omega)) ?_; conv=>whnf)
 refine ah.agj (S.OC p (p.rules.getD i default) (p.rules.take i) false (by rw[List.length_take]; omega) _) Rf ?_
 rintro t hp' ⟨rfl,rfl⟩
 refine⟨.bool _,hRP p (p.rules.getD i default),rfl,rfl,?_⟩
 conv=>whnf
 refine ah.pure (S.dY (p.rules.getD i default).name) rfl ?_
 conv=>whnf
 refine .mk (by intro h; rw[h]; rfl) ?_
 conv=>whnf
 refine⟨fun h1=>?_,fun h1=>?_⟩
 ·conv=>whnf
  exact ak.int (by rw[ig,show qW p i=true from h1]; rfl)
 ·conv=>whnf
  refine ah.pure (S.kW (p.rules.getD i default).kind p.topology) rfl ?_
  conv=>whnf
  repeat(refine VC.mk (by first|exact id|exact fun h=>⟨h,h⟩) ?_; conv=>whnf)
  refine ah.iD (fun _=>S.jd (p.rules.getD i default) p.topology hr) rfl ?_
  conv=>whnf
  refine .mk (by intro h; rw[h]; rfl) ?_
  conv=>whnf
  refine⟨fun h2=>?_,fun h2=>?_⟩
  ·conv=>whnf
   exact ak.int (by rw[ig,show qW p i=false from h1,show oQ p i=true from h2]; rfl)
  ·conv=>whnf
   refine ah.pure (S.bV (p.rules.getD i default).fr p.states.length) rfl ?_
   conv=>whnf
   refine ah.pure (S.bV (p.rules.getD i default).to p.states.length) rfl ?_
   conv=>whnf
   refine ah.pure (S.bM [dG (p.rules.getD i default).fr p.states.length,dG (p.rules.getD i default).to p.states.length] true (show 2<2^40 by decide)) rfl ?_
   conv=>whnf
   refine⟨fun h3=>?_,fun h3=>?_⟩
   ·conv=>whnf
    exact ak.int (by rw[ig,show qW p i=false from h1,show oQ p i=false from h2,show(vY p (p.rules.getD i default) !=0)=true from h3]; rfl)
   ·conv=>whnf
    refine⟨fun h4=>?_,fun h4=>?_⟩
    ·conv=>whnf
     refine ah.pure (S.jD p (p.rules.getD i default).guards false (by have:=hr.guards; omega)) rfl ?_
     conv=>whnf
     refine ah.pure (S.dJ (p.rules.getD i default).ex p.states.length false (by have:=hr.ex; omega)) rfl ?_
     conv=>whnf
     refine ah.pure (S.dJ (p.rules.getD i default).all p.states.length false (by have:=hr.all; omega)) rfl ?_
     conv=>whnf
     refine ah.pure (S.eP p (p.rules.getD i default).read) rfl ?_
     conv=>whnf
     refine ah.pure (S.eP p (p.rules.getD i default).write) rfl ?_
     conv=>whnf
     refine ah.pure (S.dJ (p.rules.getD i default).send p.messages.length false (by have:=hr.send; omega)) rfl ?_
     conv=>whnf
     refine ah.pure (S.bM [wS p (p.rules.getD i default).guards,jw (p.rules.getD i default).ex p.states.length,jw (p.rules.getD i default).all p.states.length,jQ p (p.rules.getD i default).read,jQ p (p.rules.getD i default).write,jw (p.rules.getD i default).send p.messages.length] true (show 6<2^40 by decide)) rfl ?_
     conv=>whnf
     exact ak.int (by rw[ig,show qW p i=false from h1,show oQ p i=false from h2,show(vY p (p.rules.getD i default) !=0)=false from h3,h4]; rfl)
    ·conv=>whnf
     refine⟨fun h5=>?_,fun h5=>?_⟩
     ·conv=>whnf
      refine ah.pure (S.bV (p.rules.getD i default).gB p.states.length) rfl ?_
      conv=>whnf
      refine ah.pure (S.bV (p.rules.getD i default).AB p.states.length) rfl ?_
      conv=>whnf
      refine ah.pure (S.eP p (p.rules.getD i default).read) rfl ?_
      conv=>whnf
      refine ah.pure (S.eP p (p.rules.getD i default).write) rfl ?_
      conv=>whnf
      refine ah.pure (S.bM [dG (p.rules.getD i default).gB p.states.length,dG (p.rules.getD i default).AB p.states.length,jQ p (p.rules.getD i default).read,jQ p (p.rules.getD i default).write] true (show 4<2^40 by decide)) rfl ?_
      conv=>whnf
      exact ak.int (by rw[ig,show qW p i=false from h1,show oQ p i=false from h2,show(vY p (p.rules.getD i default) !=0)=false from h3,h4,h5]; rfl)
     ·conv=>whnf
      refine⟨fun h6=>?_,fun h6=>?_⟩
      ·conv=>whnf
       refine ah.pure (S.gQ (p.rules.getD i default).response p.states.length false (by have:=hr.response; omega)) rfl ?_
       conv=>whnf
       refine ah.pure (S.eP p (p.rules.getD i default).read) rfl ?_
       conv=>whnf
       refine ah.pure (S.eP p (p.rules.getD i default).write) rfl ?_
       conv=>whnf
       refine ah.pure (S.bM [D5 (p.rules.getD i default).response p.states.length,jQ p (p.rules.getD i default).read,jQ p (p.rules.getD i default).write] true (show 3<2^40 by decide)) rfl ?_
       conv=>whnf
       exact ak.int (by rw[ig,show qW p i=false from h1,show oQ p i=false from h2,show(vY p (p.rules.getD i default) !=0)=false from h3,h4,h5,h6]; rfl)
      ·conv=>whnf
       refine⟨fun h7=>?_,fun h7=>?_⟩
       ·conv=>whnf
        repeat(refine VC.mk (by first|exact id|(intro h; rw[h]; rfl)|(intro h; simp_all; done)) ?_; conv=>whnf)
        refine ah.pure (S.dJ (p.rules.getD i default).left p.states.length false (by have:=hr.left; omega)) rfl ?_
        conv=>whnf
        refine ah.pure (S.dJ (p.rules.getD i default).right p.states.length false (by have:=hr.right; omega)) rfl ?_
        conv=>whnf
        refine ah.pure (S.dJ (p.rules.getD i default).parent p.states.length false (by have:=hr.parent; omega)) rfl ?_
        conv=>whnf
        refine ah.pure (S.bU (aaz p (p.rules.getD i default)) 1) rfl ?_
        conv=>whnf
        refine ah.pure (S.bM [jw (p.rules.getD i default).left p.states.length,jw (p.rules.getD i default).right p.states.length,jw (p.rules.getD i default).parent p.states.length,fE (aaz p (p.rules.getD i default)) 1] true (show 4<2^40 by decide)) rfl ?_
        conv=>whnf
        exact ak.int (by rw[ig,show qW p i=false from h1,show oQ p i=false from h2,show(vY p (p.rules.getD i default) !=0)=false from h3,h4,h5,h6,h7]; rfl)
       ·conv=>whnf
        refine⟨fun h8=>?_,fun h8=>?_⟩
        ·conv=>whnf
         refine ah.pure (S.bV (p.rules.getD i default).gB p.states.length) rfl ?_
         conv=>whnf
         refine ah.pure (S.bV (p.rules.getD i default).AB p.states.length) rfl ?_
         conv=>whnf
         repeat(refine VC.mk (by first|exact id|exact fun h=>⟨h,h⟩|(intro h; rw[h]; rfl)) ?_; conv=>whnf)
         refine ah.pure (S.bU (decide ((p.rules.getD i default).direction<3)||decide ((p.rules.getD i default).direction>4)) 1) rfl ?_
         conv=>whnf
         refine ah.pure (S.bM [dG (p.rules.getD i default).gB p.states.length,dG (p.rules.getD i default).AB p.states.length,fE (decide ((p.rules.getD i default).direction<3)||decide ((p.rules.getD i default).direction>4)) 1] true (show 3<2^40 by decide)) rfl ?_
         conv=>whnf
         exact ak.int (by rw[ig,show qW p i=false from h1,show oQ p i=false from h2,show(vY p (p.rules.getD i default) !=0)=false from h3,h4,h5,h6,h7,h8]; rfl)
        ·conv=>whnf
         refine ah.pure (S.bV (p.rules.getD i default).gB p.states.length) rfl ?_
         conv=>whnf
         refine ah.pure (S.bV (p.rules.getD i default).AB p.states.length) rfl ?_
         conv=>whnf
         repeat(refine VC.mk (by first|exact id|exact fun h=>⟨h,h⟩|(intro h; rw[h]; rfl)) ?_; conv=>whnf)
         refine ah.pure (S.bU (decide ((p.rules.getD i default).direction<1)||decide ((p.rules.getD i default).direction>2)) 1) rfl ?_
         conv=>whnf
         refine ah.pure (S.bM [dG (p.rules.getD i default).gB p.states.length,dG (p.rules.getD i default).AB p.states.length,fE (decide ((p.rules.getD i default).direction<1)||decide ((p.rules.getD i default).direction>2)) 1] true (show 3<2^40 by decide)) rfl ?_
         conv=>whnf
         exact ak.int (by rw[ig,show qW p i=false from h1,show oQ p i=false from h2,show(vY p (p.rules.getD i default) !=0)=false from h3,h4,h5,h6,h7,h8]; rfl)
def wR(g:zG):List zG->Nat->Int
 |[],_=> -1
 |x::r,i=>bif g==x then(i:Int) else wR g r (i+1)
theorem QU{g:zG}{l:List zG}{i:Nat}:decide (0<=wR g l i)=l.any fun x=>g==x:=by
 have: ∀ {l:List zG} {i:Nat},0<=wR g l i↔(l.any fun x=>g==x)=true:=by
  intro l
  induction l with
  |nil=>intro i; simp[wR]
  |cons x r ih =>
   intro i
   rw[List.any_cons,Bool.or_eq_true,<- ih (i:=i+1)]
   show(0:Int)<=(bif g==x then(i:Int) else wR g r (i+1))↔_
   generalize (g==x)=b
   cases b<;>simp
 rw[Bool.eq_iff_iff,decide_eq_true_eq]; exact this
theorem S.aaM(l:List zG)(g:zG)(f:Bool)(hl:l.length<2^40):aj Tryz.prog 170 [.row 7 f (.qE l),.dat (.Rn g)] (.int (wR g l 0)):=by
 refine aj.of Bd.bT (by simp) rfl rfl ?_
 conv=>whnf
 refine aI.same [0,3,6,7] (fun i:Nat=>[(8,.int i)]) (fun i=>i<=l.length/\wR g l 0=wR g (l.drop i) i) (fun i=>l.length-i) 0 rfl (by decide) rfl (fun _=>rfl) ⟨by omega,by simp⟩ ⟨⟨_,rfl,rfl⟩,trivial⟩ ?_
 conv=>whnf
 refine⟨rfl,?_⟩
 rintro i ⟨hi,hall⟩
 conv=>whnf
 refine⟨fun h3=>?_,fun h3=>?_⟩
 ·have hi':i<l.length:=by simpa using h3
  rw[dO default hi'] at hall
  simp only[wR] at hall
  conv=>whnf
  refine .mk (by simp only[Rw.rng] at *; first|omega|(simp_all; done)|(simp_all; omega)) ?_
  conv=>whnf
  refine⟨fun h4=>?_,fun h4=>?_⟩
  ·conv=>whnf
   refine ak.int ?_
   have h4':(g==l.getD i default)=true:=h4
   rw[hall,h4']; rfl
  ·conv=>whnf
   refine .mk (by simp only[okI] at *; first|omega|(simp_all; done)|(simp_all; omega)) ?_
   conv=>whnf
   refine⟨i+1,⟨by omega,?_⟩,by omega,⟨⟨_,rfl,rfl⟩,trivial⟩,?_,rfl⟩
   ·have h4':(g==l.getD i default)=false:=h4
    rw[hall,h4']; rfl
   ·repeat' (first|exact trivial|exact⟨_,rfl,rfl⟩|constructor)
 ·conv=>whnf
  refine ak.int ?_
  have hi':l.length<=i:=by simpa using h3
  rw[hall,List.drop_eq_nil_of_le hi']; rfl
theorem S.Rh(l:List zG)(g:zG)(f:Bool)(hl:l.length<2^40):aj Tryz.prog 158 [.row 7 f (.qE l),.dat (.Rn g)] (.bool (l.any fun x=>g==x)):=by
 refine aj.of Bd.bI (by simp) rfl rfl ?_
 conv=>whnf
 refine ah.pure (S.aaM l g f hl) rfl ?_
 conv=>whnf
 exact ak.bool QU.symm
theorem aaw{h:Hz}{j:Nat}{Z:Nat->Prop}{l:List zG}(hz:Z j)(q:h.get j=some (.row 164 7 (.qE l) [])):T.sub Z h.ay (V.row 7 false (.qE l)).aG (V.own j).aG:=by
 show T.sub Z h.ay (.sl 7 false (l.map Ql)) (.own j)
 simp only[T.sub]
 refine⟨trivial,hz,?_,by decide,164,?_⟩
 ·rw[fU]; intro t ht; obtain⟨x,_,rfl⟩:=List.mem_map.1 ht; rfl
 ·have:=aZ q
  rw[this]; simp[OV.aF,Rw.bn,V.bn]
theorem Aw{α β:Type}{f:β->α->β}{b:β}{l:List α}{i:Nat}{d:α}(h:i<l.length):(l.take (i+1)).foldl f b=f ((l.take i).foldl f b) (l.getD i d):=by
 rw[List.take_add_one,List.foldl_append]
 simp[List.getElem?_eq_getElem h]
theorem ak.agc{h:Hz}{j:Nat}{l:List zG}(q:h.get j=some (.row 164 7 (.qE l) [])):ak (.row 7 false (.qE l)) (.own j) h:=⟨aaw trivial q⟩
def GX(acc:List zG)(g:zG):List zG:=bif acc.any (fun x=>g==x) then acc else acc++[g]
def yH(l:List Rule):List zG:=(l.flatMap Rule.guards).foldl GX []
theorem aaN{acc:List zG}{g:zG}:(GX acc g).length<=acc.length+1:=by
 unfold GX; cases acc.any (fun x=>g==x)<;>simp
theorem Ri: ∀ {l acc:List zG},(l.foldl GX acc).length<=acc.length+l.length:=by
 intro l
 induction l with
 |nil=>intro acc; simp
 |cons g r ih =>
  intro acc
  have:=ih (acc:=GX acc g)
  have h2:=aaN (acc:=acc) (g:=g)
  simp only[List.foldl_cons,List.length_cons]; omega
abbrev rowT(l:List zG):OV:=.row 164 7 (.qE l) []
def yJ(p:aO)(i k:Nat):List zG:=((p.rules.getD i default).guards.take k).foldl GX (yH (p.rules.take i))
theorem QV(p:aO)(hp:fG p)(i k:Nat)(_hi:i<p.rules.length):(yJ p i k).length<2^31:=by
 have h1:=Ri (l:=(p.rules.getD i default).guards.take k) (acc:=yH (p.rules.take i))
 have h2:=Ri (l:=(p.rules.take i).flatMap Rule.guards) (acc:=[])
 have h3:=(hp.rule i).guards
 have h4:((p.rules.take i).flatMap Rule.guards).length<=(p.rules.flatMap Rule.guards).length:=by
  conv=>rhs; rw[<- List.take_append_drop i p.rules,List.flatMap_append,List.length_append]
  omega
 have h5:=hp.qE
 have h6:((p.rules.getD i default).guards.take k).length<=(p.rules.getD i default).guards.length:=by simp[List.length_take]; omega
 unfold yJ
 unfold yH at h1 ⊢
 simp only[List.length_nil,Nat.zero_add] at h2
 omega
theorem ML(p:aO){i:Nat}(hi:i<p.rules.length):yH (p.rules.take (i+1))=yJ p i (p.rules.getD i default).guards.length:=by
 unfold yJ
 rw[List.take_of_length_le (Nat.le_refl _)]
 unfold yH
 rw[List.take_add_one,List.flatMap_append,List.foldl_append]
 simp[List.getElem?_eq_getElem hi]
theorem S.fK(p:aO)(hp:fG p):aj Tryz.prog 128 [.dat (.kS p)] (.row 7 false (.qE (yH p.rules))):=by
 have hp1:=hp.rules
 refine aj.of Bd.fK (by simp) rfl rfl ?_
 conv=>whnf
 refine aI.nil 3 164 7 (by rfl) rfl rfl rfl ?_
 refine aI.objs 1 [9,10] (fun i:Nat=>[(11,.int i),(3,.own 0)]) (fun i=>[(0,rowT (yH (p.rules.take i)))]) (fun i=>i<=p.rules.length) (fun i=>p.rules.length-i) 0 [7] rfl (by decide) (fun _=>rfl) (Nat.zero_le _) ?_ ?_ ?_
 ·exact⟨⟨_,rfl,.eq rfl⟩,⟨_,rfl,.eq rfl⟩,trivial⟩
 ·exact⟨⟨rfl,nofun,rfl,rfl,rfl,_,rfl,rfl,rfl,dN.of_eq rfl⟩,trivial⟩
 conv=>whnf
 refine⟨⟨⟨_,rfl,.eq rfl⟩,⟨_,rfl,.eq rfl⟩,trivial⟩,rfl,?_⟩
 rintro i hi
 conv=>whnf
 refine⟨fun h3=>?_,fun h3=>?_⟩
 ·have hi':i<p.rules.length:=by simpa using h3
  conv=>whnf
  refine .mk (by simp only[Rw.rng] at *; first|omega|(simp_all; done)|(simp_all; omega)) ?_
  conv=>whnf
  refine aI.objs 1 [9,10,11,16,17] (fun k:Nat=>[(18,.int k),(3,.own 0)]) (fun k=>[(0,rowT (yJ p i k))]) (fun k=>k<=(p.rules.getD i default).guards.length) (fun k=>(p.rules.getD i default).guards.length-k) 0 [0] rfl (by decide) (fun _=>rfl) (Nat.zero_le _) ?_ ?_ ?_
  ·exact⟨⟨_,rfl,.eq rfl⟩,⟨_,rfl,.eq rfl⟩,trivial⟩
  ·exact⟨⟨rfl,nofun,rfl,rfl,rfl,_,rfl,rfl,rfl,dN.of_eq rfl⟩,trivial⟩
  conv=>whnf
  refine⟨⟨⟨_,rfl,.eq rfl⟩,⟨_,rfl,.eq rfl⟩,⟨_,rfl,.eq rfl⟩,⟨_,rfl,.eq rfl⟩,⟨_,rfl,.eq rfl⟩,trivial⟩,rfl,?_⟩
  rintro k hk
  have hacc:=QV p hp i k hi'
  have hg:=(hp.rule i).guards
  conv=>whnf
  refine⟨fun h4=>?_,fun h4=>?_⟩
  ·have hk':k<(p.rules.getD i default).guards.length:=by simpa using h4
   have hst:yJ p i (k+1)=GX (yJ p i k) ((p.rules.getD i default).guards.getD k default):=Aw hk'
   conv=>whnf
   refine .mk (by simp only[Rw.rng] at *; first|omega|(simp_all; done)|(simp_all; omega)) ?_
   conv=>whnf
   refine ah.lend (S.Rh (yJ p i k) ((p.rules.getD i default).guards.getD k default) false (by omega)) (And.intro (aaw trivial rfl) (And.intro (dP _) trivial)) rfl rfl ?_
   conv=>whnf
   refine⟨fun h5=>?_,fun h5=>?_⟩
   ·conv=>whnf
    repeat(refine VC.mk (by first|(show((yJ p i k).length+(0+1))*48<=140737488355328/\(yJ p i k).length+(0+1)<=1152921504606846976; omega)|(simp only[okI] at *; first|omega|(simp_all; done)|(simp_all; omega))) ?_; conv=>whnf)
    have h5':((yJ p i k).any fun x=>(p.rules.getD i default).guards.getD k default==x)=false:=by simpa using h5
    refine⟨k+1,[13],by omega,by omega,⟨⟨_,rfl,.eq rfl⟩,⟨_,rfl,.eq rfl⟩,trivial⟩,⟨⟨_,rfl,.eq rfl⟩,⟨_,rfl,.eq rfl⟩,⟨_,rfl,.eq rfl⟩,⟨_,rfl,.eq rfl⟩,⟨_,rfl,.eq rfl⟩,trivial⟩,⟨rfl,nofun,rfl,rfl,rfl,_,rfl,rfl,rfl,dN.of_eq ?_⟩,trivial⟩
    rw[hst,GX,h5']
    rfl
   ·conv=>whnf
    refine .mk (by simp only[okI] at *; first|omega|(simp_all; done)|(simp_all; omega)) ?_
    conv=>whnf
    have h5':((yJ p i k).any fun x=>(p.rules.getD i default).guards.getD k default==x)=true:=by simpa using h5
    refine⟨k+1,[0],by omega,by omega,⟨⟨_,rfl,.eq rfl⟩,⟨_,rfl,.eq rfl⟩,trivial⟩,⟨⟨_,rfl,.eq rfl⟩,⟨_,rfl,.eq rfl⟩,⟨_,rfl,.eq rfl⟩,⟨_,rfl,.eq rfl⟩,⟨_,rfl,.eq rfl⟩,trivial⟩,⟨rfl,nofun,rfl,rfl,rfl,_,rfl,rfl,rfl,dN.of_eq ?_⟩,trivial⟩
    rw[hst,GX,h5']; rfl
  ·have hk':(p.rules.getD i default).guards.length<=k:=by simpa using h4
   have e:k=(p.rules.getD i default).guards.length:=Nat.le_antisymm hk hk'
   subst e
   conv=>whnf
   refine .mk (by simp only[okI] at *; first|omega|(simp_all; done)|(simp_all; omega)) ?_
   conv=>whnf
   refine⟨i+1,[0],by omega,by omega,⟨⟨_,rfl,.eq rfl⟩,⟨_,rfl,.eq rfl⟩,trivial⟩,⟨⟨_,rfl,.eq rfl⟩,⟨_,rfl,.eq rfl⟩,trivial⟩,⟨rfl,nofun,rfl,rfl,rfl,_,rfl,rfl,rfl,dN.of_eq ?_⟩,trivial⟩
   rw[ML p hi']
 ·have hi':p.rules.length<=i:=by simpa using h3
  rw[List.take_of_length_le hi']
  conv=>whnf
  exact ak.agc rfl
def tZ(p:aO):Bool:=decide (p.topology<1)||decide (p.topology>4)||decide (p.fault<0)||decide (p.fault>3)
def vC(p:aO):Bool:=decide ((p.states.length:Int)>6)||decide ((p.messages.length:Int)>3)||decide ((p.values.length:Int)>3)||decide ((p.dD.length:Int)>4)||decide ((p.rules.length:Int)>8)
def QX(p:aO):Bool:=(!(p.topology==1)&&(decide ((p.messages.length:Int)>0)||decide ((p.values.length:Int)>0)||decide ((p.dD.length:Int)>0)||p.fault !=0))||((p.topology==1)&&decide ((p.leader.length:Int)>0))
def xM(p:aO):Int:=bJ [jw p.initial p.states.length,fE ((p.initial.length:Int)==0) 1,jw p.leader p.states.length]
def CO(p:aO):Int:=bJ ((List.range p.rules.length).map (ig p))
def dH(p:aO):Int :=
 bif !(validName p.name) then 2 else bif tZ p then 1 else bif (p.states.length:Int)==0 then 1 else bif vC p then 4 else
 bif zu p !=0 then zu p else bif QX p then 1 else
 bif p.dD.any (fun l=> !(QN l)) then 4 else
 bif xM p !=0 then xM p else
 bif CO p !=0 then CO p else fE (decide (((yH p.rules).length:Int)>3)) 4
theorem JU{n i:Nat}{f:Nat->Int}(h:i<n):((List.range n).drop i).map f=f i::((List.range n).drop (i+1)).map f:=by
 rw[List.drop_eq_getElem_cons (by simpa using h)]; simp
theorem S.fM(p:aO)(hp:fG p):aj Tryz.prog 99 [.dat (.kS p)] (.int (dH p)):=by
 have g1:=hp.states; have g2:=hp.messages; have g3:=hp.values; have g4:=hp.dD; have g5:=hp.initial; have g6:=hp.leader; have g7:=hp.rules
 refine aj.of Bd.fM (by simp) rfl rfl ?_
 conv=>whnf
 refine ah.pure (S.dY p.name) rfl ?_
 conv=>whnf
 refine⟨fun h1=>?_,fun h1=>?_⟩
 ·conv=>whnf
  exact ak.int (by rw[dH,h1]; rfl)
 conv=>whnf
 repeat(refine VC.mk (by first|exact id|(intro h; rw[h]; rfl)) ?_; conv=>whnf)
 refine⟨fun h2=>?_,fun h2=>?_⟩
 ·conv=>whnf
  exact ak.int (by rw[dH,h1,show tZ p=true from h2]; rfl)
 conv=>whnf
 refine⟨fun h3=>?_,fun h3=>?_⟩
 ·conv=>whnf
  exact ak.int (by rw[dH,h1,show tZ p=false from h2,h3]; rfl)
 conv=>whnf
 repeat(refine VC.mk (by first|exact id|(intro h; rw[h]; rfl)) ?_; conv=>whnf)
 refine⟨fun h4=>?_,fun h4=>?_⟩
 ·conv=>whnf
  exact ak.int (by rw[dH,h1,show tZ p=false from h2,h3,show vC p=true from h4]; rfl)
 conv=>whnf
 have h0:0<p.states.length:=by
  rcases Nat.eq_zero_or_pos p.states.length with e|e
  ·rw[e] at h3; exact absurd h3 (by decide)
  ·exact e
 refine ah.pure (S.jU p h0 g1 g2 g3) rfl ?_
 conv=>whnf
 refine⟨fun h5=>?_,fun h5=>?_⟩
 ·conv=>whnf
  exact ak.int (by rw[dH,h1,show tZ p=false from h2,h3,show vC p=false from h4,h5]; rfl)
 conv=>whnf
 repeat(refine VC.mk (by first|exact id|(intro h; rw[h]; rfl)|(intro h; simp_all; done)) ?_; conv=>whnf)
 refine⟨fun h6=>?_,fun h6=>?_⟩
 ·conv=>whnf
  exact ak.int (by rw[dH,h1,show tZ p=false from h2,h3,show vC p=false from h4,h5,show QX p=true from h6]; rfl)
 conv=>whnf
 refine aI.same [1,4,111,112] (fun i:Nat=>[(113,.int i)]) (fun i=>i<=p.dD.length/\(p.dD.take i).any (fun l=> !(QN l))=false) (fun i=>p.dD.length-i) 0 rfl (by decide) rfl (fun _=>rfl) ⟨by omega,by simp⟩ ⟨⟨_,rfl,rfl⟩,trivial⟩ ?_
 conv=>whnf
 refine⟨rfl,?_⟩
 rintro i ⟨hi,hall⟩
 conv=>whnf
 refine⟨fun h7=>?_,fun h7=>?_⟩
 ·have hi':i<p.dD.length:=by simpa using h7
  conv=>whnf
  refine .mk (by simp only[Rw.rng] at *; omega) ?_
  conv=>whnf
  refine ah.pure (S.gZ (p.dD.getD i default)) rfl ?_
  conv=>whnf
  refine⟨fun h8=>?_,fun h8=>?_⟩
  ·conv=>whnf
   exact ak.int (by rw[dH,h1,show tZ p=false from h2,h3,show vC p=false from h4,h5,show QX p=false from h6,gI (d:=default) hi' h8]; rfl)
  ·conv=>whnf
   refine .mk (by simp only[okI] at *; omega) ?_
   conv=>whnf
   refine⟨i+1,⟨by omega,?_⟩,by omega,⟨⟨_,rfl,rfl⟩,trivial⟩,?_,rfl⟩
   ·rw[jE (d:=default) hi' hall]; exact h8
   ·repeat' (first|exact trivial|exact⟨_,rfl,rfl⟩|constructor)
 have hi':p.dD.length<=i:=by simpa using h7
 rw[List.take_of_length_le hi'] at hall
 conv=>whnf
 refine ah.pure (S.dJ p.initial p.states.length false (by omega)) rfl ?_
 conv=>whnf
 refine ah.pure (S.bU ((p.initial.length:Int)==0) 1) rfl ?_
 conv=>whnf
 refine ah.pure (S.dJ p.leader p.states.length false (by omega)) rfl ?_
 conv=>whnf
 refine ah.pure (S.bM [jw p.initial p.states.length,fE ((p.initial.length:Int)==0) 1,jw p.leader p.states.length] true (show 3<2^40 by decide)) rfl ?_
 conv=>whnf
 refine⟨fun h9=>?_,fun h9=>?_⟩
 ·conv=>whnf
  exact ak.int (by rw[dH,h1,show tZ p=false from h2,h3,show vC p=false from h4,h5,show QX p=false from h6,hall,show(xM p !=0)=true from h9]; rfl)
 conv=>whnf
 refine aI.same [1,140,141] (fun i:Nat=>[(142,.int i)]) (fun i=>i<=p.rules.length/\CO p=bJ (((List.range p.rules.length).drop i).map (ig p))) (fun i=>p.rules.length-i) 0 rfl (by decide) rfl (fun _=>rfl) ⟨by omega,by simp[CO]⟩ ⟨⟨_,rfl,rfl⟩,trivial⟩ ?_
 conv=>whnf
 refine⟨rfl,?_⟩
 rintro i ⟨hi,hr⟩
 conv=>whnf
 refine⟨fun h10=>?_,fun h10=>?_⟩
 ·have hi':i<p.rules.length:=by simpa using h10
  rw[JU hi'] at hr
  simp only[bJ] at hr
  conv=>whnf
  refine ah.pure (S.gK p i hi' hp) rfl ?_
  conv=>whnf
  refine⟨fun h11=>?_,fun h11=>?_⟩
  ·conv=>whnf
   have aeY:ig p i≠0:=QW h11
   rw[if_neg aeY] at hr
   exact ak.int (by rw[dH,h1,show tZ p=false from h2,h3,show vC p=false from h4,h5,show QX p=false from h6,hall,show(xM p !=0)=false from h9,hr,h11]; rfl)
  ·conv=>whnf
   refine .mk (by simp only[okI] at *; omega) ?_
   conv=>whnf
   have aeY:ig p i=0:=IL h11
   rw[if_pos aeY] at hr
   refine⟨i+1,⟨by omega,hr⟩,by omega,⟨⟨_,rfl,rfl⟩,trivial⟩,?_,rfl⟩
   repeat' (first|exact trivial|exact⟨_,rfl,rfl⟩|constructor)
 have hi':p.rules.length<=i:=by simpa using h10
 rw[List.drop_eq_nil_of_le (by simpa using hi')] at hr
 conv=>whnf
 refine ah.pure (S.fK p hp) rfl ?_
 conv=>whnf
 refine ah.pure (S.bU (decide (((yH p.rules).length:Int)>3)) 4) rfl ?_
 conv=>whnf
 exact ak.int (by rw[dH,h1,show tZ p=false from h2,h3,show vC p=false from h4,h5,show QX p=false from h6,hall,show(xM p !=0)=false from h9,hr]; rfl)
theorem ak.eqv{a b:V}{h:Hz}(e:a.aG=b.aG):ak a b h:=⟨by rw[e]; exact dP _⟩
def QZ(acc:Bool)(r:Rule):Bool:=acc&&(r.kind==1)&&decide (r.fr<r.to)&&((r.ex.length:Int)==0)&&((r.all.length:Int)==0)
def Xv(acc:Bool)(r:Rule):Bool:=acc||decide ((r.all.length:Int)>0)
def rW(p:aO):Bool:=(p.topology==1)&&(p.fault==0)&&((p.messages.length:Int)==0)&&((p.dD.length:Int)==0)
structure Cls where
 Rn:Bool
 cover:Bool
 word:Bool
 tree:Bool
 monadic:Bool
def qF(p:aO):Cls :=
 ⟨(p.topology==1)&&((p.values.length:Int)==0)&&p.rules.foldl QZ true,rW p&& !(p.rules.foldl Xv false),(p.topology==2)||(p.topology==3),p.topology==4,rW p&&decide ((p.states.length:Int)<=4)⟩
def agf(c:Cls):V:=.agg [.bool c.Rn,.bool c.cover,.bool c.word,.bool c.tree,.bool c.monadic]
def XD:Cls:=⟨false,false,false,false,false⟩
def FY(p:aO):V:=.fP [agf (bif dH p !=0 then XD else qF p),.int (dH p)]
theorem S.iC(p:aO)(hp:fG p):aj Tryz.prog 106 [.dat (.kS p)] (FY p):=by
 have g1:=hp.states; have g2:=hp.messages; have g3:=hp.values; have g4:=hp.dD; have g7:=hp.rules
 refine aj.of Bd.iC (by simp) rfl rfl ?_
 conv=>whnf
 refine ah.pure (S.fM p hp) rfl ?_
 conv=>whnf
 refine⟨fun h1=>?_,fun h1=>?_⟩
 ·conv=>whnf
  refine ak.eqv ?_
  rw[FY,h1]; rfl
 have h1':dH p=0:=IL h1
 conv=>whnf
 refine aI.same [1,2,3,18,19] (fun i:Nat=>[(20,.int i),(5,.bool ((p.rules.take i).foldl QZ true)),(6,.bool ((p.rules.take i).foldl Xv false))]) (fun i=>i<=p.rules.length) (fun i=>p.rules.length-i) 0 rfl (by decide) rfl (fun _=>rfl) (Nat.zero_le _) ⟨⟨_,rfl,rfl⟩,⟨_,rfl,rfl⟩,⟨_,rfl,rfl⟩,trivial⟩ ?_
 conv=>whnf
 refine⟨rfl,?_⟩
 rintro i hi
 have g8:=hp.rule i
 have g9:=g8.ex; have g10:=g8.all
 conv=>whnf
 refine⟨fun h7=>?_,fun h7=>?_⟩
 ·have hi':i<p.rules.length:=by simpa using h7
  conv=>whnf
  repeat(refine VC.mk (by first|exact id|exact fun h=>⟨h,h⟩|(intro h; rw[h]; rfl)|(simp only[okI,Rw.rng] at *; omega)) ?_; conv=>whnf)
  refine⟨i+1,by omega,by omega,⟨⟨_,rfl,rfl⟩,⟨_,rfl,?_⟩,⟨_,rfl,?_⟩,trivial⟩,?_,rfl⟩
  ·rw[Aw (d:=default) hi']; rfl
  ·rw[Aw (d:=default) hi']; rfl
  ·repeat' (first|exact trivial|exact⟨_,rfl,rfl⟩|constructor)
 have hi':p.rules.length<=i:=by simpa using h7
 rw[List.take_of_length_le hi']
 conv=>whnf
 repeat(refine VC.mk (by first|exact id|(intro h; rw[h]; rfl)) ?_; conv=>whnf)
 refine ak.eqv ?_
 rw[FY,h1']
 rfl
def kE(r:Rule)(t:Int):Bool :=
 bif !(r.kind==1)&&(decide ((r.guards.length:Int)>0)||decide ((r.ex.length:Int)>0)||decide ((r.all.length:Int)>0)||decide ((r.send.length:Int)>0)) then true else
 bif !(r.kind==1)&& !(r.kind==2)&& !(r.kind==3)&&(r.read != -1||r.write != -1) then true else
 bif !(r.kind==2)&& !(r.kind==5)&&(r.gB !=0||r.AB !=0) then true else
 bif (!(r.kind==3)&&decide ((r.response.length:Int)>0))||(!(r.kind==5)&&r.direction !=0) then true else
 bif !(r.kind==4)&&(r.pos !=0||decide ((r.left.length:Int)>0)||decide ((r.right.length:Int)>0)) then true else
 decide ((r.parent.length:Int)>0)&& !((r.kind==4)&&(t==4))
theorem gt0{n:Nat}:decide ((n:Int)>0)= !(n==0):=by
 cases n with
 |zero=>rfl
 |succ n=>rw[decide_eq_true (by omega)]; rfl
theorem ag2(a b c d e f g h:Nat):decide ((a:Int)+b+c+d+e+f+g+h>0)=(!(a==0)|| !(b==0)|| !(c==0)|| !(d==0)|| !(e==0)|| !(f==0)|| !(g==0)|| !(h==0)):=by
 rw[Bool.eq_iff_iff]
 simp only[decide_eq_true_eq,Bool.or_eq_true,Bool.not_eq_true',beq_eq_false_iff_ne,ne_eq]
 omega
theorem uV{r:Rule}{t:Int}(h:1<=r.kind/\r.kind<=5):kE r t=kN r t:=by
 have hk:r.kind=1\/r.kind=2\/r.kind=3\/r.kind=4\/r.kind=5:=by omega
 simp only[kE,kN,Du,gt0,ag2,bne]
 generalize (r.guards.length==0)=g1
 generalize (r.ex.length==0)=g2
 generalize (r.all.length==0)=g3
 generalize (r.send.length==0)=g4
 generalize (r.response.length==0)=g5
 generalize (r.left.length==0)=g6
 generalize (r.right.length==0)=g7
 generalize (r.parent.length==0)=g8
 generalize (r.read== -1)=g9
 generalize (r.write== -1)=g10
 generalize (r.gB==0)=g11
 generalize (r.AB==0)=g12
 generalize (r.direction==0)=g13
 generalize (r.pos==0)=g14
 rcases hk with hk|hk|hk|hk|hk<;>rw[hk] <;>
  (first
   |(simp; done)
   |(cases (t==4)<;>simp<;>grind)
   |(simp; grind))
end Go.Proofs.YtajmbgljnaljiaaGreatDoor
