/-
 A part of the proof. No condition.
-/
import Derived.Test.YtkomllaebngbfaaGreatDoorNb
import Derived.Test.YtkomllaebngbfaaGreatDoorLg
namespace Go.Proofs.YtkomllaebngbfaaGreatDoor
open Go.Ab Go.Proofs
set_option maxRecDepth 100000
def eF(b:Bool)(e:Int):Int:=bif b then e else 0
theorem S.bn(b:Bool)(e:Int):aj Tryz.prog 152 [.bool b,.int e] (.int (eF b e)):=by
 refine aj.of Bd.bn (by simp) rfl rfl ?_
 conv=>whnf
 refine⟨fun h=>?_,fun h=>?_⟩
 ·conv=>whnf
  exact ak.int (by rw[h]; rfl)
 ·conv=>whnf
  exact ak.int (by rw[h]; rfl)
def nN(i n:Int):Bool:=decide (i<0)||decide (i>=n)
def cO(i n:Int):Int:=eF (nN i n) 5
theorem S.bD(i n:Int):aj Tryz.prog 175 [.int i,.int n] (.int (cO i n)):=by
 refine aj.of Bd.bD (by simp) rfl rfl ?_
 conv=>whnf
 repeat(refine VC.mk (by first|exact fun h=>⟨h,h⟩|(intro h; rw[h]; rfl)) ?_; conv=>whnf)
 refine ah.pure (S.bn (nN i n) 5) rfl ?_
 conv=>whnf
 exact ak.int rfl
def aY:List Int->Int
 |[]=>0
 |e::r=>if e=0 then aY r else e
theorem S.aZ(l:List Int)(f:Bool)(hl:l.length<2^40):aj Tryz.prog 151 [.row 0 f (.ints l)] (.int (aY l)):=by
 refine aj.of Bd.aZ (by simp) rfl rfl ?_
 conv=>whnf
 refine aX.same [5,6] (fun i:Nat=>[(7,.int i)]) (fun i=>i<=l.length/\aY l=aY (l.drop i)) (fun i=>l.length-i) 0 rfl (by decide) rfl (fun _=>rfl) ⟨by omega,by simp⟩ ⟨⟨_,rfl,rfl⟩,trivial⟩ ?_
 conv=>whnf
 refine⟨rfl,?_⟩
 rintro i ⟨hi,hall⟩
 conv=>whnf
 refine⟨fun h3=>?_,fun h3=>?_⟩
 ·have hi':i<l.length:=by simpa using h3
  rw[dM 0 hi'] at hall
  simp only[aY] at hall
  conv=>whnf
  refine .mk (by simp only[Rw.rng] at *; omega) ?_
  conv=>whnf
  refine⟨fun h4=>?_,fun h4=>?_⟩
  ·conv=>whnf
   refine ak.int ?_
   have:l.getD i 0≠0:=by simpa using h4
   rw[hall,if_neg this]; rfl
  ·conv=>whnf
   refine .mk (by simp only[okI] at *; omega) ?_
   conv=>whnf
   have:l.getD i 0=0:=by simpa using h4
   rw[if_pos this] at hall
   refine⟨i+1,⟨by omega,hall⟩,by omega,⟨⟨_,rfl,rfl⟩,trivial⟩,?_,rfl⟩
   repeat' (first|exact trivial|exact⟨_,rfl,rfl⟩|constructor)
 ·conv=>whnf
  refine ak.int ?_
  have hi':l.length<=i:=by simpa using h3
  rw[hall,List.drop_eq_nil_of_le hi']; rfl
def Ia:List Int->Bool
 |a::b::r=>decide (a<b)&&Ia (b::r)
 |_=>true
def jg(l:List Int)(n:Int):Int:=bif l.any (fun i=>nN i n) then 5 else bif Ia l then 0 else 1
theorem S.dF(l:List Int)(n:Int)(f:Bool)(hl:l.length<2^40):aj Tryz.prog 150 [.row 0 f (.ints l),.int n] (.int (jg l n)):=by
 refine aj.of Bd.dF (by simp) rfl rfl ?_
 conv=>whnf
 refine aX.same [0,1,8,9] (fun i:Nat=>[(10,.int i)]) (fun i=>i<=l.length/\(l.take i).any (fun i=>nN i n)=false) (fun i=>l.length-i) 0 rfl (by decide) rfl (fun _=>rfl) ⟨by omega,by simp⟩ ⟨⟨_,rfl,rfl⟩,trivial⟩ ?_
 conv=>whnf
 refine⟨rfl,?_⟩
 rintro i ⟨hi,hall⟩
 conv=>whnf
 refine⟨fun h3=>?_,fun h3=>?_⟩
 ·have hi':i<l.length:=by simpa using h3
  conv=>whnf
  repeat(refine VC.mk (by first|exact fun h=>⟨h,h⟩|(intro h; rw[h]; rfl)|(simp only[Rw.rng] at *; omega)) ?_; conv=>whnf)
  refine⟨fun h4=>?_,fun h4=>?_⟩
  ·conv=>whnf
   refine ak.int ?_
   rw[jg,iY (d:=0) hi' h4]; rfl
  ·conv=>whnf
   refine .mk (by simp only[okI] at *; omega) ?_
   conv=>whnf
   refine⟨i+1,⟨by omega,?_⟩,by omega,⟨⟨_,rfl,rfl⟩,trivial⟩,?_,rfl⟩
   ·rw[kL (d:=0) hi' hall]; exact h4
   ·repeat' (first|exact trivial|exact⟨_,rfl,rfl⟩|constructor)
 ·have hi':l.length<=i:=by simpa using h3
  rw[List.take_of_length_le hi'] at hall
  conv=>whnf
  refine aX.same [0] (fun i:Nat=>[(7,.int (i+1))]) (fun i=>(i<l.length\/i=0)/\Ia l=Ia (l.drop i)) (fun i=>l.length-i) 0 rfl (by decide) rfl (fun _=>rfl) ⟨by omega,by simp⟩ ⟨⟨_,rfl,rfl⟩,trivial⟩ ?_
  conv=>whnf
  refine⟨rfl,?_⟩
  rintro i ⟨hi,hinc⟩
  conv=>whnf
  refine⟨fun h5=>?_,fun h5=>?_⟩
  ·have hi1:i+1<l.length:=by have:=of_decide_eq_true h5; omega
   rw[dM 0 (show i<l.length by omega),dM 0 hi1] at hinc
   simp only[Ia] at hinc
   rw[<- dM 0 hi1] at hinc
   conv=>whnf
   repeat(refine VC.mk (by simp only[okI,Rw.rng] at *; omega) ?_; conv=>whnf)
   refine⟨fun h6=>?_,fun h6=>?_⟩
   ·conv=>whnf
    refine ak.int ?_
    have e1:((i:Int)+1).toNat=i+1:=by omega
    have e2:((i:Int)+1-1).toNat=i:=by omega
    rw[e1,e2] at h6
    have h6':l.getD (i+1) 0<=l.getD i 0:=of_decide_eq_true h6
    rw[jg,hall,hinc,decide_eq_false (by omega)]; rfl
   ·conv=>whnf
    refine .mk (by simp only[okI] at *; omega) ?_
    conv=>whnf
    have e1:((i:Int)+1).toNat=i+1:=by omega
    have e2:((i:Int)+1-1).toNat=i:=by omega
    rw[e1,e2] at h6
    have h6': ¬ l.getD (i+1) 0<=l.getD i 0:=of_decide_eq_false h6
    rw[decide_eq_true (by omega),Bool.true_and] at hinc
    refine⟨i+1,⟨by omega,hinc⟩,by omega,⟨⟨_,rfl,rfl⟩,trivial⟩,?_,rfl⟩
    repeat' (first|exact trivial|exact⟨_,rfl,rfl⟩|constructor)
  ·conv=>whnf
   refine ak.int ?_
   have h5': ¬ ((i:Int)+1<l.length):=of_decide_eq_false h5
   have:Ia l=true:=by
    rw[hinc]
    rcases hd:l.drop i with _|⟨a,_|⟨b,r⟩⟩
    ·rfl
    ·rfl
    ·have:=congrArg List.length hd
     simp only[List.length_drop,List.length_cons] at this
     omega
   rw[jg,hall,this]; rfl
def Ws(n:Int):Bool:=decide (n>= -100)&&decide (n<=100)
theorem S.eP(n:Int):aj Tryz.prog 182 [.int n] (.bool (Ws n)):=by
 refine aj.of Bd.eP (by simp) rfl rfl ?_
 conv=>whnf
 repeat(refine VC.mk id ?_; conv=>whnf)
 exact ak.bool rfl
def Nr(l:Xw):Bool:=Ws l.c&&Ws l.n&&Ws l.t&&Ws l.f
theorem S.fZ(l:Xw):aj Tryz.prog 171 [.dat (.lin l)] (.bool (Nr l)):=by
 refine aj.of Bd.fZ (by simp) rfl rfl ?_
 conv=>whnf
 refine ah.pure (S.eP l.c) rfl ?_
 conv=>whnf
 repeat(refine VC.mk id ?_; conv=>whnf)
 refine ah.eY (fun _=>S.eP l.n) rfl ?_
 conv=>whnf
 repeat(refine VC.mk id ?_; conv=>whnf)
 refine ah.eY (fun _=>S.eP l.t) rfl ?_
 conv=>whnf
 repeat(refine VC.mk id ?_; conv=>whnf)
 refine ah.eY (fun _=>S.eP l.f) rfl ?_
 conv=>whnf
 refine VC.mk id ?_
 conv=>whnf
 exact ak.bool rfl
def jA(p:aJ)(v:Int):Int:=eF (decide (v< -1)||decide (v>=p.values.length)) 5
theorem S.dR(p:aJ)(v:Int):aj Tryz.prog 188 [.dat (.iC p),.int v] (.int (jA p v)):=by
 refine aj.of Bd.dR (by simp) rfl rfl ?_
 conv=>whnf
 repeat(refine VC.mk (by first|exact id|exact fun h=>⟨h,h⟩|(intro h; rw[h]; rfl)) ?_; conv=>whnf)
 refine ah.pure (S.bn _ 5) rfl ?_
 conv=>whnf
 exact ak.int rfl
theorem Nz{a:Int}(h:(a !=0)=true):a≠0:=by simpa using h
theorem G7{a:Int}(h:(a !=0)=false):a=0:=by simpa using h
def qH(k t:Int):Bool:=bif k==1||k==2||k==3 then t==1 else bif k==4||k==5 then !(t==1) else false
theorem S.kK(k t:Int):aj Tryz.prog 185 [.int k,.int t] (.bool (qH k t)):=by
 refine aj.of Bd.kK (by simp) rfl rfl ?_
 conv=>whnf
 refine⟨fun h1=>?_,fun h1=>?_⟩
 ·conv=>whnf
  refine Fork.mk (fun _=>?_) (fun q=>absurd (q.symm.trans (h1)) Bool.false_ne_true)
  conv=>whnf
  exact ak.bool (by simp[qH,h1])
 ·conv=>whnf
  refine⟨fun h2=>?_,fun h2=>?_⟩
  ·conv=>whnf
   refine Fork.mk (fun _=>?_) (fun q=>absurd (q.symm.trans (h2)) Bool.false_ne_true)
   conv=>whnf
   exact ak.bool (by simp[qH,h1,h2])
  ·conv=>whnf
   refine⟨fun h3=>?_,fun h3=>?_⟩
   ·conv=>whnf
    exact ak.bool (by simp[qH,h1,h2,h3])
   ·conv=>whnf
    refine⟨fun h4=>?_,fun h4=>?_⟩
    ·conv=>whnf
     refine Fork.mk (fun _=>?_) (fun q=>absurd (q.symm.trans (h4)) Bool.false_ne_true)
     conv=>whnf
     exact ak.bool (by simp[qH,h1,h2,h3,h4,bne])
    ·conv=>whnf
     refine⟨fun h5=>?_,fun h5=>?_⟩
     ·conv=>whnf
      exact ak.bool (by simp[qH,h1,h2,h3,h4,h5,bne])
     ·conv=>whnf
      exact ak.bool (by simp[qH,h1,h2,h3,h4,h5])
def oz:List Int->Int->Int
 |[],_=>0
 |x::r,n=>if cO x n=0 then oz r n else cO x n
def AX(l:List Int)(n:Int):Int:=bif (l.length:Int) !=n then 1 else oz l n
theorem S.fP(l:List Int)(n:Int)(f:Bool)(hl:l.length<2^40):aj Tryz.prog 189 [.row 0 f (.ints l),.int n] (.int (AX l n)):=by
 refine aj.of Bd.fP (by simp) rfl rfl ?_
 conv=>whnf
 refine⟨fun h=>?_,fun h=>?_⟩
 ·conv=>whnf
  exact ak.int (by rw[AX,h]; rfl)
 ·conv=>whnf
  refine aX.same [0,1,12,13] (fun i:Nat=>[(14,.int i)]) (fun i=>i<=l.length/\oz l n=oz (l.drop i) n) (fun i=>l.length-i) 0 rfl (by decide) rfl (fun _=>rfl) ⟨by omega,by simp⟩ ⟨⟨_,rfl,rfl⟩,trivial⟩ ?_
  conv=>whnf
  refine⟨rfl,?_⟩
  rintro i ⟨hi,hall⟩
  conv=>whnf
  refine⟨fun h3=>?_,fun h3=>?_⟩
  ·have hi':i<l.length:=by simpa using h3
   rw[dM 0 hi'] at hall
   simp only[oz] at hall
   conv=>whnf
   refine .mk (by simp only[Rw.rng] at *; omega) ?_
   conv=>whnf
   refine ah.pure (S.bD (l.getD i 0) n) rfl ?_
   conv=>whnf
   refine⟨fun h4=>?_,fun h4=>?_⟩
   ·conv=>whnf
    refine ak.int ?_
    have:cO (l.getD i 0) n≠0:=by simpa using h4
    rw[AX,h,cond_false,hall,if_neg this]
   ·conv=>whnf
    refine .mk (by simp only[okI] at *; omega) ?_
    conv=>whnf
    have:cO (l.getD i 0) n=0:=by simpa using h4
    rw[if_pos this] at hall
    refine⟨i+1,⟨by omega,hall⟩,by omega,⟨⟨_,rfl,rfl⟩,trivial⟩,?_,rfl⟩
    repeat' (first|exact trivial|exact⟨_,rfl,rfl⟩|constructor)
  ·conv=>whnf
   refine ak.int ?_
   have hi':l.length<=i:=by simpa using h3
   rw[AX,h,cond_false,hall,List.drop_eq_nil_of_le hi']; rfl
def guardE(p:aJ)(g:xU):Int:=aY [cO g.message p.messages.length,eF (decide (g.BF<1)||decide (g.BF>100)) 1,eF (!(Nr g.bound)) 4]
def jL(p:aJ):List xU->Int
 |[]=>0
 |g::r=>if guardE p g=0 then jL p r else guardE p g
def uJ(p:aJ)(l:List xU):Int:=if jL p l=0 then eF (decide ((l.length:Int)>2)) 4 else jL p l
theorem S.je(p:aJ)(l:List xU)(f:Bool)(hl:l.length<2^40):aj Tryz.prog 187 [.dat (.iC p),.row 7 f (.o7 l)] (.int (uJ p l)):=by
 refine aj.of Bd.je (by simp) rfl rfl ?_
 conv=>whnf
 refine aX.same [1,2,8,9] (fun i:Nat=>[(10,.int i)]) (fun i=>i<=l.length/\jL p l=jL p (l.drop i)) (fun i=>l.length-i) 0 rfl (by decide) rfl (fun _=>rfl) ⟨by omega,by simp⟩ ⟨⟨_,rfl,rfl⟩,trivial⟩ ?_
 conv=>whnf
 refine⟨rfl,?_⟩
 rintro i ⟨hi,hall⟩
 conv=>whnf
 refine⟨fun h3=>?_,fun h3=>?_⟩
 ·have hi':i<l.length:=by simpa using h3
  rw[dM default hi'] at hall
  simp only[jL] at hall
  conv=>whnf
  refine .mk (by simp only[Rw.rng] at *; omega) ?_
  conv=>whnf
  refine ah.pure (S.bD (l.getD i default).message p.messages.length) rfl ?_
  conv=>whnf
  repeat(refine VC.mk (by first|exact id|(intro h; rw[h]; rfl)) ?_; conv=>whnf)
  refine ah.pure (S.bn (decide ((l.getD i default).BF<1)||decide ((l.getD i default).BF>100)) 1) rfl ?_
  conv=>whnf
  refine ah.pure (S.fZ (l.getD i default).bound) rfl ?_
  conv=>whnf
  refine ah.pure (S.bn (!(Nr (l.getD i default).bound)) 4) rfl ?_
  conv=>whnf
  refine ah.pure (S.aZ [cO (l.getD i default).message p.messages.length,eF (decide ((l.getD i default).BF<1)||decide ((l.getD i default).BF>100)) 1,eF (!(Nr (l.getD i default).bound)) 4] true (show 3<2^40 by decide)) rfl ?_
  conv=>whnf
  refine⟨fun h4=>?_,fun h4=>?_⟩
  ·conv=>whnf
   refine ak.int ?_
   have h4':guardE p (l.getD i default)≠0:=Nz h4
   rw[if_neg h4'] at hall
   rw[uJ,hall,if_neg h4']; rfl
  ·conv=>whnf
   refine .mk (by simp only[okI] at *; omega) ?_
   conv=>whnf
   have h4':guardE p (l.getD i default)=0:=G7 h4
   rw[if_pos h4'] at hall
   refine⟨i+1,⟨by omega,hall⟩,by omega,⟨⟨_,rfl,rfl⟩,trivial⟩,?_,rfl⟩
   repeat' (first|exact trivial|exact⟨_,rfl,rfl⟩|constructor)
 ·have hi':l.length<=i:=by simpa using h3
  rw[List.drop_eq_nil_of_le hi'] at hall
  conv=>whnf
  refine ah.pure (S.bn (decide ((l.length:Int)>2)) 4) rfl ?_
  conv=>whnf
  exact ak.int (by rw[uJ,hall]; rfl)
structure zV(r:Rule):Prop where
 response:r.response.length<2^30
 guards:r.guards.length<2^30
 ex:r.ex.length<2^30
 all:r.all.length<2^30
 send:r.send.length<2^30
 left:r.left.length<2^30
 right:r.right.length<2^30
 parent:r.parent.length<2^30
def AA(r:Rule):Bool :=
 decide ((r.response.length:Int)+r.guards.length+r.ex.length+r.all.length+r.send.length+r.left.length+r.right.length+r.parent.length>0)||r.ig !=0||r.zB !=0||r.pos !=0||r.direction !=0||r.read != -1||r.write != -1
def kC(r:Rule)(t:Int):Bool :=
 bif r.kind==1 then AA {r with guards:=[],ex:=[],all:=[],send:=[],read:= -1,write:= -1} else
 bif r.kind==2 then(bif decide ((r.response.length:Int)>0) then true else AA {r with ig:=0,zB:=0,response:=[],read:= -1,write:= -1}) else
 bif r.kind==3 then AA {r with response:=[],read:= -1,write:= -1} else
 bif r.kind==4 then(bif t==4 then AA {r with pos:=0,left:=[],right:=[],parent:=[]} else AA {r with pos:=0,left:=[],right:=[]}) else
 bif r.kind==5 then AA {r with ig:=0,zB:=0,direction:=0} else AA r
theorem S.iK(r:Rule)(t:Int)(hs:zV r):aj Tryz.prog 186 [.dat (.rule r),.int t] (.bool (kC r t)):=by
 obtain⟨g1,g2,g3,g4,g5,g6,g7,g8⟩:=hs
 refine aj.of Bd.iK (by simp) rfl rfl ?_
 conv=>whnf
 refine⟨fun h1=>?_,fun h1=>?_⟩
 ·conv=>whnf
  repeat(refine VC.mk (by first|exact id|(intro h; rw[h]; rfl)|(simp only[okI] at *; omega)) ?_; conv=>whnf)
  exact ak.bool (by simp[kC,AA,h1])
 ·conv=>whnf
  refine⟨fun h2=>?_,fun h2=>?_⟩
  ·conv=>whnf
   refine⟨fun h6=>?_,fun h6=>?_⟩
   ·conv=>whnf
    exact ak.bool (by rw[kC,h1,h2,show decide ((r.response.length:Int)>0)=true from h6]; rfl)
   ·conv=>whnf
    repeat(refine VC.mk (by first|exact id|(intro h; rw[h]; rfl)|(simp only[okI] at *; omega)) ?_; conv=>whnf)
    exact ak.bool (by rw[kC,h1,h2,show decide ((r.response.length:Int)>0)=false from h6]; simp[AA])
  ·conv=>whnf
   refine⟨fun h3=>?_,fun h3=>?_⟩
   ·conv=>whnf
    repeat(refine VC.mk (by first|exact id|(intro h; rw[h]; rfl)|(simp only[okI] at *; omega)) ?_; conv=>whnf)
    exact ak.bool (by simp[kC,AA,h1,h2,h3])
   ·conv=>whnf
    refine⟨fun h4=>?_,fun h4=>?_⟩
    ·conv=>whnf
     refine⟨fun h7=>?_,fun h7=>?_⟩
     ·conv=>whnf
      repeat(refine VC.mk (by first|exact id|(intro h; rw[h]; rfl)|(simp only[okI] at *; omega)) ?_; conv=>whnf)
      exact ak.bool (by simp[kC,AA,h1,h2,h3,h4,h7])
     ·conv=>whnf
      repeat(refine VC.mk (by first|exact id|(intro h; rw[h]; rfl)|(simp only[okI] at *; omega)) ?_; conv=>whnf)
      exact ak.bool (by simp[kC,AA,h1,h2,h3,h4,h7])
    ·conv=>whnf
     refine⟨fun h5=>?_,fun h5=>?_⟩
     ·conv=>whnf
      repeat(refine VC.mk (by first|exact id|(intro h; rw[h]; rfl)|(simp only[okI] at *; omega)) ?_; conv=>whnf)
      exact ak.bool (by simp[kC,AA,h1,h2,h3,h4,h5])
     ·conv=>whnf
      repeat(refine VC.mk (by first|exact id|(intro h; rw[h]; rfl)|(simp only[okI] at *; omega)) ?_; conv=>whnf)
      exact ak.bool (by simp[kC,AA,h1,h2,h3,h4,h5])
def Wu(h:Hz):Hz->Prop
 |[]=>True
 |(i,o)::r=>h.get i=o/\Wu h r
theorem SY{h:Hz}: ∀ {h0:Hz},Wu h h0-> ∀ {i:Nat} {o:OV},h0.get i=some o->h.get i=some o:=by
 intro h0
 induction h0 with
 |nil=>intro _ i o e; cases e
 |cons p r ih =>
  obtain⟨j,u⟩:=p
  intro hs i o e
  simp only[Hz.get] at e
  cases hb:Nat.beq j i with
  |true=>rw[hb] at e; simp only[cond_true] at e; rw[<- Nat.eq_of_beq_eq_true hb,hs.1,e]
  |false=>rw[hb] at e; exact ih hs.2 e
def S9:Hz->Bool
 |[]=>true
 |(_,some o)::r=>o.WW&&S9 r
 |(_,none)::r=>S9 r
theorem NI: ∀ {h0:Hz},S9 h0=true-> ∀ {i:Nat} {o:OV},h0.get i=some o->o.WW=true:=by
 intro h0
 induction h0 with
 |nil=>intro _ i o e; cases e
 |cons p r ih =>
  obtain⟨j,u⟩:=p
  intro hs i o e
  simp only[Hz.get] at e
  cases hb:Nat.beq j i with
  |true =>
   rw[hb] at e; simp only[cond_true] at e; subst e
   simp only[S9,Bool.and_eq_true] at hs; exact hs.1
  |false =>
   rw[hb] at e
   refine ih ?_ e
   cases u with
   |none=>exact hs
   |some o=>simp only[S9,Bool.and_eq_true] at hs; exact hs.2
theorem OV.NJ{o:OV}(h:o.WW=true):T.aH (fun _=>False) o.bJ.l:=OV.Kt h
theorem Eh.same{nx:Nat}{h0 h:Hz}{n:Nat}{post:T->Hp->Prop}{v:V}(hf:v.free=true)(hs:Wu h h0)(hg:Gv nx h0=true)(hfr:S9 h0=true)(hp:post v.aG h0.aI):Eh h0 n post v h:=by
 have hG:=Gw hg
 have get: ∀ i ob,h0.aI i=some ob-> ∃ o,h0.get i=some o/\ob=o.bJ:=fun i ob e=>by
  simp only[Hz.aI,Option.map_eq_some_iff] at e
  obtain⟨o,e1,e2⟩:=e
  exact⟨o,e1,e2.symm⟩
 have hfree:=V.qJ v hf
 refine⟨fun _=>False,id,v.aG,h0.aI,hp,?_,fun i ob hi=>?_,fun i j _ _ e=>e,T.aV (fun _ h=>h.elim) _ (eH hfree),fun i ob hi=>?_,fun i _ _=>rfl⟩
 ·rw[OO]; exact fQ _
 ·obtain⟨o,e1,rfl⟩:=get i ob hi
  refine⟨o.bJ,cu (SY hs e1),fun h=>h,rfl,rfl,?_,JQ (hG i _ hi).2.2⟩
  rw[uF _ (OV.NJ (NI hfr e1))]; exact gY _
 ·obtain⟨o,e1,rfl⟩:=get i ob hi
  exact⟨.inl (by rw[hi]; rfl),T.aA (fun _ h=>h.elim) _ (OV.NJ (NI hfr e1))⟩
abbrev YB(p:aJ)(r:Rule):Hz:=[(7,some (.box 71 19 (.dat (.rule r)))),(0,some (.box 27 11 (.dat (.iC p))))]
theorem S.KR(p:aJ)(r x:Rule)(n:Nat):bF Tryz.prog 184 (V.bQ [.dat (.rule x),.ptr 7 0 0]) (YB p r).aI n (fun t hp=>t= .bool (x.name==r.name)/\hp=(YB p r).aI):=by
 refine Ls.of (nx:=8) Bd.iE (by simp) ⟨_,_,rfl,rfl⟩ rfl rfl ?_
 conv=>whnf
 exact Eh.same (nx:=8) rfl ⟨rfl,rfl,trivial⟩ rfl rfl ⟨rfl,rfl⟩
def CB(s:Str):List Rule->Nat->Int
 |[],_=> -1
 |x::r,i=>bif x.name==s then(i:Int) else CB s r (i+1)
theorem S.Tc(p:aJ)(r:Rule)(l:List Rule)(f:Bool)(hl:l.length<2^30)(n:Nat):bF Tryz.prog 204 (V.bQ [.row 19 f (.rules l),.fn 184 [.ptr 7 0 0]]) (YB p r).aI n (fun t hp=>t= .int (CB r.name l 0)/\hp=(YB p r).aI):=by
 refine Ls.of (nx:=8) Bd.bZ (by simp) ⟨_,_,rfl,rfl⟩ rfl rfl ?_
 conv=>whnf
 refine aX.same [0,1,6,7] (fun i:Nat=>[(8,.int i)]) (fun i=>i<=l.length/\CB r.name l 0=CB r.name (l.drop i) i) (fun i=>l.length-i) 0 rfl (by decide) rfl (fun _=>rfl) ⟨by omega,by simp⟩ ⟨⟨_,rfl,rfl⟩,trivial⟩ ?_
 conv=>whnf
 refine⟨rfl,?_⟩
 rintro i ⟨hi,hall⟩
 conv=>whnf
 refine⟨fun h3=>?_,fun h3=>?_⟩
 ·have hi':i<l.length:=by simpa using h3
  rw[dM default hi'] at hall
  simp only[CB] at hall
  conv=>whnf
  refine .mk (by simp only[Rw.rng] at *; omega) ?_
  conv=>whnf
  refine ah.heap (S.KR p r (l.getD i default) _) ?_
  rintro t hp ⟨rfl,rfl⟩
  refine⟨.bool _,YB p r,rfl,rfl,?_⟩
  conv=>whnf
  refine⟨fun h4=>?_,fun h4=>?_⟩
  ·conv=>whnf
   rw[h4] at hall
   exact Eh.same (nx:=8) rfl ⟨rfl,rfl,trivial⟩ rfl rfl ⟨by rw[hall]; rfl,rfl⟩
  ·conv=>whnf
   refine .mk (by simp only[okI] at *; omega) ?_
   conv=>whnf
   rw[h4] at hall
   refine⟨i+1,⟨by omega,hall⟩,by omega,⟨⟨_,rfl,rfl⟩,trivial⟩,?_,rfl⟩
   repeat' (first|exact trivial|exact⟨_,rfl,rfl⟩|constructor)
 ·conv=>whnf
  have hi':l.length<=i:=by simpa using h3
  rw[List.drop_eq_nil_of_le hi'] at hall
  exact Eh.same (nx:=8) rfl ⟨rfl,rfl,trivial⟩ rfl rfl ⟨by rw[hall]; rfl,rfl⟩
theorem Wv{s:Str}{l:List Rule}{i:Nat}:decide (0<=CB s l i)=l.any fun x=>x.name==s:=by
 have: ∀ {l:List Rule} {i:Nat},0<=CB s l i↔(l.any fun x=>x.name==s)=true:=by
  intro l
  induction l with
  |nil=>intro i; simp[CB]
  |cons x r ih =>
   intro i
   rw[List.any_cons,Bool.or_eq_true,<- ih (i:=i+1)]
   show(0:Int)<=(bif x.name==s then(i:Int) else CB s r (i+1))↔_
   generalize (x.name==s)=b
   cases b<;>simp
 rw[Bool.eq_iff_iff,decide_eq_true_eq]; exact this
theorem S.KT(p:aJ)(r:Rule)(l:List Rule)(f:Bool)(hl:l.length<2^30)(n:Nat):bF Tryz.prog 183 (V.bQ [.row 19 f (.rules l),.fn 184 [.ptr 7 0 0]]) (YB p r).aI n (fun t hp=>t= .bool (l.any fun x=>x.name==r.name)/\hp=(YB p r).aI):=by
 refine Ls.of (nx:=8) Bd.bI (by simp) ⟨_,_,rfl,rfl⟩ rfl rfl ?_
 conv=>whnf
 refine ah.heap (S.Tc p r l f hl _) ?_
 rintro t hp ⟨rfl,rfl⟩
 refine⟨.int _,YB p r,rfl,rfl,?_⟩
 conv=>whnf
 exact Eh.same (nx:=8) rfl ⟨rfl,rfl,trivial⟩ rfl rfl ⟨by rw[<- Wv (i:=0)]; rfl,rfl⟩
theorem ah.mkRow{P:Program}{f:FuncId}{args:List V}{h:Hz}{n ty k:Nat}{r:Rw}{K:V->Hz->Prop}{KW:Nat->V->Hz->Prop}(H:rE P f (V.bQ args) (fun n=>.own n) (some ⟨ty,k,r.bQ⟩))(hK:K (.own n) ((n,some (.row ty k r []))::h)):ah P false none f args h n K KW :=
 ah.heap (rE.frame H _ _) (by rintro t hp ⟨rfl,rfl⟩; exact⟨.own n,_,rfl,by rw[dI]; simp[gI,OV.bJ,V.bQ],hK⟩)
theorem S.Concat(a b c:List Str)(n:Nat)(h0:0<a.length)(ha:a.length<2^20)(hb:b.length<2^20)(hc:c.length<2^20) :
  bF Tryz.prog 180 (V.bQ [.Gj 0 false [.row 0 false (.strs a),.row 0 false (.strs b),.row 0 false (.strs c)]]) no n (fun t hp=>t= .own n/\hp=Hz.aI [(n,some (.row 9 0 (.strs (a++b++c)) []))]):=by
 refine Ls.of (nx:=0) (h0:=[]) Bd.dQ (by simp) ⟨_,_,rfl,rfl⟩ rfl rfl ?_
 conv=>whnf
 refine aX.times 4 rfl ?_
 conv=>whnf
 refine Fork.mk (fun _=>?_) (fun q=>absurd (q.symm.trans (rfl)) Bool.false_ne_true)
 conv=>whnf
 repeat(refine VC.mk (by first|(omega)|(simp only[okI] at *; omega)) ?_; conv=>whnf)
 refine Fork.mk (fun q=>absurd (q.symm.trans (decide_eq_false (by omega))).symm Bool.false_ne_true) (fun _=>?_)
 conv=>whnf
 refine .mk (by simp only[okI] at *; omega) ?_
 conv=>whnf
 refine Fork.mk (fun _=>?_) (fun q=>absurd (q.symm.trans (rfl)) Bool.false_ne_true)
 conv=>whnf
 repeat(refine VC.mk (by first|(omega)|(simp only[okI] at *; omega)) ?_; conv=>whnf)
 refine Fork.mk (fun q=>absurd (q.symm.trans (decide_eq_false (by omega))).symm Bool.false_ne_true) (fun _=>?_)
 conv=>whnf
 refine .mk (by simp only[okI] at *; omega) ?_
 conv=>whnf
 refine Fork.mk (fun _=>?_) (fun q=>absurd (q.symm.trans (rfl)) Bool.false_ne_true)
 conv=>whnf
 repeat(refine VC.mk (by first|(omega)|(simp only[okI] at *; omega)) ?_; conv=>whnf)
 refine Fork.mk (fun q=>absurd (q.symm.trans (decide_eq_false (by omega))).symm Bool.false_ne_true) (fun _=>?_)
 conv=>whnf
 refine .mk (by simp only[okI] at *; omega) ?_
 conv=>whnf
 refine Fork.mk (fun q=>absurd (q.symm.trans (rfl)).symm Bool.false_ne_true) (fun _=>?_)
 conv=>whnf
 have e:(0+(a.length:Int)+b.length+c.length)=((a.length+b.length+c.length:Nat):Int):=by omega
 rw[e]
 refine ah.mkRow (r:=.strs []) (S.Grow (a.length+b.length+c.length) (by omega) (by omega)) ?_
 conv=>whnf
 refine aX.times 4 rfl ?_
 conv=>whnf
 refine Fork.mk (fun _=>?_) (fun q=>absurd (q.symm.trans (rfl)) Bool.false_ne_true)
 conv=>whnf
 repeat(refine VC.mk (by first|(omega)|(simp only[yc,xI,Rw.len,List.length_nil]; omega)|(simp only[okI] at *; omega)) ?_; conv=>whnf)
 refine Fork.mk (fun _=>?_) (fun q=>absurd (q.symm.trans (rfl)) Bool.false_ne_true)
 conv=>whnf
 repeat(refine VC.mk (by first|(omega)|(simp only[yc,xI,Rw.len,List.length_append,List.length_nil]; omega)|(simp only[okI] at *; omega)) ?_; conv=>whnf)
 refine Fork.mk (fun _=>?_) (fun q=>absurd (q.symm.trans (rfl)) Bool.false_ne_true)
 conv=>whnf
 repeat(refine VC.mk (by first|(omega)|(simp only[yc,xI,Rw.len,List.length_append,List.length_nil]; omega)|(simp only[okI] at *; omega)) ?_; conv=>whnf)
 refine Fork.mk (fun q=>absurd (q.symm.trans (rfl)).symm Bool.false_ne_true) (fun _=>?_)
 conv=>whnf
 refine Eh.one (c:=n) (o:=.row 9 0 (.strs (a++b++c)) []) (t:=.own n) rfl rfl rfl nofun (.inr rfl) rfl (.eq rfl) ⟨rfl,rfl⟩
theorem S.YC(a b c:List Str)(h0:0<a.length)(ha:a.length<2^20)(hb:b.length<2^20)(hc:c.length<2^20) :
  rE Tryz.prog 180 (V.bQ [.Gj 0 false [.row 0 false (.strs a),.row 0 false (.strs b),.row 0 false (.strs c)]]) (fun n=>.own n) (some ⟨9,0,(Rw.strs (a++b++c)).bQ⟩):=by
 refine⟨rfl,fun _=>rfl,(fun ob h=>by cases h; rw[jv]; intro t ht; obtain⟨x,_,rfl⟩:=List.mem_map.1 ht; rfl),(fun ob h=>by cases h; exact fun e=>absurd e (by decide:(0:Nat)≠dK)),fun n=>(S.Concat a b c n h0 ha hb hc).mono ?_⟩
 rintro t hp ⟨rfl,rfl⟩
 refine⟨rfl,?_⟩
 rw[dI]; simp[gI,OV.bJ,V.bQ]; rfl
theorem ah.YD{P:Program}{f:FuncId}{args:List V}{ts:List T}{h:Hz}{n ty k:Nat}{r:Rw}{K:V->Hz->Prop}{KW:Nat->V->Hz->Prop}(H:rE P f ts (fun n=>.own n) (some ⟨ty,k,r.bQ⟩))(hs:T.eU (fun _=>True) h.aI ts (V.bQ args))(hh:T.qZ r.bQ=true)(hK:K (.own n) ((n,some (.row ty k r []))::h)):ah P false none f args h n K KW :=
 ⟨.inl (rE.lend H hs rfl (fun _ e=>by cases e; exact hh) ⟨.own n,_,rfl,by rw[dI]; simp[gI,OV.bJ,V.bQ],(fun e=>by cases e),hK⟩)⟩
theorem acd{h:Hz}{j ty:Nat}{Z:Nat->Prop}{l:List V}(hz:Z j)(q:h.get j=some (.row ty 0 .nil l))(hf:V.aT l=true):T.sub Z h.aI (V.Gj 0 false l).aG (V.own j).aG:=by
 show T.sub Z h.aI (.sl 0 false (V.bQ l)) (.own j)
 simp only[T.sub]
 exact⟨trivial,hz,V.lT l hf,by decide,ty,by rw[cu q]; rfl⟩
theorem Td{l:List Str}:T.qZ (Rw.strs l).bQ=true:=by
 show T.qZ (l.map eS)=true
 induction l with
 |nil=>rfl
 |cons s r ih=>simp only[List.map_cons,T.qZ,ih]; rfl
theorem ace{h:Hz}{j i ty:Nat}{Z:Nat->Prop}{l:List Str}(hz:Z j)(q:h.get j=some (.row ty 0 (.strs l) []))(hi:i<=l.length):T.sub Z h.aI (V.row 0 false (.strs (l.take i))).aG (V.lF j 0 i).aG:=by
 show T.sub Z h.aI (.sl 0 false ((l.take i).map eS)) (.lF j 0 i)
 simp only[T.sub]
 refine⟨trivial,hz,?_,by decide,ty,l.map eS,?_,by simpa using hi,by simp[List.map_take]⟩
 ·rw[jv]; intro t ht; obtain⟨x,_,rfl⟩:=List.mem_map.1 ht; rfl
 ·rw[cu q]; simp[OV.bJ,Rw.bQ,V.bQ]
def allNames(p:aJ):List Str:=p.states++p.messages++p.values
def KD(l:List Str)(i:Nat):Bool:= !(validName (l.getD i []))||(l.take i).any fun x=>l.getD i []==x
def xG(p:aJ):Int:=bif (List.range (allNames p).length).any (KD (allNames p)) then 2 else 0
theorem yR{n:Nat}{f:Nat->Bool}:(List.range n).any f=true↔ ∃ i,i<n/\f i=true:=by
 simp[List.any_eq_true]
theorem S.jH(p:aJ)(h0:0<p.states.length)(h1:p.states.length<2^20)(h2:p.messages.length<2^20)(h3:p.values.length<2^20):aj Tryz.prog 170 [.dat (.iC p)] (.int (xG p)):=by
 have hlen:(allNames p).length<2^30:=by simp only[allNames,List.length_append]; omega
 refine aj.of Bd.jH (by simp) rfl rfl ?_
 conv=>whnf
 refine ah.YD (r:=.strs (allNames p)) (S.YC p.states p.messages p.values h0 h1 h2 h3) (And.intro (acd (ty:=22) trivial rfl rfl) trivial) Td ?_
 conv=>whnf
 refine aX.same [3,14,15] (fun i:Nat=>[(16,.int i)]) (fun i=>i<=(allNames p).length/\(List.range i).any (KD (allNames p))=false) (fun i=>(allNames p).length-i) 0 rfl (by decide) rfl (fun _=>rfl) ⟨Nat.zero_le _,rfl⟩ ⟨⟨_,rfl,rfl⟩,trivial⟩ ?_
 conv=>whnf
 refine⟨rfl,?_⟩
 rintro i ⟨hi,hall⟩
 conv=>whnf
 refine⟨fun h4=>?_,fun h4=>?_⟩
 ·have hi':i<(allNames p).length:=by simpa using h4
  conv=>whnf
  repeat(refine VC.mk (by simp only[Rw.rng] at *; omega) ?_; conv=>whnf)
  refine ah.pure (S.dO ((allNames p).getD i [])) rfl ?_
  conv=>whnf
  repeat(refine VC.mk (by first|exact fun h=>⟨h,h⟩|(intro h; (repeat' apply And.intro)<;>first|exact h|omega|(simp only[Rw.qV]; omega)|(simp only[Rw.rng]; omega))) ?_; conv=>whnf)
  refine ah.TS (fun _=>S.slices_Contains_string ((allNames p).take i) ((allNames p).getD i []) false (by rw[List.length_take]; omega)) (fun _=>And.intro (ace (ty:=9) trivial rfl (by omega)) (And.intro (fQ _) trivial)) rfl rfl ?_
  conv=>whnf
  refine .mk (by intro h; rw[h]; rfl) ?_
  conv=>whnf
  refine⟨fun h5=>?_,fun h5=>?_⟩
  ·conv=>whnf
   refine ak.int ?_
   rw[xG,yR.2 ⟨i,hi',h5⟩]; rfl
  ·conv=>whnf
   refine .mk (by simp only[okI] at *; omega) ?_
   conv=>whnf
   refine⟨i+1,⟨by omega,?_⟩,by omega,⟨⟨_,rfl,rfl⟩,trivial⟩,?_,rfl⟩
   ·rw[List.range_succ,List.any_append,hall]
    simp only[List.any_cons,List.any_nil,Bool.or_false,Bool.false_or]; exact h5
   ·repeat' (first|exact trivial|exact⟨_,rfl,rfl⟩|constructor)
 ·have hi':(allNames p).length<=i:=by simpa using h4
  have e:i=(allNames p).length:=Nat.le_antisymm hi hi'
  subst e
  conv=>whnf
  exact ak.int (by rw[xG,hall]; rfl)
theorem ah.acf{P:Program}{f:FuncId}{args:List V}{h:Hz}{hp0:Hp}{n:Nat}{K:V->Hz->Prop}{KW:Nat->V->Hz->Prop}{post:T->Hp->Prop}(S:bF P f (V.bQ args) hp0 n post)(e:h.aI=hp0)(hK: ∀ t hp,post t hp-> ∃ v h',t=v.aG/\hp=Hz.aI h'/\K v h'):ah P false none f args h n K KW:=by
 subst e; exact ah.heap S hK
theorem NK{i:Nat}{a b:Option OV}{r:Hz}:Hz.aI ((i,a)::(i,b)::r)=Hz.aI ((i,a)::r):=funext fun j=>by
 simp only[Hz.aI,Hz.get]; cases Nat.beq i j<;>rfl
structure dA(p:aJ):Prop where
 states:p.states.length<2^20
 messages:p.messages.length<2^20
 values:p.values.length<2^20
 bY:p.bY.length<2^30
 initial:p.initial.length<2^30
 leader:p.leader.length<2^30
 rules:p.rules.length<2^30
 rule: ∀ i,zV (p.rules.getD i default)
 o7:(p.rules.flatMap Rule.guards).length<2^30
def pq(p:aJ)(i:Nat):Bool:= !(validName (p.rules.getD i default).name)||(p.rules.take i).any fun x=>x.name==(p.rules.getD i default).name
def nR(p:aJ)(i:Nat):Bool:= !(qH (p.rules.getD i default).kind p.topology)||kC (p.rules.getD i default) p.topology
def tZ(p:aJ)(r:Rule):Int:=aY [cO r.fr p.states.length,cO r.to p.states.length]
def Wj(p:aJ)(r:Rule):Bool:=decide (r.pos<0)||decide (r.pos>2)||(r.pos !=0&&p.topology==3)
def gq(p:aJ)(i:Nat):Int :=
 let r:=p.rules.getD i default
 let n:Int:=p.states.length
 bif pq p i then 2 else bif nR p i then 6 else bif tZ p r !=0 then tZ p r else
 bif r.kind==1 then aY [uJ p r.guards,jg r.ex n,jg r.all n,jA p r.read,jA p r.write,jg r.send p.messages.length] else
 bif r.kind==2 then aY [cO r.ig n,cO r.zB n,jA p r.read,jA p r.write] else
 bif r.kind==3 then aY [AX r.response n,jA p r.read,jA p r.write] else
 bif r.kind==4 then aY [jg r.left n,jg r.right n,jg r.parent n,eF (Wj p r) 1] else
 bif p.topology==4 then aY [cO r.ig n,cO r.zB n,eF (decide (r.direction<3)||decide (r.direction>4)) 1]
 else aY [cO r.ig n,cO r.zB n,eF (decide (r.direction<1)||decide (r.direction>2)) 1]
theorem S.fO(p:aJ)(i:Nat)(hi:i<p.rules.length)(hp:dA p):aj Tryz.prog 172 [.dat (.iC p),.int i] (.int (gq p i)):=by
 have hr:=hp.rule i
 have hp1:=hp.rules
 have hp2:=hp.states
 have hp3:=hp.messages
 refine aj.of Bd.fO (by simp) rfl rfl ?_
 conv=>whnf
 repeat(refine VC.mk (by first|(simp only[Rw.qV]; omega)|(simp only[Rw.rng] at *; omega)) ?_; conv=>whnf)
 refine ah.acf (S.KT p (p.rules.getD i default) (p.rules.take i) false (by rw[List.length_take]; omega) _) NK ?_
 rintro t hp' ⟨rfl,rfl⟩
 refine⟨.bool _,YB p (p.rules.getD i default),rfl,rfl,?_⟩
 conv=>whnf
 refine ah.pure (S.dO (p.rules.getD i default).name) rfl ?_
 conv=>whnf
 refine .mk (by intro h; rw[h]; rfl) ?_
 conv=>whnf
 refine⟨fun h1=>?_,fun h1=>?_⟩
 ·conv=>whnf
  exact ak.int (by rw[gq,show pq p i=true from h1]; rfl)
 ·conv=>whnf
  refine ah.pure (S.kK (p.rules.getD i default).kind p.topology) rfl ?_
  conv=>whnf
  repeat(refine VC.mk (by first|exact id|exact fun h=>⟨h,h⟩) ?_; conv=>whnf)
  refine ah.eY (fun _=>S.iK (p.rules.getD i default) p.topology hr) rfl ?_
  conv=>whnf
  refine .mk (by intro h; rw[h]; rfl) ?_
  conv=>whnf
  refine⟨fun h2=>?_,fun h2=>?_⟩
  ·conv=>whnf
   exact ak.int (by rw[gq,show pq p i=false from h1,show nR p i=true from h2]; rfl)
  ·conv=>whnf
   refine ah.pure (S.bD (p.rules.getD i default).fr p.states.length) rfl ?_
   conv=>whnf
   refine ah.pure (S.bD (p.rules.getD i default).to p.states.length) rfl ?_
   conv=>whnf
   refine ah.pure (S.aZ [cO (p.rules.getD i default).fr p.states.length,cO (p.rules.getD i default).to p.states.length] true (show 2<2^40 by decide)) rfl ?_
   conv=>whnf
   refine⟨fun h3=>?_,fun h3=>?_⟩
   ·conv=>whnf
    exact ak.int (by rw[gq,show pq p i=false from h1,show nR p i=false from h2,show(tZ p (p.rules.getD i default) !=0)=true from h3]; rfl)
   ·conv=>whnf
    refine⟨fun h4=>?_,fun h4=>?_⟩
    ·conv=>whnf
     refine ah.pure (S.je p (p.rules.getD i default).guards false (by have:=hr.guards; omega)) rfl ?_
     conv=>whnf
     refine ah.pure (S.dF (p.rules.getD i default).ex p.states.length false (by have:=hr.ex; omega)) rfl ?_
     conv=>whnf
     refine ah.pure (S.dF (p.rules.getD i default).all p.states.length false (by have:=hr.all; omega)) rfl ?_
     conv=>whnf
     refine ah.pure (S.dR p (p.rules.getD i default).read) rfl ?_
     conv=>whnf
     refine ah.pure (S.dR p (p.rules.getD i default).write) rfl ?_
     conv=>whnf
     refine ah.pure (S.dF (p.rules.getD i default).send p.messages.length false (by have:=hr.send; omega)) rfl ?_
     conv=>whnf
     refine ah.pure (S.aZ [uJ p (p.rules.getD i default).guards,jg (p.rules.getD i default).ex p.states.length,jg (p.rules.getD i default).all p.states.length,jA p (p.rules.getD i default).read,jA p (p.rules.getD i default).write,jg (p.rules.getD i default).send p.messages.length] true (show 6<2^40 by decide)) rfl ?_
     conv=>whnf
     exact ak.int (by rw[gq,show pq p i=false from h1,show nR p i=false from h2,show(tZ p (p.rules.getD i default) !=0)=false from h3,h4]; rfl)
    ·conv=>whnf
     refine⟨fun h5=>?_,fun h5=>?_⟩
     ·conv=>whnf
      refine ah.pure (S.bD (p.rules.getD i default).ig p.states.length) rfl ?_
      conv=>whnf
      refine ah.pure (S.bD (p.rules.getD i default).zB p.states.length) rfl ?_
      conv=>whnf
      refine ah.pure (S.dR p (p.rules.getD i default).read) rfl ?_
      conv=>whnf
      refine ah.pure (S.dR p (p.rules.getD i default).write) rfl ?_
      conv=>whnf
      refine ah.pure (S.aZ [cO (p.rules.getD i default).ig p.states.length,cO (p.rules.getD i default).zB p.states.length,jA p (p.rules.getD i default).read,jA p (p.rules.getD i default).write] true (show 4<2^40 by decide)) rfl ?_
      conv=>whnf
      exact ak.int (by rw[gq,show pq p i=false from h1,show nR p i=false from h2,show(tZ p (p.rules.getD i default) !=0)=false from h3,h4,h5]; rfl)
     ·conv=>whnf
      refine⟨fun h6=>?_,fun h6=>?_⟩
      ·conv=>whnf
       refine ah.pure (S.fP (p.rules.getD i default).response p.states.length false (by have:=hr.response; omega)) rfl ?_
       conv=>whnf
       refine ah.pure (S.dR p (p.rules.getD i default).read) rfl ?_
       conv=>whnf
       refine ah.pure (S.dR p (p.rules.getD i default).write) rfl ?_
       conv=>whnf
       refine ah.pure (S.aZ [AX (p.rules.getD i default).response p.states.length,jA p (p.rules.getD i default).read,jA p (p.rules.getD i default).write] true (show 3<2^40 by decide)) rfl ?_
       conv=>whnf
       exact ak.int (by rw[gq,show pq p i=false from h1,show nR p i=false from h2,show(tZ p (p.rules.getD i default) !=0)=false from h3,h4,h5,h6]; rfl)
      ·conv=>whnf
       refine⟨fun h7=>?_,fun h7=>?_⟩
       ·conv=>whnf
        repeat(refine VC.mk (by first|exact id|(intro h; rw[h]; rfl)|(intro h; simp_all; done)) ?_; conv=>whnf)
        refine ah.pure (S.dF (p.rules.getD i default).left p.states.length false (by have:=hr.left; omega)) rfl ?_
        conv=>whnf
        refine ah.pure (S.dF (p.rules.getD i default).right p.states.length false (by have:=hr.right; omega)) rfl ?_
        conv=>whnf
        refine ah.pure (S.dF (p.rules.getD i default).parent p.states.length false (by have:=hr.parent; omega)) rfl ?_
        conv=>whnf
        refine ah.pure (S.bn (Wj p (p.rules.getD i default)) 1) rfl ?_
        conv=>whnf
        refine ah.pure (S.aZ [jg (p.rules.getD i default).left p.states.length,jg (p.rules.getD i default).right p.states.length,jg (p.rules.getD i default).parent p.states.length,eF (Wj p (p.rules.getD i default)) 1] true (show 4<2^40 by decide)) rfl ?_
        conv=>whnf
        exact ak.int (by rw[gq,show pq p i=false from h1,show nR p i=false from h2,show(tZ p (p.rules.getD i default) !=0)=false from h3,h4,h5,h6,h7]; rfl)
       ·conv=>whnf
        refine⟨fun h8=>?_,fun h8=>?_⟩
        ·conv=>whnf
         refine ah.pure (S.bD (p.rules.getD i default).ig p.states.length) rfl ?_
         conv=>whnf
         refine ah.pure (S.bD (p.rules.getD i default).zB p.states.length) rfl ?_
         conv=>whnf
         repeat(refine VC.mk (by first|exact id|exact fun h=>⟨h,h⟩|(intro h; rw[h]; rfl)) ?_; conv=>whnf)
         refine ah.pure (S.bn (decide ((p.rules.getD i default).direction<3)||decide ((p.rules.getD i default).direction>4)) 1) rfl ?_
         conv=>whnf
         refine ah.pure (S.aZ [cO (p.rules.getD i default).ig p.states.length,cO (p.rules.getD i default).zB p.states.length,eF (decide ((p.rules.getD i default).direction<3)||decide ((p.rules.getD i default).direction>4)) 1] true (show 3<2^40 by decide)) rfl ?_
         conv=>whnf
         exact ak.int (by rw[gq,show pq p i=false from h1,show nR p i=false from h2,show(tZ p (p.rules.getD i default) !=0)=false from h3,h4,h5,h6,h7,h8]; rfl)
        ·conv=>whnf
         refine ah.pure (S.bD (p.rules.getD i default).ig p.states.length) rfl ?_
         conv=>whnf
         refine ah.pure (S.bD (p.rules.getD i default).zB p.states.length) rfl ?_
         conv=>whnf
         repeat(refine VC.mk (by first|exact id|exact fun h=>⟨h,h⟩|(intro h; rw[h]; rfl)) ?_; conv=>whnf)
         refine ah.pure (S.bn (decide ((p.rules.getD i default).direction<1)||decide ((p.rules.getD i default).direction>2)) 1) rfl ?_
         conv=>whnf
         refine ah.pure (S.aZ [cO (p.rules.getD i default).ig p.states.length,cO (p.rules.getD i default).zB p.states.length,eF (decide ((p.rules.getD i default).direction<1)||decide ((p.rules.getD i default).direction>2)) 1] true (show 3<2^40 by decide)) rfl ?_
         conv=>whnf
         exact ak.int (by rw[gq,show pq p i=false from h1,show nR p i=false from h2,show(tZ p (p.rules.getD i default) !=0)=false from h3,h4,h5,h6,h7,h8]; rfl)
def uI(g:xU):List xU->Nat->Int
 |[],_=> -1
 |x::r,i=>bif g==x then(i:Int) else uI g r (i+1)
theorem Nw{g:xU}{l:List xU}{i:Nat}:decide (0<=uI g l i)=l.any fun x=>g==x:=by
 have: ∀ {l:List xU} {i:Nat},0<=uI g l i↔(l.any fun x=>g==x)=true:=by
  intro l
  induction l with
  |nil=>intro i; simp[uI]
  |cons x r ih =>
   intro i
   rw[List.any_cons,Bool.or_eq_true,<- ih (i:=i+1)]
   show(0:Int)<=(bif g==x then(i:Int) else uI g r (i+1))↔_
   generalize (g==x)=b
   cases b<;>simp
 rw[Bool.eq_iff_iff,decide_eq_true_eq]; exact this
theorem S.Wx(l:List xU)(g:xU)(f:Bool)(hl:l.length<2^40):aj Tryz.prog 205 [.row 7 f (.o7 l),.dat (.O7 g)] (.int (uI g l 0)):=by
 refine aj.of Bd.bg (by simp) rfl rfl ?_
 conv=>whnf
 refine aX.same [0,3,6,7] (fun i:Nat=>[(8,.int i)]) (fun i=>i<=l.length/\uI g l 0=uI g (l.drop i) i) (fun i=>l.length-i) 0 rfl (by decide) rfl (fun _=>rfl) ⟨by omega,by simp⟩ ⟨⟨_,rfl,rfl⟩,trivial⟩ ?_
 conv=>whnf
 refine⟨rfl,?_⟩
 rintro i ⟨hi,hall⟩
 conv=>whnf
 refine⟨fun h3=>?_,fun h3=>?_⟩
 ·have hi':i<l.length:=by simpa using h3
  rw[dM default hi'] at hall
  simp only[uI] at hall
  conv=>whnf
  refine .mk (by simp only[Rw.rng] at *; first|omega|(simp_all; done)|(simp_all; omega)) ?_
  conv=>whnf
  refine⟨fun h4=>?_,fun h4=>?_⟩
  ·conv=>whnf
   refine ak.int ?_
   have h4':(g==l.getD i default)=true:=h4
   rw[hall,h4']; rfl
  ·conv=>whnf
   refine .mk (by simp only[okI] at *; first|omega|(simp_all; done)|(simp_all; omega)) ?_
   conv=>whnf
   refine⟨i+1,⟨by omega,?_⟩,by omega,⟨⟨_,rfl,rfl⟩,trivial⟩,?_,rfl⟩
   ·have h4':(g==l.getD i default)=false:=h4
    rw[hall,h4']; rfl
   ·repeat' (first|exact trivial|exact⟨_,rfl,rfl⟩|constructor)
 ·conv=>whnf
  refine ak.int ?_
  have hi':l.length<=i:=by simpa using h3
  rw[hall,List.drop_eq_nil_of_le hi']; rfl
theorem S.NM(l:List xU)(g:xU)(f:Bool)(hl:l.length<2^40):aj Tryz.prog 190 [.row 7 f (.o7 l),.dat (.O7 g)] (.bool (l.any fun x=>g==x)):=by
 refine aj.of Bd.aW (by simp) rfl rfl ?_
 conv=>whnf
 refine ah.pure (S.Wx l g f hl) rfl ?_
 conv=>whnf
 exact ak.bool Nw.symm
theorem V9{h:Hz}{j:Nat}{Z:Nat->Prop}{l:List xU}(hz:Z j)(q:h.get j=some (.row 168 7 (.o7 l) [])):T.sub Z h.aI (V.row 7 false (.o7 l)).aG (V.own j).aG:=by
 show T.sub Z h.aI (.sl 7 false (l.map MG)) (.own j)
 simp only[T.sub]
 refine⟨trivial,hz,?_,by decide,168,?_⟩
 ·rw[jv]; intro t ht; obtain⟨x,_,rfl⟩:=List.mem_map.1 ht; rfl
 ·have:=cu q
  rw[this]; simp[OV.bJ,Rw.bQ,V.bQ]
theorem yK{α β:Type}{f:β->α->β}{b:β}{l:List α}{i:Nat}{d:α}(h:i<l.length):(l.take (i+1)).foldl f b=f ((l.take i).foldl f b) (l.getD i d):=by
 rw[List.take_add_one,List.foldl_append]
 simp[List.getElem?_eq_getElem h]
theorem ak.ab6{h:Hz}{j:Nat}{l:List xU}(q:h.get j=some (.row 168 7 (.o7 l) [])):ak (.row 7 false (.o7 l)) (.own j) h:=⟨V9 trivial q⟩
def En(acc:List xU)(g:xU):List xU:=bif acc.any (fun x=>g==x) then acc else acc++[g]
def wH(l:List Rule):List xU:=(l.flatMap Rule.guards).foldl En []
theorem Wy{acc:List xU}{g:xU}:(En acc g).length<=acc.length+1:=by
 unfold En; cases acc.any (fun x=>g==x)<;>simp
theorem NP: ∀ {l acc:List xU},(l.foldl En acc).length<=acc.length+l.length:=by
 intro l
 induction l with
 |nil=>intro acc; simp
 |cons g r ih =>
  intro acc
  have:=ih (acc:=En acc g)
  have h2:=Wy (acc:=acc) (g:=g)
  simp only[List.foldl_cons,List.length_cons]; omega
abbrev rowT(l:List xU):OV:=.row 168 7 (.o7 l) []
def wI(p:aJ)(i k:Nat):List xU:=((p.rules.getD i default).guards.take k).foldl En (wH (p.rules.take i))
theorem Ny(p:aJ)(hp:dA p)(i k:Nat)(_hi:i<p.rules.length):(wI p i k).length<2^31:=by
 have h1:=NP (l:=(p.rules.getD i default).guards.take k) (acc:=wH (p.rules.take i))
 have h2:=NP (l:=(p.rules.take i).flatMap Rule.guards) (acc:=[])
 have h3:=(hp.rule i).guards
 have h4:((p.rules.take i).flatMap Rule.guards).length<=(p.rules.flatMap Rule.guards).length:=by
  conv=>rhs; rw[<- List.take_append_drop i p.rules,List.flatMap_append,List.length_append]
  omega
 have h5:=hp.o7
 have h6:((p.rules.getD i default).guards.take k).length<=(p.rules.getD i default).guards.length:=by simp[List.length_take]; omega
 unfold wI
 unfold wH at h1 ⊢
 simp only[List.length_nil,Nat.zero_add] at h2
 omega
theorem Jd(p:aJ){i:Nat}(hi:i<p.rules.length):wH (p.rules.take (i+1))=wI p i (p.rules.getD i default).guards.length:=by
 unfold wI
 rw[List.take_of_length_le (Nat.le_refl _)]
 unfold wH
 rw[List.take_add_one,List.flatMap_append,List.foldl_append]
 simp[List.getElem?_eq_getElem hi]
theorem S.fB(p:aJ)(hp:dA p):aj Tryz.prog 173 [.dat (.iC p)] (.row 7 false (.o7 (wH p.rules))):=by
 have hp1:=hp.rules
 refine aj.of Bd.fB (by simp) rfl rfl ?_
 conv=>whnf
 refine aX.nil 3 168 7 (by rfl) rfl rfl rfl ?_
 refine aX.objs 1 [9,10] (fun i:Nat=>[(11,.int i),(3,.own 0)]) (fun i=>[(0,rowT (wH (p.rules.take i)))]) (fun i=>i<=p.rules.length) (fun i=>p.rules.length-i) 0 [7] rfl (by decide) (fun _=>rfl) (Nat.zero_le _) ?_ ?_ ?_
 ·exact⟨⟨_,rfl,.eq rfl⟩,⟨_,rfl,.eq rfl⟩,trivial⟩
 ·exact⟨⟨rfl,nofun,rfl,rfl,rfl,_,rfl,rfl,rfl,jf.of_eq rfl⟩,trivial⟩
 conv=>whnf
 refine⟨⟨⟨_,rfl,.eq rfl⟩,⟨_,rfl,.eq rfl⟩,trivial⟩,rfl,?_⟩
 rintro i hi
 conv=>whnf
 refine⟨fun h3=>?_,fun h3=>?_⟩
 ·have hi':i<p.rules.length:=by simpa using h3
  conv=>whnf
  refine .mk (by simp only[Rw.rng] at *; first|omega|(simp_all; done)|(simp_all; omega)) ?_
  conv=>whnf
  refine aX.objs 1 [9,10,11,16,17] (fun k:Nat=>[(18,.int k),(3,.own 0)]) (fun k=>[(0,rowT (wI p i k))]) (fun k=>k<=(p.rules.getD i default).guards.length) (fun k=>(p.rules.getD i default).guards.length-k) 0 [0] rfl (by decide) (fun _=>rfl) (Nat.zero_le _) ?_ ?_ ?_
  ·exact⟨⟨_,rfl,.eq rfl⟩,⟨_,rfl,.eq rfl⟩,trivial⟩
  ·exact⟨⟨rfl,nofun,rfl,rfl,rfl,_,rfl,rfl,rfl,jf.of_eq rfl⟩,trivial⟩
  conv=>whnf
  refine⟨⟨⟨_,rfl,.eq rfl⟩,⟨_,rfl,.eq rfl⟩,⟨_,rfl,.eq rfl⟩,⟨_,rfl,.eq rfl⟩,⟨_,rfl,.eq rfl⟩,trivial⟩,rfl,?_⟩
  rintro k hk
  have hacc:=Ny p hp i k hi'
  have hg:=(hp.rule i).guards
  conv=>whnf
  refine⟨fun h4=>?_,fun h4=>?_⟩
  ·have hk':k<(p.rules.getD i default).guards.length:=by simpa using h4
   have hst:wI p i (k+1)=En (wI p i k) ((p.rules.getD i default).guards.getD k default):=yK hk'
   conv=>whnf
   refine .mk (by simp only[Rw.rng] at *; first|omega|(simp_all; done)|(simp_all; omega)) ?_
   conv=>whnf
   refine ah.lend (S.NM (wI p i k) ((p.rules.getD i default).guards.getD k default) false (by omega)) (And.intro (V9 trivial rfl) (And.intro (fQ _) trivial)) rfl rfl ?_
   conv=>whnf
   refine⟨fun h5=>?_,fun h5=>?_⟩
   ·conv=>whnf
    repeat(refine VC.mk (by first|(show((wI p i k).length+(0+1))*48<=140737488355328/\(wI p i k).length+(0+1)<=1152921504606846976; omega)|(simp only[okI] at *; first|omega|(simp_all; done)|(simp_all; omega))) ?_; conv=>whnf)
    have h5':((wI p i k).any fun x=>(p.rules.getD i default).guards.getD k default==x)=false:=by simpa using h5
    refine⟨k+1,[13],by omega,by omega,⟨⟨_,rfl,.eq rfl⟩,⟨_,rfl,.eq rfl⟩,trivial⟩,⟨⟨_,rfl,.eq rfl⟩,⟨_,rfl,.eq rfl⟩,⟨_,rfl,.eq rfl⟩,⟨_,rfl,.eq rfl⟩,⟨_,rfl,.eq rfl⟩,trivial⟩,⟨rfl,nofun,rfl,rfl,rfl,_,rfl,rfl,rfl,jf.of_eq ?_⟩,trivial⟩
    rw[hst,En,h5']
    rfl
   ·conv=>whnf
    refine .mk (by simp only[okI] at *; first|omega|(simp_all; done)|(simp_all; omega)) ?_
    conv=>whnf
    have h5':((wI p i k).any fun x=>(p.rules.getD i default).guards.getD k default==x)=true:=by simpa using h5
    refine⟨k+1,[0],by omega,by omega,⟨⟨_,rfl,.eq rfl⟩,⟨_,rfl,.eq rfl⟩,trivial⟩,⟨⟨_,rfl,.eq rfl⟩,⟨_,rfl,.eq rfl⟩,⟨_,rfl,.eq rfl⟩,⟨_,rfl,.eq rfl⟩,⟨_,rfl,.eq rfl⟩,trivial⟩,⟨rfl,nofun,rfl,rfl,rfl,_,rfl,rfl,rfl,jf.of_eq ?_⟩,trivial⟩
    rw[hst,En,h5']; rfl
  ·have hk':(p.rules.getD i default).guards.length<=k:=by simpa using h4
   have e:k=(p.rules.getD i default).guards.length:=Nat.le_antisymm hk hk'
   subst e
   conv=>whnf
   refine .mk (by simp only[okI] at *; first|omega|(simp_all; done)|(simp_all; omega)) ?_
   conv=>whnf
   refine⟨i+1,[0],by omega,by omega,⟨⟨_,rfl,.eq rfl⟩,⟨_,rfl,.eq rfl⟩,trivial⟩,⟨⟨_,rfl,.eq rfl⟩,⟨_,rfl,.eq rfl⟩,trivial⟩,⟨rfl,nofun,rfl,rfl,rfl,_,rfl,rfl,rfl,jf.of_eq ?_⟩,trivial⟩
   rw[Jd p hi']
 ·have hi':p.rules.length<=i:=by simpa using h3
  rw[List.take_of_length_le hi']
  conv=>whnf
  exact ak.ab6 rfl
def qW(p:aJ):Bool:=decide (p.topology<1)||decide (p.topology>4)||decide (p.fault<0)||decide (p.fault>3)
def sN(p:aJ):Bool:=decide ((p.states.length:Int)>6)||decide ((p.messages.length:Int)>3)||decide ((p.values.length:Int)>3)||decide ((p.bY.length:Int)>4)||decide ((p.rules.length:Int)>8)
def NC(p:aJ):Bool:=(!(p.topology==1)&&(decide ((p.messages.length:Int)>0)||decide ((p.values.length:Int)>0)||decide ((p.bY.length:Int)>0)||p.fault !=0))||((p.topology==1)&&decide ((p.leader.length:Int)>0))
def vk(p:aJ):Int:=aY [jg p.initial p.states.length,eF ((p.initial.length:Int)==0) 1,jg p.leader p.states.length]
def zW(p:aJ):Int:=aY ((List.range p.rules.length).map (gq p))
def bV(p:aJ):Int :=
 bif !(validName p.name) then 2 else bif qW p then 1 else bif (p.states.length:Int)==0 then 1 else bif sN p then 4 else
 bif xG p !=0 then xG p else bif NC p then 1 else
 bif p.bY.any (fun l=> !(Nr l)) then 4 else
 bif vk p !=0 then vk p else
 bif zW p !=0 then zW p else eF (decide (((wH p.rules).length:Int)>3)) 4
theorem GL{n i:Nat}{f:Nat->Int}(h:i<n):((List.range n).drop i).map f=f i::((List.range n).drop (i+1)).map f:=by
 rw[List.drop_eq_getElem_cons (by simpa using h)]; simp
theorem S.fD(p:aJ)(hp:dA p):aj Tryz.prog 148 [.dat (.iC p)] (.int (bV p)):=by
 have g1:=hp.states; have g2:=hp.messages; have g3:=hp.values; have g4:=hp.bY; have g5:=hp.initial; have g6:=hp.leader; have g7:=hp.rules
 refine aj.of Bd.fD (by simp) rfl rfl ?_
 conv=>whnf
 refine ah.pure (S.dO p.name) rfl ?_
 conv=>whnf
 refine⟨fun h1=>?_,fun h1=>?_⟩
 ·conv=>whnf
  exact ak.int (by rw[bV,h1]; rfl)
 conv=>whnf
 repeat(refine VC.mk (by first|exact id|(intro h; rw[h]; rfl)) ?_; conv=>whnf)
 refine⟨fun h2=>?_,fun h2=>?_⟩
 ·conv=>whnf
  exact ak.int (by rw[bV,h1,show qW p=true from h2]; rfl)
 conv=>whnf
 refine⟨fun h3=>?_,fun h3=>?_⟩
 ·conv=>whnf
  exact ak.int (by rw[bV,h1,show qW p=false from h2,h3]; rfl)
 conv=>whnf
 repeat(refine VC.mk (by first|exact id|(intro h; rw[h]; rfl)) ?_; conv=>whnf)
 refine⟨fun h4=>?_,fun h4=>?_⟩
 ·conv=>whnf
  exact ak.int (by rw[bV,h1,show qW p=false from h2,h3,show sN p=true from h4]; rfl)
 conv=>whnf
 have h0:0<p.states.length:=by
  rcases Nat.eq_zero_or_pos p.states.length with e|e
  ·rw[e] at h3; exact absurd h3 (by decide)
  ·exact e
 refine ah.pure (S.jH p h0 g1 g2 g3) rfl ?_
 conv=>whnf
 refine⟨fun h5=>?_,fun h5=>?_⟩
 ·conv=>whnf
  exact ak.int (by rw[bV,h1,show qW p=false from h2,h3,show sN p=false from h4,h5]; rfl)
 conv=>whnf
 repeat(refine VC.mk (by first|exact id|(intro h; rw[h]; rfl)|(intro h; simp_all; done)) ?_; conv=>whnf)
 refine⟨fun h6=>?_,fun h6=>?_⟩
 ·conv=>whnf
  exact ak.int (by rw[bV,h1,show qW p=false from h2,h3,show sN p=false from h4,h5,show NC p=true from h6]; rfl)
 conv=>whnf
 refine aX.same [1,4,111,112] (fun i:Nat=>[(113,.int i)]) (fun i=>i<=p.bY.length/\(p.bY.take i).any (fun l=> !(Nr l))=false) (fun i=>p.bY.length-i) 0 rfl (by decide) rfl (fun _=>rfl) ⟨by omega,by simp⟩ ⟨⟨_,rfl,rfl⟩,trivial⟩ ?_
 conv=>whnf
 refine⟨rfl,?_⟩
 rintro i ⟨hi,hall⟩
 conv=>whnf
 refine⟨fun h7=>?_,fun h7=>?_⟩
 ·have hi':i<p.bY.length:=by simpa using h7
  conv=>whnf
  refine .mk (by simp only[Rw.rng] at *; omega) ?_
  conv=>whnf
  refine ah.pure (S.fZ (p.bY.getD i default)) rfl ?_
  conv=>whnf
  refine⟨fun h8=>?_,fun h8=>?_⟩
  ·conv=>whnf
   exact ak.int (by rw[bV,h1,show qW p=false from h2,h3,show sN p=false from h4,h5,show NC p=false from h6,iY (d:=default) hi' h8]; rfl)
  ·conv=>whnf
   refine .mk (by simp only[okI] at *; omega) ?_
   conv=>whnf
   refine⟨i+1,⟨by omega,?_⟩,by omega,⟨⟨_,rfl,rfl⟩,trivial⟩,?_,rfl⟩
   ·rw[kL (d:=default) hi' hall]; exact h8
   ·repeat' (first|exact trivial|exact⟨_,rfl,rfl⟩|constructor)
 have hi':p.bY.length<=i:=by simpa using h7
 rw[List.take_of_length_le hi'] at hall
 conv=>whnf
 refine ah.pure (S.dF p.initial p.states.length false (by omega)) rfl ?_
 conv=>whnf
 refine ah.pure (S.bn ((p.initial.length:Int)==0) 1) rfl ?_
 conv=>whnf
 refine ah.pure (S.dF p.leader p.states.length false (by omega)) rfl ?_
 conv=>whnf
 refine ah.pure (S.aZ [jg p.initial p.states.length,eF ((p.initial.length:Int)==0) 1,jg p.leader p.states.length] true (show 3<2^40 by decide)) rfl ?_
 conv=>whnf
 refine⟨fun h9=>?_,fun h9=>?_⟩
 ·conv=>whnf
  exact ak.int (by rw[bV,h1,show qW p=false from h2,h3,show sN p=false from h4,h5,show NC p=false from h6,hall,show(vk p !=0)=true from h9]; rfl)
 conv=>whnf
 refine aX.same [1,140,141] (fun i:Nat=>[(142,.int i)]) (fun i=>i<=p.rules.length/\zW p=aY (((List.range p.rules.length).drop i).map (gq p))) (fun i=>p.rules.length-i) 0 rfl (by decide) rfl (fun _=>rfl) ⟨by omega,by simp[zW]⟩ ⟨⟨_,rfl,rfl⟩,trivial⟩ ?_
 conv=>whnf
 refine⟨rfl,?_⟩
 rintro i ⟨hi,hr⟩
 conv=>whnf
 refine⟨fun h10=>?_,fun h10=>?_⟩
 ·have hi':i<p.rules.length:=by simpa using h10
  rw[GL hi'] at hr
  simp only[aY] at hr
  conv=>whnf
  refine ah.pure (S.fO p i hi' hp) rfl ?_
  conv=>whnf
  refine⟨fun h11=>?_,fun h11=>?_⟩
  ·conv=>whnf
   have aaY:gq p i≠0:=Nz h11
   rw[if_neg aaY] at hr
   exact ak.int (by rw[bV,h1,show qW p=false from h2,h3,show sN p=false from h4,h5,show NC p=false from h6,hall,show(vk p !=0)=false from h9,hr,h11]; rfl)
  ·conv=>whnf
   refine .mk (by simp only[okI] at *; omega) ?_
   conv=>whnf
   have aaY:gq p i=0:=G7 h11
   rw[if_pos aaY] at hr
   refine⟨i+1,⟨by omega,hr⟩,by omega,⟨⟨_,rfl,rfl⟩,trivial⟩,?_,rfl⟩
   repeat' (first|exact trivial|exact⟨_,rfl,rfl⟩|constructor)
 have hi':p.rules.length<=i:=by simpa using h10
 rw[List.drop_eq_nil_of_le (by simpa using hi')] at hr
 conv=>whnf
 refine ah.pure (S.fB p hp) rfl ?_
 conv=>whnf
 refine ah.pure (S.bn (decide (((wH p.rules).length:Int)>3)) 4) rfl ?_
 conv=>whnf
 exact ak.int (by rw[bV,h1,show qW p=false from h2,h3,show sN p=false from h4,h5,show NC p=false from h6,hall,show(vk p !=0)=false from h9,hr]; rfl)
theorem ak.eqv{a b:V}{h:Hz}(e:a.aG=b.aG):ak a b h:=⟨by rw[e]; exact fQ _⟩
def NG(acc:Bool)(r:Rule):Bool:=acc&&(r.kind==1)&&decide (r.fr<r.to)&&((r.ex.length:Int)==0)&&((r.all.length:Int)==0)
def SX(acc:Bool)(r:Rule):Bool:=acc||decide ((r.all.length:Int)>0)
def pV(p:aJ):Bool:=(p.topology==1)&&(p.fault==0)&&((p.messages.length:Int)==0)&&((p.bY.length:Int)==0)
structure Cls where
 O7:Bool
 cover:Bool
 word:Bool
 tree:Bool
 monadic:Bool
def mQ(p:aJ):Cls :=
 ⟨(p.topology==1)&&((p.values.length:Int)==0)&&p.rules.foldl NG true,pV p&& !(p.rules.foldl SX false),(p.topology==2)||(p.topology==3),p.topology==4,pV p&&decide ((p.states.length:Int)<=4)⟩
def ab8(c:Cls):V:=.agg [.bool c.O7,.bool c.cover,.bool c.word,.bool c.tree,.bool c.monadic]
def KZ:Cls:=⟨false,false,false,false,false⟩
def DC(p:aJ):V:=.iF [ab8 (bif bV p !=0 then KZ else mQ p),.int (bV p)]
theorem S.fC(p:aJ)(hp:dA p):aj Tryz.prog 141 [.dat (.iC p)] (DC p):=by
 have g1:=hp.states; have g2:=hp.messages; have g3:=hp.values; have g4:=hp.bY; have g7:=hp.rules
 refine aj.of Bd.fC (by simp) rfl rfl ?_
 conv=>whnf
 refine ah.pure (S.fD p hp) rfl ?_
 conv=>whnf
 refine⟨fun h1=>?_,fun h1=>?_⟩
 ·conv=>whnf
  refine ak.eqv ?_
  rw[DC,h1]; rfl
 have h1':bV p=0:=G7 h1
 conv=>whnf
 refine aX.same [1,2,3,18,19] (fun i:Nat=>[(20,.int i),(5,.bool ((p.rules.take i).foldl NG true)),(6,.bool ((p.rules.take i).foldl SX false))]) (fun i=>i<=p.rules.length) (fun i=>p.rules.length-i) 0 rfl (by decide) rfl (fun _=>rfl) (Nat.zero_le _) ⟨⟨_,rfl,rfl⟩,⟨_,rfl,rfl⟩,⟨_,rfl,rfl⟩,trivial⟩ ?_
 conv=>whnf
 refine⟨rfl,?_⟩
 rintro i hi
 have g8:=hp.rule i
 have g9:=g8.ex; have g10:=g8.all
 conv=>whnf
 refine⟨fun h7=>?_,fun h7=>?_⟩
 ·have hi':i<p.rules.length:=by simpa using h7
  conv=>whnf
  repeat(refine VC.mk (by first|exact id|exact fun h=>⟨h,h⟩|(intro h; rw[h]; rfl)|(simp only[okI,Rw.rng] at *; omega)) ?_; conv=>whnf)
  refine⟨i+1,by omega,by omega,⟨⟨_,rfl,rfl⟩,⟨_,rfl,?_⟩,⟨_,rfl,?_⟩,trivial⟩,?_,rfl⟩
  ·rw[yK (d:=default) hi']; rfl
  ·rw[yK (d:=default) hi']; rfl
  ·repeat' (first|exact trivial|exact⟨_,rfl,rfl⟩|constructor)
 have hi':p.rules.length<=i:=by simpa using h7
 rw[List.take_of_length_le hi']
 conv=>whnf
 repeat(refine VC.mk (by first|exact id|(intro h; rw[h]; rfl)) ?_; conv=>whnf)
 refine ak.eqv ?_
 rw[DC,h1']
 rfl
def jT(r:Rule)(t:Int):Bool :=
 bif !(r.kind==1)&&(decide ((r.guards.length:Int)>0)||decide ((r.ex.length:Int)>0)||decide ((r.all.length:Int)>0)||decide ((r.send.length:Int)>0)) then true else
 bif !(r.kind==1)&& !(r.kind==2)&& !(r.kind==3)&&(r.read != -1||r.write != -1) then true else
 bif !(r.kind==2)&& !(r.kind==5)&&(r.ig !=0||r.zB !=0) then true else
 bif (!(r.kind==3)&&decide ((r.response.length:Int)>0))||(!(r.kind==5)&&r.direction !=0) then true else
 bif !(r.kind==4)&&(r.pos !=0||decide ((r.left.length:Int)>0)||decide ((r.right.length:Int)>0)) then true else
 decide ((r.parent.length:Int)>0)&& !((r.kind==4)&&(t==4))
theorem gt0{n:Nat}:decide ((n:Int)>0)= !(n==0):=by
 cases n with
 |zero=>rfl
 |succ n=>rw[decide_eq_true (by omega)]; rfl
theorem acV(a b c d e f g h:Nat):decide ((a:Int)+b+c+d+e+f+g+h>0)=(!(a==0)|| !(b==0)|| !(c==0)|| !(d==0)|| !(e==0)|| !(f==0)|| !(g==0)|| !(h==0)):=by
 rw[Bool.eq_iff_iff]
 simp only[decide_eq_true_eq,Bool.or_eq_true,Bool.not_eq_true',beq_eq_false_iff_ne,ne_eq]
 omega
theorem sG{r:Rule}{t:Int}(h:1<=r.kind/\r.kind<=5):jT r t=kC r t:=by
 have hk:r.kind=1\/r.kind=2\/r.kind=3\/r.kind=4\/r.kind=5:=by omega
 simp only[jT,kC,AA,gt0,acV,bne]
 generalize (r.guards.length==0)=g1
 generalize (r.ex.length==0)=g2
 generalize (r.all.length==0)=g3
 generalize (r.send.length==0)=g4
 generalize (r.response.length==0)=g5
 generalize (r.left.length==0)=g6
 generalize (r.right.length==0)=g7
 generalize (r.parent.length==0)=g8
 generalize (r.read== -1)=g9
 generalize (r.write== -1)=g10
 generalize (r.ig==0)=g11
 generalize (r.zB==0)=g12
 generalize (r.direction==0)=g13
 generalize (r.pos==0)=g14
 rcases hk with hk|hk|hk|hk|hk<;>rw[hk] <;>
  (first
   |(simp; done)
   |(cases (t==4)<;>simp<;>grind)
   |(simp; grind))
end Go.Proofs.YtkomllaebngbfaaGreatDoor
