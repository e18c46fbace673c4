/-
 A part of the proof. No condition.
-/
import Derived.Test.YtifbibbicplneaaDoorNb
import Derived.Test.YtifbibbicplneaaDoorLf
namespace Go.Proofs.YtifbibbicplneaaDoor
open Go.Ab Go.Proofs
set_option maxRecDepth 100000
def fA(b:Bool)(e:Int):Int:=bif b then e else 0
theorem S.bG(b:Bool)(e:Int):ay Tryd.prog 66 [.bool b,.int e] (.int (fA b e)):=by
 refine ay.of Bd.bG (by simp) rfl rfl ?_
 conv=>whnf
 refine⟨fun h=>?_,fun h=>?_⟩
 ·conv=>whnf
  exact aB.int (by rw[h]; rfl)
 ·conv=>whnf
  exact aB.int (by rw[h]; rfl)
def wB(i n:Int):Bool:=decide (i<0)||decide (i>=n)
def dY(i n:Int):Int:=fA (wB i n) 5
theorem S.bI(i n:Int):ay Tryd.prog 80 [.int i,.int n] (.int (dY i n)):=by
 refine ay.of Bd.bI (by simp) rfl rfl ?_
 conv=>whnf
 repeat(refine VC.mk (by first|exact fun h=>⟨h,h⟩|(intro h; rw[h]; rfl)) ?_; conv=>whnf)
 refine ah.pure (S.bG (wB i n) 5) rfl ?_
 conv=>whnf
 exact aB.int rfl
def bJ:List Int->Int
 |[]=>0
 |e::r=>if e=0 then bJ r else e
theorem S.bD(l:List Int)(f:Bool)(hl:l.length<2^40):ay Tryd.prog 65 [.row 0 f (.ints l)] (.int (bJ l)):=by
 refine ay.of Bd.bD (by simp) rfl rfl ?_
 conv=>whnf
 refine aY.same [5,6] (fun i:Nat=>[(7,.int i)]) (fun i=>i<=l.length/\bJ l=bJ (l.drop i)) (fun i=>l.length-i) 0 rfl (by decide) rfl (fun _=>rfl) ⟨by omega,by simp⟩ ⟨⟨_,rfl,rfl⟩,trivial⟩ ?_
 conv=>whnf
 refine⟨rfl,?_⟩
 rintro i ⟨hi,hall⟩
 conv=>whnf
 refine⟨fun h3=>?_,fun h3=>?_⟩
 ·have hi':i<l.length:=by simpa using h3
  rw[bU 0 hi'] at hall
  simp only[bJ] at hall
  conv=>whnf
  refine .mk (by simp only[Rw.rng] at *; first|omega|(simp_all; done)|(simp_all; omega)) ?_
  conv=>whnf
  refine⟨fun h4=>?_,fun h4=>?_⟩
  ·conv=>whnf
   refine aB.int ?_
   have:l.getD i 0≠0:=by simpa using h4
   rw[hall,if_neg this]; rfl
  ·conv=>whnf
   refine .mk (by simp only[okI] at *; first|omega|(simp_all; done)|(simp_all; omega)) ?_
   conv=>whnf
   have:l.getD i 0=0:=by simpa using h4
   rw[if_pos this] at hall
   refine⟨i+1,⟨by omega,hall⟩,by omega,⟨⟨_,rfl,rfl⟩,trivial⟩,?_,rfl⟩
   repeat' (first|exact trivial|exact⟨_,rfl,rfl⟩|constructor)
 ·conv=>whnf
  refine aB.int ?_
  have hi':l.length<=i:=by simpa using h3
  rw[hall,List.drop_eq_nil_of_le hi']; rfl
def Bg:List Int->Bool
 |a::b::r=>decide (a<b)&&Bg (b::r)
 |_=>true
def iD(l:List Int)(n:Int):Int:=bif l.any (fun i=>wB i n) then 5 else bif Bg l then 0 else 1
theorem S.dF(l:List Int)(n:Int)(f:Bool)(hl:l.length<2^40):ay Tryd.prog 64 [.row 0 f (.ints l),.int n] (.int (iD l n)):=by
 refine ay.of Bd.dF (by simp) rfl rfl ?_
 conv=>whnf
 refine aY.same [0,1,8,9] (fun i:Nat=>[(10,.int i)]) (fun i=>i<=l.length/\(l.take i).any (fun i=>wB i n)=false) (fun i=>l.length-i) 0 rfl (by decide) rfl (fun _=>rfl) ⟨by omega,by simp⟩ ⟨⟨_,rfl,rfl⟩,trivial⟩ ?_
 conv=>whnf
 refine⟨rfl,?_⟩
 rintro i ⟨hi,hall⟩
 conv=>whnf
 refine⟨fun h3=>?_,fun h3=>?_⟩
 ·have hi':i<l.length:=by simpa using h3
  conv=>whnf
  repeat(refine VC.mk (by first|exact fun h=>⟨h,h⟩|(intro h; rw[h]; rfl)|(simp only[Rw.rng] at *; first|omega|(simp_all; done)|(simp_all; omega))) ?_; conv=>whnf)
  refine⟨fun h4=>?_,fun h4=>?_⟩
  ·conv=>whnf
   refine aB.int ?_
   rw[iD,uV (d:=0) hi' h4]; rfl
  ·conv=>whnf
   refine .mk (by simp only[okI] at *; first|omega|(simp_all; done)|(simp_all; omega)) ?_
   conv=>whnf
   refine⟨i+1,⟨by omega,?_⟩,by omega,⟨⟨_,rfl,rfl⟩,trivial⟩,?_,rfl⟩
   ·rw[zJ (d:=0) hi' hall]; exact h4
   ·repeat' (first|exact trivial|exact⟨_,rfl,rfl⟩|constructor)
 ·have hi':l.length<=i:=by simpa using h3
  rw[List.take_of_length_le hi'] at hall
  conv=>whnf
  refine aY.same [0] (fun i:Nat=>[(7,.int (i+1))]) (fun i=>(i<l.length\/i=0)/\Bg l=Bg (l.drop i)) (fun i=>l.length-i) 0 rfl (by decide) rfl (fun _=>rfl) ⟨by omega,by simp⟩ ⟨⟨_,rfl,rfl⟩,trivial⟩ ?_
  conv=>whnf
  refine⟨rfl,?_⟩
  rintro i ⟨hi,hinc⟩
  conv=>whnf
  refine⟨fun h5=>?_,fun h5=>?_⟩
  ·have hi1:i+1<l.length:=by have:=of_decide_eq_true h5; omega
   rw[bU 0 (show i<l.length by omega),bU 0 hi1] at hinc
   simp only[Bg] at hinc
   rw[<- bU 0 hi1] at hinc
   conv=>whnf
   repeat(refine VC.mk (by simp only[okI,Rw.rng] at *; first|omega|(simp_all; done)|(simp_all; omega)) ?_; conv=>whnf)
   refine⟨fun h6=>?_,fun h6=>?_⟩
   ·conv=>whnf
    refine aB.int ?_
    have e1:((i:Int)+1).toNat=i+1:=by omega
    have e2:((i:Int)+1-1).toNat=i:=by omega
    rw[e1,e2] at h6
    have h6':l.getD (i+1) 0<=l.getD i 0:=of_decide_eq_true h6
    rw[iD,hall,hinc,decide_eq_false (by omega)]; rfl
   ·conv=>whnf
    refine .mk (by simp only[okI] at *; first|omega|(simp_all; done)|(simp_all; omega)) ?_
    conv=>whnf
    have e1:((i:Int)+1).toNat=i+1:=by omega
    have e2:((i:Int)+1-1).toNat=i:=by omega
    rw[e1,e2] at h6
    have h6': ¬ l.getD (i+1) 0<=l.getD i 0:=of_decide_eq_false h6
    rw[decide_eq_true (by omega),Bool.true_and] at hinc
    refine⟨i+1,⟨by omega,hinc⟩,by omega,⟨⟨_,rfl,rfl⟩,trivial⟩,?_,rfl⟩
    repeat' (first|exact trivial|exact⟨_,rfl,rfl⟩|constructor)
  ·conv=>whnf
   refine aB.int ?_
   have h5': ¬ ((i:Int)+1<l.length):=of_decide_eq_false h5
   have:Bg l=true:=by
    rw[hinc]
    rcases hd:l.drop i with _|⟨a,_|⟨b,r⟩⟩
    ·rfl
    ·rfl
    ·have:=congrArg List.length hd
     simp only[List.length_drop,List.length_cons] at this
     omega
   rw[iD,hall,this]; rfl
def U8(n:Int):Bool:=decide (n>= -100)&&decide (n<=100)
theorem S.fF(n:Int):ay Tryd.prog 84 [.int n] (.bool (U8 n)):=by
 refine ay.of Bd.fF (by simp) rfl rfl ?_
 conv=>whnf
 repeat(refine VC.mk id ?_; conv=>whnf)
 exact aB.bool rfl
def RZ(l:XF):Bool:=U8 l.c&&U8 l.n&&U8 l.t&&U8 l.f
theorem S.iP(l:XF):ay Tryd.prog 76 [.dat (.lin l)] (.bool (RZ l)):=by
 refine ay.of Bd.iP (by simp) rfl rfl ?_
 conv=>whnf
 refine ah.pure (S.fF l.c) rfl ?_
 conv=>whnf
 repeat(refine VC.mk id ?_; conv=>whnf)
 refine ah.mQ (fun _=>S.fF l.n) rfl ?_
 conv=>whnf
 repeat(refine VC.mk id ?_; conv=>whnf)
 refine ah.mQ (fun _=>S.fF l.t) rfl ?_
 conv=>whnf
 repeat(refine VC.mk id ?_; conv=>whnf)
 refine ah.mQ (fun _=>S.fF l.f) rfl ?_
 conv=>whnf
 refine VC.mk id ?_
 conv=>whnf
 exact aB.bool rfl
def jH(p:aX)(v:Int):Int:=fA (decide (v< -1)||decide (v>=p.values.length)) 5
theorem S.dZ(p:aX)(v:Int):ay Tryd.prog 90 [.dat (.eG p),.int v] (.int (jH p v)):=by
 refine ay.of Bd.dZ (by simp) rfl rfl ?_
 conv=>whnf
 repeat(refine VC.mk (by first|exact id|exact fun h=>⟨h,h⟩|(intro h; rw[h]; rfl)) ?_; conv=>whnf)
 refine ah.pure (S.bG _ 5) rfl ?_
 conv=>whnf
 exact aB.int rfl
theorem Xr{a:Int}(h:(a !=0)=true):a≠0:=by simpa using h
theorem JW{a:Int}(h:(a !=0)=false):a=0:=by simpa using h
def wC(k t:Int):Bool:=bif k==1||k==2||k==3 then t==1 else bif k==4||k==5 then !(t==1) else false
theorem S.lY(k t:Int):ay Tryd.prog 87 [.int k,.int t] (.bool (wC k t)):=by
 refine ay.of Bd.lY (by simp) rfl rfl ?_
 conv=>whnf
 refine⟨fun h1=>?_,fun h1=>?_⟩
 ·conv=>whnf
  refine Fork.mk (fun _=>?_) (fun q=>absurd (q.symm.trans (h1)) Bool.false_ne_true)
  conv=>whnf
  exact aB.bool (by simp[wC,h1])
 ·conv=>whnf
  refine⟨fun h2=>?_,fun h2=>?_⟩
  ·conv=>whnf
   refine Fork.mk (fun _=>?_) (fun q=>absurd (q.symm.trans (h2)) Bool.false_ne_true)
   conv=>whnf
   exact aB.bool (by simp[wC,h1,h2])
  ·conv=>whnf
   refine⟨fun h3=>?_,fun h3=>?_⟩
   ·conv=>whnf
    exact aB.bool (by simp[wC,h1,h2,h3])
   ·conv=>whnf
    refine⟨fun h4=>?_,fun h4=>?_⟩
    ·conv=>whnf
     refine Fork.mk (fun _=>?_) (fun q=>absurd (q.symm.trans (h4)) Bool.false_ne_true)
     conv=>whnf
     exact aB.bool (by simp[wC,h1,h2,h3,h4,bne])
    ·conv=>whnf
     refine⟨fun h5=>?_,fun h5=>?_⟩
     ·conv=>whnf
      exact aB.bool (by simp[wC,h1,h2,h3,h4,h5,bne])
     ·conv=>whnf
      exact aB.bool (by simp[wC,h1,h2,h3,h4,h5])
def yP:List Int->Int->Int
 |[],_=>0
 |x::r,n=>if dY x n=0 then yP r n else dY x n
def CO(l:List Int)(n:Int):Int:=bif (l.length:Int) !=n then 1 else yP l n
theorem S.jg(l:List Int)(n:Int)(f:Bool)(hl:l.length<2^40):ay Tryd.prog 91 [.row 0 f (.ints l),.int n] (.int (CO l n)):=by
 refine ay.of Bd.jg (by simp) rfl rfl ?_
 conv=>whnf
 refine⟨fun h=>?_,fun h=>?_⟩
 ·conv=>whnf
  exact aB.int (by rw[CO,h]; rfl)
 ·conv=>whnf
  refine aY.same [0,1,12,13] (fun i:Nat=>[(14,.int i)]) (fun i=>i<=l.length/\yP l n=yP (l.drop i) n) (fun i=>l.length-i) 0 rfl (by decide) rfl (fun _=>rfl) ⟨by omega,by simp⟩ ⟨⟨_,rfl,rfl⟩,trivial⟩ ?_
  conv=>whnf
  refine⟨rfl,?_⟩
  rintro i ⟨hi,hall⟩
  conv=>whnf
  refine⟨fun h3=>?_,fun h3=>?_⟩
  ·have hi':i<l.length:=by simpa using h3
   rw[bU 0 hi'] at hall
   simp only[yP] at hall
   conv=>whnf
   refine .mk (by simp only[Rw.rng] at *; first|omega|(simp_all; done)|(simp_all; omega)) ?_
   conv=>whnf
   refine ah.pure (S.bI (l.getD i 0) n) rfl ?_
   conv=>whnf
   refine⟨fun h4=>?_,fun h4=>?_⟩
   ·conv=>whnf
    refine aB.int ?_
    have:dY (l.getD i 0) n≠0:=by simpa using h4
    rw[CO,h,cond_false,hall,if_neg this]
   ·conv=>whnf
    refine .mk (by simp only[okI] at *; first|omega|(simp_all; done)|(simp_all; omega)) ?_
    conv=>whnf
    have:dY (l.getD i 0) n=0:=by simpa using h4
    rw[if_pos this] at hall
    refine⟨i+1,⟨by omega,hall⟩,by omega,⟨⟨_,rfl,rfl⟩,trivial⟩,?_,rfl⟩
    repeat' (first|exact trivial|exact⟨_,rfl,rfl⟩|constructor)
  ·conv=>whnf
   refine aB.int ?_
   have hi':l.length<=i:=by simpa using h3
   rw[CO,h,cond_false,hall,List.drop_eq_nil_of_le hi']; rfl
def guardE(p:aX)(g:Ai):Int:=bJ [dY g.message p.messages.length,fA (decide (g.Gq<1)||decide (g.Gq>100)) 1,fA (!(RZ g.bound)) 4]
def x9(p:aX):List Ai->Int
 |[]=>0
 |g::r=>if guardE p g=0 then x9 p r else guardE p g
def AO(p:aX)(l:List Ai):Int:=if x9 p l=0 then fA (decide ((l.length:Int)>2)) 4 else x9 p l
theorem S.kP(p:aX)(l:List Ai)(f:Bool)(hl:l.length<2^40):ay Tryd.prog 89 [.dat (.eG p),.row 7 f (.oU l)] (.int (AO p l)):=by
 refine ay.of Bd.kP (by simp) rfl rfl ?_
 conv=>whnf
 refine aY.same [1,2,8,9] (fun i:Nat=>[(10,.int i)]) (fun i=>i<=l.length/\x9 p l=x9 p (l.drop i)) (fun i=>l.length-i) 0 rfl (by decide) rfl (fun _=>rfl) ⟨by omega,by simp⟩ ⟨⟨_,rfl,rfl⟩,trivial⟩ ?_
 conv=>whnf
 refine⟨rfl,?_⟩
 rintro i ⟨hi,hall⟩
 conv=>whnf
 refine⟨fun h3=>?_,fun h3=>?_⟩
 ·have hi':i<l.length:=by simpa using h3
  rw[bU default hi'] at hall
  simp only[x9] at hall
  conv=>whnf
  refine .mk (by simp only[Rw.rng] at *; first|omega|(simp_all; done)|(simp_all; omega)) ?_
  conv=>whnf
  refine ah.pure (S.bI (l.getD i default).message p.messages.length) rfl ?_
  conv=>whnf
  repeat(refine VC.mk (by first|exact id|(intro h; rw[h]; rfl)) ?_; conv=>whnf)
  refine ah.pure (S.bG (decide ((l.getD i default).Gq<1)||decide ((l.getD i default).Gq>100)) 1) rfl ?_
  conv=>whnf
  refine ah.pure (S.iP (l.getD i default).bound) rfl ?_
  conv=>whnf
  refine ah.pure (S.bG (!(RZ (l.getD i default).bound)) 4) rfl ?_
  conv=>whnf
  refine ah.pure (S.bD [dY (l.getD i default).message p.messages.length,fA (decide ((l.getD i default).Gq<1)||decide ((l.getD i default).Gq>100)) 1,fA (!(RZ (l.getD i default).bound)) 4] true (show 3<2^40 by decide)) rfl ?_
  conv=>whnf
  refine⟨fun h4=>?_,fun h4=>?_⟩
  ·conv=>whnf
   refine aB.int ?_
   have h4':guardE p (l.getD i default)≠0:=Xr h4
   rw[if_neg h4'] at hall
   rw[AO,hall,if_neg h4']; rfl
  ·conv=>whnf
   refine .mk (by simp only[okI] at *; first|omega|(simp_all; done)|(simp_all; omega)) ?_
   conv=>whnf
   have h4':guardE p (l.getD i default)=0:=JW h4
   rw[if_pos h4'] at hall
   refine⟨i+1,⟨by omega,hall⟩,by omega,⟨⟨_,rfl,rfl⟩,trivial⟩,?_,rfl⟩
   repeat' (first|exact trivial|exact⟨_,rfl,rfl⟩|constructor)
 ·have hi':l.length<=i:=by simpa using h3
  rw[List.drop_eq_nil_of_le hi'] at hall
  conv=>whnf
  refine ah.pure (S.bG (decide ((l.length:Int)>2)) 4) rfl ?_
  conv=>whnf
  exact aB.int (by rw[AO,hall]; rfl)
structure sU(r:Rule):Prop where
 response:r.response.length<2^30
 guards:r.guards.length<2^30
 ex:r.ex.length<2^30
 all:r.all.length<2^30
 send:r.send.length<2^30
 left:r.left.length<2^30
 right:r.right.length<2^30
 parent:r.parent.length<2^30
def zB(r:Rule):Bool :=
 decide ((r.response.length:Int)+r.guards.length+r.ex.length+r.all.length+r.send.length+r.left.length+r.right.length+r.parent.length>0)||r.jw !=0||r.Dj !=0||r.pos !=0||r.direction !=0||r.read != -1||r.write != -1
def kQ(r:Rule)(t:Int):Bool :=
 bif r.kind==1 then zB {r with guards:=[],ex:=[],all:=[],send:=[],read:= -1,write:= -1} else
 bif r.kind==2 then(bif decide ((r.response.length:Int)>0) then true else zB {r with jw:=0,Dj:=0,response:=[],read:= -1,write:= -1}) else
 bif r.kind==3 then zB {r with response:=[],read:= -1,write:= -1} else
 bif r.kind==4 then(bif t==4 then zB {r with pos:=0,left:=[],right:=[],parent:=[]} else zB {r with pos:=0,left:=[],right:=[]}) else
 bif r.kind==5 then zB {r with jw:=0,Dj:=0,direction:=0} else zB r
theorem S.jX(r:Rule)(t:Int)(hs:sU r):ay Tryd.prog 88 [.dat (.rule r),.int t] (.bool (kQ r t)):=by
 obtain⟨g1,g2,g3,g4,g5,g6,g7,g8⟩:=hs
 refine ay.of Bd.jX (by simp) rfl rfl ?_
 conv=>whnf
 refine⟨fun h1=>?_,fun h1=>?_⟩
 ·conv=>whnf
  repeat(refine VC.mk (by first|exact id|(intro h; rw[h]; rfl)|(simp only[okI] at *; first|omega|(simp_all; done)|(simp_all; omega))) ?_; conv=>whnf)
  exact aB.bool (by simp[kQ,zB,h1])
 ·conv=>whnf
  refine⟨fun h2=>?_,fun h2=>?_⟩
  ·conv=>whnf
   refine⟨fun h6=>?_,fun h6=>?_⟩
   ·conv=>whnf
    exact aB.bool (by rw[kQ,h1,h2,show decide ((r.response.length:Int)>0)=true from h6]; rfl)
   ·conv=>whnf
    repeat(refine VC.mk (by first|exact id|(intro h; rw[h]; rfl)|(simp only[okI] at *; first|omega|(simp_all; done)|(simp_all; omega))) ?_; conv=>whnf)
    exact aB.bool (by rw[kQ,h1,h2,show decide ((r.response.length:Int)>0)=false from h6]; simp[zB])
  ·conv=>whnf
   refine⟨fun h3=>?_,fun h3=>?_⟩
   ·conv=>whnf
    repeat(refine VC.mk (by first|exact id|(intro h; rw[h]; rfl)|(simp only[okI] at *; first|omega|(simp_all; done)|(simp_all; omega))) ?_; conv=>whnf)
    exact aB.bool (by simp[kQ,zB,h1,h2,h3])
   ·conv=>whnf
    refine⟨fun h4=>?_,fun h4=>?_⟩
    ·conv=>whnf
     refine⟨fun h7=>?_,fun h7=>?_⟩
     ·conv=>whnf
      repeat(refine VC.mk (by first|exact id|(intro h; rw[h]; rfl)|(simp only[okI] at *; first|omega|(simp_all; done)|(simp_all; omega))) ?_; conv=>whnf)
      exact aB.bool (by simp[kQ,zB,h1,h2,h3,h4,h7])
     ·conv=>whnf
      repeat(refine VC.mk (by first|exact id|(intro h; rw[h]; rfl)|(simp only[okI] at *; first|omega|(simp_all; done)|(simp_all; omega))) ?_; conv=>whnf)
      exact aB.bool (by simp[kQ,zB,h1,h2,h3,h4,h7])
    ·conv=>whnf
     refine⟨fun h5=>?_,fun h5=>?_⟩
     ·conv=>whnf
      repeat(refine VC.mk (by first|exact id|(intro h; rw[h]; rfl)|(simp only[okI] at *; first|omega|(simp_all; done)|(simp_all; omega))) ?_; conv=>whnf)
      exact aB.bool (by simp[kQ,zB,h1,h2,h3,h4,h5])
     ·conv=>whnf
      repeat(refine VC.mk (by first|exact id|(intro h; rw[h]; rfl)|(simp only[okI] at *; first|omega|(simp_all; done)|(simp_all; omega))) ?_; conv=>whnf)
      exact aB.bool (by simp[kQ,zB,h1,h2,h3,h4,h5])
def U9(h:Hz):Hz->Prop
 |[]=>True
 |(i,o)::r=>h.get i=o/\U9 h r
theorem Si{h:Hz}: ∀ {h0:Hz},U9 h h0-> ∀ {i:Nat} {o:OV},h0.get i=some o->h.get i=some o:=by
 intro h0
 induction h0 with
 |nil=>intro _ i o e; cases e
 |cons p r ih =>
  obtain⟨j,u⟩:=p
  intro hs i o e
  simp only[Hz.get] at e
  cases hb:Nat.beq j i with
  |true=>rw[hb] at e; simp only[cond_true] at e; rw[<- Nat.eq_of_beq_eq_true hb,hs.1,e]
  |false=>rw[hb] at e; exact ih hs.2 e
def Sj:Hz->Bool
 |[]=>true
 |(_,some o)::r=>o.Iw&&Sj r
 |(_,none)::r=>Sj r
theorem L9: ∀ {h0:Hz},Sj h0=true-> ∀ {i:Nat} {o:OV},h0.get i=some o->o.Iw=true:=by
 intro h0
 induction h0 with
 |nil=>intro _ i o e; cases e
 |cons p r ih =>
  obtain⟨j,u⟩:=p
  intro hs i o e
  simp only[Hz.get] at e
  cases hb:Nat.beq j i with
  |true =>
   rw[hb] at e; simp only[cond_true] at e; subst e
   simp only[Sj,Bool.and_eq_true] at hs; exact hs.1
  |false =>
   rw[hb] at e
   refine ih ?_ e
   cases u with
   |none=>exact hs
   |some o=>simp only[Sj,Bool.and_eq_true] at hs; exact hs.2
theorem OV.Mc{o:OV}(h:o.Iw=true):T.aN (fun _=>False) o.aF.l:=OV.DU h
theorem jG.same{nx:Nat}{h0 h:Hz}{n:Nat}{post:T->Hp->Prop}{v:V}(hf:v.free=true)(hs:U9 h h0)(hg:tX nx h0=true)(hfr:Sj h0=true)(hp:post v.aI h0.aj):jG h0 n post v h:=by
 have hG:=nR hg
 have get: ∀ i ob,h0.aj i=some ob-> ∃ o,h0.get i=some o/\ob=o.aF:=fun i ob e=>by
  simp only[Hz.aj,Option.map_eq_some_iff] at e
  obtain⟨o,e1,e2⟩:=e
  exact⟨o,e1,e2.symm⟩
 have hfree:=V.jO v hf
 refine⟨fun _=>False,id,v.aI,h0.aj,hp,?_,fun i ob hi=>?_,fun i j _ _ e=>e,T.bH (fun _ h=>h.elim) _ (fO hfree),fun i ob hi=>?_,fun i _ _=>rfl⟩
 ·rw[FB]; exact aC _
 ·obtain⟨o,e1,rfl⟩:=get i ob hi
  refine⟨o.aF,aK (Si hs e1),fun h=>h,rfl,rfl,?_,wU (hG i _ hi).2.2⟩
  rw[qF _ (OV.Mc (L9 hfr e1))]; exact dB _
 ·obtain⟨o,e1,rfl⟩:=get i ob hi
  exact⟨.inl (by rw[hi]; rfl),T.ak (fun _ h=>h.elim) _ (OV.Mc (L9 hfr e1))⟩
abbrev Xk(p:aX)(r:Rule):Hz:=[(7,some (.box 57 19 (.dat (.rule r)))),(0,some (.box 27 11 (.dat (.eG p))))]
theorem S.Ju(p:aX)(r x:Rule)(n:Nat):aO Tryd.prog 86 (V.aT [.dat (.rule x),.ptr 7 0 0]) (Xk p r).aj n (fun t hp=>t= .bool (x.name==r.name)/\hp=(Xk p r).aj):=by
 refine oC.of (nx:=8) Bd.kY (by simp) ⟨_,_,rfl,rfl⟩ rfl rfl ?_
 conv=>whnf
 exact jG.same (nx:=8) rfl ⟨rfl,rfl,trivial⟩ rfl rfl ⟨rfl,rfl⟩
def AP(s:Str):List Rule->Nat->Int
 |[],_=> -1
 |x::r,i=>bif x.name==s then(i:Int) else AP s r (i+1)
theorem S.Sl(p:aX)(r:Rule)(l:List Rule)(f:Bool)(hl:l.length<2^30)(n:Nat):aO Tryd.prog 97 (V.aT [.row 19 f (.rules l),.fn 86 [.ptr 7 0 0]]) (Xk p r).aj n (fun t hp=>t= .int (AP r.name l 0)/\hp=(Xk p r).aj):=by
 refine oC.of (nx:=8) Bd.eu (by simp) ⟨_,_,rfl,rfl⟩ rfl rfl ?_
 conv=>whnf
 refine aY.same [0,1,6,7] (fun i:Nat=>[(8,.int i)]) (fun i=>i<=l.length/\AP r.name l 0=AP r.name (l.drop i) i) (fun i=>l.length-i) 0 rfl (by decide) rfl (fun _=>rfl) ⟨by omega,by simp⟩ ⟨⟨_,rfl,rfl⟩,trivial⟩ ?_
 conv=>whnf
 refine⟨rfl,?_⟩
 rintro i ⟨hi,hall⟩
 conv=>whnf
 refine⟨fun h3=>?_,fun h3=>?_⟩
 ·have hi':i<l.length:=by simpa using h3
  rw[bU default hi'] at hall
  simp only[AP] at hall
  conv=>whnf
  refine .mk (by simp only[Rw.rng] at *; first|omega|(simp_all; done)|(simp_all; omega)) ?_
  conv=>whnf
  refine ah.heap (S.Ju p r (l.getD i default) _) ?_
  rintro t hp ⟨rfl,rfl⟩
  refine⟨.bool _,Xk p r,rfl,rfl,?_⟩
  conv=>whnf
  refine⟨fun h4=>?_,fun h4=>?_⟩
  ·conv=>whnf
   rw[h4] at hall
   exact jG.same (nx:=8) rfl ⟨rfl,rfl,trivial⟩ rfl rfl ⟨by rw[hall]; rfl,rfl⟩
  ·conv=>whnf
   refine .mk (by simp only[okI] at *; first|omega|(simp_all; done)|(simp_all; omega)) ?_
   conv=>whnf
   rw[h4] at hall
   refine⟨i+1,⟨by omega,hall⟩,by omega,⟨⟨_,rfl,rfl⟩,trivial⟩,?_,rfl⟩
   repeat' (first|exact trivial|exact⟨_,rfl,rfl⟩|constructor)
 ·conv=>whnf
  have hi':l.length<=i:=by simpa using h3
  rw[List.drop_eq_nil_of_le hi'] at hall
  exact jG.same (nx:=8) rfl ⟨rfl,rfl,trivial⟩ rfl rfl ⟨by rw[hall]; rfl,rfl⟩
theorem Va{s:Str}{l:List Rule}{i:Nat}:decide (0<=AP s l i)=l.any fun x=>x.name==s:=by
 have: ∀ {l:List Rule} {i:Nat},0<=AP s l i↔(l.any fun x=>x.name==s)=true:=by
  intro l
  induction l with
  |nil=>intro i; simp[AP]
  |cons x r ih =>
   intro i
   rw[List.any_cons,Bool.or_eq_true,<- ih (i:=i+1)]
   show(0:Int)<=(bif x.name==s then(i:Int) else AP s r (i+1))↔_
   generalize (x.name==s)=b
   cases b<;>simp
 rw[Bool.eq_iff_iff,decide_eq_true_eq]; exact this
theorem S.Jv(p:aX)(r:Rule)(l:List Rule)(f:Bool)(hl:l.length<2^30)(n:Nat):aO Tryd.prog 85 (V.aT [.row 19 f (.rules l),.fn 86 [.ptr 7 0 0]]) (Xk p r).aj n (fun t hp=>t= .bool (l.any fun x=>x.name==r.name)/\hp=(Xk p r).aj):=by
 refine oC.of (nx:=8) Bd.dR (by simp) ⟨_,_,rfl,rfl⟩ rfl rfl ?_
 conv=>whnf
 refine ah.heap (S.Sl p r l f hl _) ?_
 rintro t hp ⟨rfl,rfl⟩
 refine⟨.int _,Xk p r,rfl,rfl,?_⟩
 conv=>whnf
 exact jG.same (nx:=8) rfl ⟨rfl,rfl,trivial⟩ rfl rfl ⟨by rw[<- Va (i:=0)]; rfl,rfl⟩
theorem ah.mkRow{P:Program}{f:FuncId}{args:List V}{h:Hz}{n ty k:Nat}{r:Rw}{K:V->Hz->Prop}{KW:Nat->V->Hz->Prop}(H:rU P f (V.aT args) (fun n=>.own n) (some ⟨ty,k,r.aT⟩))(hK:K (.own n) ((n,some (.row ty k r []))::h)):ah P false none f args h n K KW :=
 ah.heap (rU.frame H _ _) (by rintro t hp ⟨rfl,rfl⟩; exact⟨.own n,_,rfl,by rw[aZ]; simp[lq,OV.aF,V.aT],hK⟩)
theorem S.Concat(a b c:List Str)(n:Nat)(h0:0<a.length)(ha:a.length<2^20)(hb:b.length<2^20)(hc:c.length<2^20) :
  aO Tryd.prog 82 (V.aT [.vV 0 false [.row 0 false (.strs a),.row 0 false (.strs b),.row 0 false (.strs c)]]) no n (fun t hp=>t= .own n/\hp=Hz.aj [(n,some (.row 9 0 (.strs (a++b++c)) []))]):=by
 refine oC.of (nx:=0) (h0:=[]) Bd.iq (by simp) ⟨_,_,rfl,rfl⟩ rfl rfl ?_
 conv=>whnf
 refine aY.times 4 rfl ?_
 conv=>whnf
 refine Fork.mk (fun _=>?_) (fun q=>absurd (q.symm.trans (rfl)) Bool.false_ne_true)
 conv=>whnf
 repeat(refine VC.mk (by first|(omega)|(simp only[okI] at *; first|omega|(simp_all; done)|(simp_all; omega))) ?_; conv=>whnf)
 refine Fork.mk (fun q=>absurd (q.symm.trans (decide_eq_false (by omega))).symm Bool.false_ne_true) (fun _=>?_)
 conv=>whnf
 refine .mk (by simp only[okI] at *; first|omega|(simp_all; done)|(simp_all; omega)) ?_
 conv=>whnf
 refine Fork.mk (fun _=>?_) (fun q=>absurd (q.symm.trans (rfl)) Bool.false_ne_true)
 conv=>whnf
 repeat(refine VC.mk (by first|(omega)|(simp only[okI] at *; first|omega|(simp_all; done)|(simp_all; omega))) ?_; conv=>whnf)
 refine Fork.mk (fun q=>absurd (q.symm.trans (decide_eq_false (by omega))).symm Bool.false_ne_true) (fun _=>?_)
 conv=>whnf
 refine .mk (by simp only[okI] at *; first|omega|(simp_all; done)|(simp_all; omega)) ?_
 conv=>whnf
 refine Fork.mk (fun _=>?_) (fun q=>absurd (q.symm.trans (rfl)) Bool.false_ne_true)
 conv=>whnf
 repeat(refine VC.mk (by first|(omega)|(simp only[okI] at *; first|omega|(simp_all; done)|(simp_all; omega))) ?_; conv=>whnf)
 refine Fork.mk (fun q=>absurd (q.symm.trans (decide_eq_false (by omega))).symm Bool.false_ne_true) (fun _=>?_)
 conv=>whnf
 refine .mk (by simp only[okI] at *; first|omega|(simp_all; done)|(simp_all; omega)) ?_
 conv=>whnf
 refine Fork.mk (fun q=>absurd (q.symm.trans (rfl)).symm Bool.false_ne_true) (fun _=>?_)
 conv=>whnf
 have e:(0+(a.length:Int)+b.length+c.length)=((a.length+b.length+c.length:Nat):Int):=by omega
 rw[e]
 refine ah.mkRow (r:=.strs []) (S.Grow (a.length+b.length+c.length) (by omega) (by omega)) ?_
 conv=>whnf
 refine aY.times 4 rfl ?_
 conv=>whnf
 refine Fork.mk (fun _=>?_) (fun q=>absurd (q.symm.trans (rfl)) Bool.false_ne_true)
 conv=>whnf
 repeat(refine VC.mk (by first|(omega)|(simp only[nN,mV,Rw.len,List.length_nil]; omega)|(simp only[okI] at *; first|omega|(simp_all; done)|(simp_all; omega))) ?_; conv=>whnf)
 refine Fork.mk (fun _=>?_) (fun q=>absurd (q.symm.trans (rfl)) Bool.false_ne_true)
 conv=>whnf
 repeat(refine VC.mk (by first|(omega)|(simp only[nN,mV,Rw.len,List.length_append,List.length_nil]; omega)|(simp only[okI] at *; first|omega|(simp_all; done)|(simp_all; omega))) ?_; conv=>whnf)
 refine Fork.mk (fun _=>?_) (fun q=>absurd (q.symm.trans (rfl)) Bool.false_ne_true)
 conv=>whnf
 repeat(refine VC.mk (by first|(omega)|(simp only[nN,mV,Rw.len,List.length_append,List.length_nil]; omega)|(simp only[okI] at *; first|omega|(simp_all; done)|(simp_all; omega))) ?_; conv=>whnf)
 refine Fork.mk (fun q=>absurd (q.symm.trans (rfl)).symm Bool.false_ne_true) (fun _=>?_)
 conv=>whnf
 refine jG.one (c:=n) (o:=.row 9 0 (.strs (a++b++c)) []) (t:=.own n) rfl rfl rfl nofun (.inr rfl) rfl (.eq rfl) ⟨rfl,rfl⟩
theorem S.Xl(a b c:List Str)(h0:0<a.length)(ha:a.length<2^20)(hb:b.length<2^20)(hc:c.length<2^20) :
  rU Tryd.prog 82 (V.aT [.vV 0 false [.row 0 false (.strs a),.row 0 false (.strs b),.row 0 false (.strs c)]]) (fun n=>.own n) (some ⟨9,0,(Rw.strs (a++b++c)).aT⟩):=by
 refine⟨rfl,fun _=>rfl,(fun ob h=>by cases h; rw[fP]; intro t ht; obtain⟨x,_,rfl⟩:=List.mem_map.1 ht; rfl),(fun ob h=>by cases h; exact fun e=>absurd e (by decide:(0:Nat)≠eF)),fun n=>(S.Concat a b c n h0 ha hb hc).mono ?_⟩
 rintro t hp ⟨rfl,rfl⟩
 refine⟨rfl,?_⟩
 rw[aZ]; simp[lq,OV.aF,V.aT]; rfl
theorem ah.IC{P:Program}{f:FuncId}{args:List V}{ts:List T}{h:Hz}{n ty k:Nat}{r:Rw}{K:V->Hz->Prop}{KW:Nat->V->Hz->Prop}(H:rU P f ts (fun n=>.own n) (some ⟨ty,k,r.aT⟩))(hs:T.dI (fun _=>True) h.aj ts (V.aT args))(hh:T.oD r.aT=true)(hK:K (.own n) ((n,some (.row ty k r []))::h)):ah P false none f args h n K KW :=
 ⟨.inl (rU.lend H hs rfl (fun _ e=>by cases e; exact hh) ⟨.own n,_,rfl,by rw[aZ]; simp[lq,OV.aF,V.aT],(fun e=>by cases e),hK⟩)⟩
theorem OO{h:Hz}{j ty:Nat}{Z:Nat->Prop}{l:List V}(hz:Z j)(q:h.get j=some (.row ty 0 .nil l))(hf:V.cu l=true):T.sub Z h.aj (V.vV 0 false l).aI (V.own j).aI:=by
 show T.sub Z h.aj (.sl 0 false (V.aT l)) (.own j)
 simp only[T.sub]
 exact⟨trivial,hz,V.fE l hf,by decide,ty,by rw[aK q]; rfl⟩
theorem Sm{l:List Str}:T.oD (Rw.strs l).aT=true:=by
 show T.oD (l.map eS)=true
 induction l with
 |nil=>rfl
 |cons s r ih=>simp only[List.map_cons,T.oD,ih]; rfl
theorem aaK{h:Hz}{j i ty:Nat}{Z:Nat->Prop}{l:List Str}(hz:Z j)(q:h.get j=some (.row ty 0 (.strs l) []))(hi:i<=l.length):T.sub Z h.aj (V.row 0 false (.strs (l.take i))).aI (V.oK j 0 i).aI:=by
 show T.sub Z h.aj (.sl 0 false ((l.take i).map eS)) (.oK j 0 i)
 simp only[T.sub]
 refine⟨trivial,hz,?_,by decide,ty,l.map eS,?_,by simpa using hi,by simp[List.map_take]⟩
 ·rw[fP]; intro t ht; obtain⟨x,_,rfl⟩:=List.mem_map.1 ht; rfl
 ·rw[aK q]; simp[OV.aF,Rw.aT,V.aT]
def allNames(p:aX):List Str:=p.states++p.messages++p.values
def PU(l:List Str)(i:Nat):Bool:= !(validName (l.getD i []))||(l.take i).any fun x=>l.getD i []==x
def FW(p:aX):Int:=bif (List.range (allNames p).length).any (PU (allNames p)) then 2 else 0
theorem Gz{n:Nat}{f:Nat->Bool}:(List.range n).any f=true↔ ∃ i,i<n/\f i=true:=by
 simp[List.any_eq_true]
theorem S.lK(p:aX)(h0:0<p.states.length)(h1:p.states.length<2^20)(h2:p.messages.length<2^20)(h3:p.values.length<2^20):ay Tryd.prog 75 [.dat (.eG p)] (.int (FW p)):=by
 have hlen:(allNames p).length<2^30:=by simp only[allNames,List.length_append]; omega
 refine ay.of Bd.lK (by simp) rfl rfl ?_
 conv=>whnf
 refine ah.IC (r:=.strs (allNames p)) (S.Xl p.states p.messages p.values h0 h1 h2 h3) (And.intro (OO (ty:=22) trivial rfl rfl) trivial) Sm ?_
 conv=>whnf
 refine aY.same [3,14,15] (fun i:Nat=>[(16,.int i)]) (fun i=>i<=(allNames p).length/\(List.range i).any (PU (allNames p))=false) (fun i=>(allNames p).length-i) 0 rfl (by decide) rfl (fun _=>rfl) ⟨Nat.zero_le _,rfl⟩ ⟨⟨_,rfl,rfl⟩,trivial⟩ ?_
 conv=>whnf
 refine⟨rfl,?_⟩
 rintro i ⟨hi,hall⟩
 conv=>whnf
 refine⟨fun h4=>?_,fun h4=>?_⟩
 ·have hi':i<(allNames p).length:=by simpa using h4
  conv=>whnf
  repeat(refine VC.mk (by simp only[Rw.rng] at *; first|omega|(simp_all; done)|(simp_all; omega)) ?_; conv=>whnf)
  refine ah.pure (S.eH ((allNames p).getD i [])) rfl ?_
  conv=>whnf
  repeat(refine VC.mk (by first|exact fun h=>⟨h,h⟩|(intro h; (repeat' apply And.intro)<;>first|exact h|omega|(simp only[Rw.tZ]; omega)|(simp only[Rw.rng]; omega))) ?_; conv=>whnf)
  refine ah.JH (fun _=>S.slices_Contains_string ((allNames p).take i) ((allNames p).getD i []) false (by rw[List.length_take]; omega)) (fun _=>And.intro (aaK (ty:=9) trivial rfl (by omega)) (And.intro (aC _) trivial)) rfl rfl ?_
  conv=>whnf
  refine .mk (by intro h; rw[h]; rfl) ?_
  conv=>whnf
  refine⟨fun h5=>?_,fun h5=>?_⟩
  ·conv=>whnf
   refine aB.int ?_
   rw[FW,Gz.2 ⟨i,hi',h5⟩]; rfl
  ·conv=>whnf
   refine .mk (by simp only[okI] at *; first|omega|(simp_all; done)|(simp_all; omega)) ?_
   conv=>whnf
   refine⟨i+1,⟨by omega,?_⟩,by omega,⟨⟨_,rfl,rfl⟩,trivial⟩,?_,rfl⟩
   ·rw[List.range_succ,List.any_append,hall]
    simp only[List.any_cons,List.any_nil,Bool.or_false,Bool.false_or]; exact h5
   ·repeat' (first|exact trivial|exact⟨_,rfl,rfl⟩|constructor)
 ·have hi':(allNames p).length<=i:=by simpa using h4
  have e:i=(allNames p).length:=Nat.le_antisymm hi hi'
  subst e
  conv=>whnf
  exact aB.int (by rw[FW,hall]; rfl)
theorem ah.aaL{P:Program}{f:FuncId}{args:List V}{h:Hz}{hp0:Hp}{n:Nat}{K:V->Hz->Prop}{KW:Nat->V->Hz->Prop}{post:T->Hp->Prop}(S:aO P f (V.aT args) hp0 n post)(e:h.aj=hp0)(hK: ∀ t hp,post t hp-> ∃ v h',t=v.aI/\hp=Hz.aj h'/\K v h'):ah P false none f args h n K KW:=by
 subst e; exact ah.heap S hK
theorem Md{i:Nat}{a b:Option OV}{r:Hz}:Hz.aj ((i,a)::(i,b)::r)=Hz.aj ((i,a)::r):=funext fun j=>by
 simp only[Hz.aj,Hz.get]; cases Nat.beq i j<;>rfl
structure dP(p:aX):Prop where
 states:p.states.length<2^20
 messages:p.messages.length<2^20
 values:p.values.length<2^20
 dV:p.dV.length<2^30
 initial:p.initial.length<2^30
 leader:p.leader.length<2^30
 rules:p.rules.length<2^30
 rule: ∀ i,sU (p.rules.getD i default)
 oU:(p.rules.flatMap Rule.guards).length<2^30
def o7(p:aX)(i:Nat):Bool:= !(validName (p.rules.getD i default).name)||(p.rules.take i).any fun x=>x.name==(p.rules.getD i default).name
def oZ(p:aX)(i:Nat):Bool:= !(wC (p.rules.getD i default).kind p.topology)||kQ (p.rules.getD i default) p.topology
def xq(p:aX)(r:Rule):Int:=bJ [dY r.fr p.states.length,dY r.to p.states.length]
def Zu(p:aX)(r:Rule):Bool:=decide (r.pos<0)||decide (r.pos>2)||(r.pos !=0&&p.topology==3)
def jL(p:aX)(i:Nat):Int :=
 let r:=p.rules.getD i default
 let n:Int:=p.states.length
 bif o7 p i then 2 else bif oZ p i then 6 else bif xq p r !=0 then xq p r else
 bif r.kind==1 then bJ [AO p r.guards,iD r.ex n,iD r.all n,jH p r.read,jH p r.write,iD r.send p.messages.length] else
 bif r.kind==2 then bJ [dY r.jw n,dY r.Dj n,jH p r.read,jH p r.write] else
 bif r.kind==3 then bJ [CO r.response n,jH p r.read,jH p r.write] else
 bif r.kind==4 then bJ [iD r.left n,iD r.right n,iD r.parent n,fA (Zu p r) 1] else
 bif p.topology==4 then bJ [dY r.jw n,dY r.Dj n,fA (decide (r.direction<3)||decide (r.direction>4)) 1]
 else bJ [dY r.jw n,dY r.Dj n,fA (decide (r.direction<1)||decide (r.direction>2)) 1]
theorem S.jf(p:aX)(i:Nat)(hi:i<p.rules.length)(hp:dP p):ay Tryd.prog 77 [.dat (.eG p),.int i] (.int (jL p i)):=by
 have hr:=hp.rule i
 have hp1:=hp.rules
 have hp2:=hp.states
 have hp3:=hp.messages
 refine ay.of Bd.jf (by simp) rfl rfl ?_
 conv=>whnf
 repeat(refine VC.mk (by first|(simp only[Rw.tZ]; omega)|(simp only[Rw.rng] at *; first|omega|(simp_all; done)|(simp_all; omega))) ?_; conv=>whnf)
 refine ah.aaL (S.Jv p (p.rules.getD i default) (p.rules.take i) false (by rw[List.length_take]; omega) _) Md ?_
 rintro t hp' ⟨rfl,rfl⟩
 refine⟨.bool _,Xk p (p.rules.getD i default),rfl,rfl,?_⟩
 conv=>whnf
 refine ah.pure (S.eH (p.rules.getD i default).name) rfl ?_
 conv=>whnf
 refine .mk (by intro h; rw[h]; rfl) ?_
 conv=>whnf
 refine⟨fun h1=>?_,fun h1=>?_⟩
 ·conv=>whnf
  exact aB.int (by rw[jL,show o7 p i=true from h1]; rfl)
 ·conv=>whnf
  refine ah.pure (S.lY (p.rules.getD i default).kind p.topology) rfl ?_
  conv=>whnf
  repeat(refine VC.mk (by first|exact id|exact fun h=>⟨h,h⟩) ?_; conv=>whnf)
  refine ah.mQ (fun _=>S.jX (p.rules.getD i default) p.topology hr) rfl ?_
  conv=>whnf
  refine .mk (by intro h; rw[h]; rfl) ?_
  conv=>whnf
  refine⟨fun h2=>?_,fun h2=>?_⟩
  ·conv=>whnf
   exact aB.int (by rw[jL,show o7 p i=false from h1,show oZ p i=true from h2]; rfl)
  ·conv=>whnf
   refine ah.pure (S.bI (p.rules.getD i default).fr p.states.length) rfl ?_
   conv=>whnf
   refine ah.pure (S.bI (p.rules.getD i default).to p.states.length) rfl ?_
   conv=>whnf
   refine ah.pure (S.bD [dY (p.rules.getD i default).fr p.states.length,dY (p.rules.getD i default).to p.states.length] true (show 2<2^40 by decide)) rfl ?_
   conv=>whnf
   refine⟨fun h3=>?_,fun h3=>?_⟩
   ·conv=>whnf
    exact aB.int (by rw[jL,show o7 p i=false from h1,show oZ p i=false from h2,show(xq p (p.rules.getD i default) !=0)=true from h3]; rfl)
   ·conv=>whnf
    refine⟨fun h4=>?_,fun h4=>?_⟩
    ·conv=>whnf
     refine ah.pure (S.kP p (p.rules.getD i default).guards false (by have:=hr.guards; omega)) rfl ?_
     conv=>whnf
     refine ah.pure (S.dF (p.rules.getD i default).ex p.states.length false (by have:=hr.ex; omega)) rfl ?_
     conv=>whnf
     refine ah.pure (S.dF (p.rules.getD i default).all p.states.length false (by have:=hr.all; omega)) rfl ?_
     conv=>whnf
     refine ah.pure (S.dZ p (p.rules.getD i default).read) rfl ?_
     conv=>whnf
     refine ah.pure (S.dZ p (p.rules.getD i default).write) rfl ?_
     conv=>whnf
     refine ah.pure (S.dF (p.rules.getD i default).send p.messages.length false (by have:=hr.send; omega)) rfl ?_
     conv=>whnf
     refine ah.pure (S.bD [AO p (p.rules.getD i default).guards,iD (p.rules.getD i default).ex p.states.length,iD (p.rules.getD i default).all p.states.length,jH p (p.rules.getD i default).read,jH p (p.rules.getD i default).write,iD (p.rules.getD i default).send p.messages.length] true (show 6<2^40 by decide)) rfl ?_
     conv=>whnf
     exact aB.int (by rw[jL,show o7 p i=false from h1,show oZ p i=false from h2,show(xq p (p.rules.getD i default) !=0)=false from h3,h4]; rfl)
    ·conv=>whnf
     refine⟨fun h5=>?_,fun h5=>?_⟩
     ·conv=>whnf
      refine ah.pure (S.bI (p.rules.getD i default).jw p.states.length) rfl ?_
      conv=>whnf
      refine ah.pure (S.bI (p.rules.getD i default).Dj p.states.length) rfl ?_
      conv=>whnf
      refine ah.pure (S.dZ p (p.rules.getD i default).read) rfl ?_
      conv=>whnf
      refine ah.pure (S.dZ p (p.rules.getD i default).write) rfl ?_
      conv=>whnf
      refine ah.pure (S.bD [dY (p.rules.getD i default).jw p.states.length,dY (p.rules.getD i default).Dj p.states.length,jH p (p.rules.getD i default).read,jH p (p.rules.getD i default).write] true (show 4<2^40 by decide)) rfl ?_
      conv=>whnf
      exact aB.int (by rw[jL,show o7 p i=false from h1,show oZ p i=false from h2,show(xq p (p.rules.getD i default) !=0)=false from h3,h4,h5]; rfl)
     ·conv=>whnf
      refine⟨fun h6=>?_,fun h6=>?_⟩
      ·conv=>whnf
       refine ah.pure (S.jg (p.rules.getD i default).response p.states.length false (by have:=hr.response; omega)) rfl ?_
       conv=>whnf
       refine ah.pure (S.dZ p (p.rules.getD i default).read) rfl ?_
       conv=>whnf
       refine ah.pure (S.dZ p (p.rules.getD i default).write) rfl ?_
       conv=>whnf
       refine ah.pure (S.bD [CO (p.rules.getD i default).response p.states.length,jH p (p.rules.getD i default).read,jH p (p.rules.getD i default).write] true (show 3<2^40 by decide)) rfl ?_
       conv=>whnf
       exact aB.int (by rw[jL,show o7 p i=false from h1,show oZ p i=false from h2,show(xq p (p.rules.getD i default) !=0)=false from h3,h4,h5,h6]; rfl)
      ·conv=>whnf
       refine⟨fun h7=>?_,fun h7=>?_⟩
       ·conv=>whnf
        repeat(refine VC.mk (by first|exact id|(intro h; rw[h]; rfl)|(intro h; simp_all; done)) ?_; conv=>whnf)
        refine ah.pure (S.dF (p.rules.getD i default).left p.states.length false (by have:=hr.left; omega)) rfl ?_
        conv=>whnf
        refine ah.pure (S.dF (p.rules.getD i default).right p.states.length false (by have:=hr.right; omega)) rfl ?_
        conv=>whnf
        refine ah.pure (S.dF (p.rules.getD i default).parent p.states.length false (by have:=hr.parent; omega)) rfl ?_
        conv=>whnf
        refine ah.pure (S.bG (Zu p (p.rules.getD i default)) 1) rfl ?_
        conv=>whnf
        refine ah.pure (S.bD [iD (p.rules.getD i default).left p.states.length,iD (p.rules.getD i default).right p.states.length,iD (p.rules.getD i default).parent p.states.length,fA (Zu p (p.rules.getD i default)) 1] true (show 4<2^40 by decide)) rfl ?_
        conv=>whnf
        exact aB.int (by rw[jL,show o7 p i=false from h1,show oZ p i=false from h2,show(xq p (p.rules.getD i default) !=0)=false from h3,h4,h5,h6,h7]; rfl)
       ·conv=>whnf
        refine⟨fun h8=>?_,fun h8=>?_⟩
        ·conv=>whnf
         refine ah.pure (S.bI (p.rules.getD i default).jw p.states.length) rfl ?_
         conv=>whnf
         refine ah.pure (S.bI (p.rules.getD i default).Dj p.states.length) rfl ?_
         conv=>whnf
         repeat(refine VC.mk (by first|exact id|exact fun h=>⟨h,h⟩|(intro h; rw[h]; rfl)) ?_; conv=>whnf)
         refine ah.pure (S.bG (decide ((p.rules.getD i default).direction<3)||decide ((p.rules.getD i default).direction>4)) 1) rfl ?_
         conv=>whnf
         refine ah.pure (S.bD [dY (p.rules.getD i default).jw p.states.length,dY (p.rules.getD i default).Dj p.states.length,fA (decide ((p.rules.getD i default).direction<3)||decide ((p.rules.getD i default).direction>4)) 1] true (show 3<2^40 by decide)) rfl ?_
         conv=>whnf
         exact aB.int (by rw[jL,show o7 p i=false from h1,show oZ p i=false from h2,show(xq p (p.rules.getD i default) !=0)=false from h3,h4,h5,h6,h7,h8]; rfl)
        ·conv=>whnf
         refine ah.pure (S.bI (p.rules.getD i default).jw p.states.length) rfl ?_
         conv=>whnf
         refine ah.pure (S.bI (p.rules.getD i default).Dj p.states.length) rfl ?_
         conv=>whnf
         repeat(refine VC.mk (by first|exact id|exact fun h=>⟨h,h⟩|(intro h; rw[h]; rfl)) ?_; conv=>whnf)
         refine ah.pure (S.bG (decide ((p.rules.getD i default).direction<1)||decide ((p.rules.getD i default).direction>2)) 1) rfl ?_
         conv=>whnf
         refine ah.pure (S.bD [dY (p.rules.getD i default).jw p.states.length,dY (p.rules.getD i default).Dj p.states.length,fA (decide ((p.rules.getD i default).direction<1)||decide ((p.rules.getD i default).direction>2)) 1] true (show 3<2^40 by decide)) rfl ?_
         conv=>whnf
         exact aB.int (by rw[jL,show o7 p i=false from h1,show oZ p i=false from h2,show(xq p (p.rules.getD i default) !=0)=false from h3,h4,h5,h6,h7,h8]; rfl)
def AQ(g:Ai):List Ai->Nat->Int
 |[],_=> -1
 |x::r,i=>bif g==x then(i:Int) else AQ g r (i+1)
theorem Vb{g:Ai}{l:List Ai}{i:Nat}:decide (0<=AQ g l i)=l.any fun x=>g==x:=by
 have: ∀ {l:List Ai} {i:Nat},0<=AQ g l i↔(l.any fun x=>g==x)=true:=by
  intro l
  induction l with
  |nil=>intro i; simp[AQ]
  |cons x r ih =>
   intro i
   rw[List.any_cons,Bool.or_eq_true,<- ih (i:=i+1)]
   show(0:Int)<=(bif g==x then(i:Int) else AQ g r (i+1))↔_
   generalize (g==x)=b
   cases b<;>simp
 rw[Bool.eq_iff_iff,decide_eq_true_eq]; exact this
theorem S.Vd(l:List Ai)(g:Ai)(f:Bool)(hl:l.length<2^40):ay Tryd.prog 98 [.row 7 f (.oU l),.dat (.Sz g)] (.int (AQ g l 0)):=by
 refine ay.of Bd.dK (by simp) rfl rfl ?_
 conv=>whnf
 refine aY.same [0,3,6,7] (fun i:Nat=>[(8,.int i)]) (fun i=>i<=l.length/\AQ g l 0=AQ g (l.drop i) i) (fun i=>l.length-i) 0 rfl (by decide) rfl (fun _=>rfl) ⟨by omega,by simp⟩ ⟨⟨_,rfl,rfl⟩,trivial⟩ ?_
 conv=>whnf
 refine⟨rfl,?_⟩
 rintro i ⟨hi,hall⟩
 conv=>whnf
 refine⟨fun h3=>?_,fun h3=>?_⟩
 ·have hi':i<l.length:=by simpa using h3
  rw[bU default hi'] at hall
  simp only[AQ] at hall
  conv=>whnf
  refine .mk (by simp only[Rw.rng] at *; first|omega|(simp_all; done)|(simp_all; omega)) ?_
  conv=>whnf
  refine⟨fun h4=>?_,fun h4=>?_⟩
  ·conv=>whnf
   refine aB.int ?_
   have h4':(g==l.getD i default)=true:=h4
   rw[hall,h4']; rfl
  ·conv=>whnf
   refine .mk (by simp only[okI] at *; first|omega|(simp_all; done)|(simp_all; omega)) ?_
   conv=>whnf
   refine⟨i+1,⟨by omega,?_⟩,by omega,⟨⟨_,rfl,rfl⟩,trivial⟩,?_,rfl⟩
   ·have h4':(g==l.getD i default)=false:=h4
    rw[hall,h4']; rfl
   ·repeat' (first|exact trivial|exact⟨_,rfl,rfl⟩|constructor)
 ·conv=>whnf
  refine aB.int ?_
  have hi':l.length<=i:=by simpa using h3
  rw[hall,List.drop_eq_nil_of_le hi']; rfl
theorem S.Me(l:List Ai)(g:Ai)(f:Bool)(hl:l.length<2^40):ay Tryd.prog 92 [.row 7 f (.oU l),.dat (.Sz g)] (.bool (l.any fun x=>g==x)):=by
 refine ay.of Bd.dn (by simp) rfl rfl ?_
 conv=>whnf
 refine ah.pure (S.Vd l g f hl) rfl ?_
 conv=>whnf
 exact aB.bool Vb.symm
theorem XM{h:Hz}{j:Nat}{Z:Nat->Prop}{l:List Ai}(hz:Z j)(q:h.get j=some (.row 152 7 (.oU l) [])):T.sub Z h.aj (V.row 7 false (.oU l)).aI (V.own j).aI:=by
 show T.sub Z h.aj (.sl 7 false (l.map Lc)) (.own j)
 simp only[T.sub]
 refine⟨trivial,hz,?_,by decide,152,?_⟩
 ·rw[fP]; intro t ht; obtain⟨x,_,rfl⟩:=List.mem_map.1 ht; rfl
 ·have:=aK q
  rw[this]; simp[OV.aF,Rw.aT,V.aT]
theorem FX{α β:Type}{f:β->α->β}{b:β}{l:List α}{i:Nat}{d:α}(h:i<l.length):(l.take (i+1)).foldl f b=f ((l.take i).foldl f b) (l.getD i d):=by
 rw[List.take_add_one,List.foldl_append]
 simp[List.getElem?_eq_getElem h]
theorem aB.abr{h:Hz}{j:Nat}{l:List Ai}(q:h.get j=some (.row 152 7 (.oU l) [])):aB (.row 7 false (.oU l)) (.own j) h:=⟨XM trivial q⟩
def Jw(acc:List Ai)(g:Ai):List Ai:=bif acc.any (fun x=>g==x) then acc else acc++[g]
def AU(l:List Rule):List Ai:=(l.flatMap Rule.guards).foldl Jw []
theorem Ve{acc:List Ai}{g:Ai}:(Jw acc g).length<=acc.length+1:=by
 unfold Jw; cases acc.any (fun x=>g==x)<;>simp
theorem MB: ∀ {l acc:List Ai},(l.foldl Jw acc).length<=acc.length+l.length:=by
 intro l
 induction l with
 |nil=>intro acc; simp
 |cons g r ih =>
  intro acc
  have:=ih (acc:=Jw acc g)
  have h2:=Ve (acc:=acc) (g:=g)
  simp only[List.foldl_cons,List.length_cons]; omega
abbrev rowT(l:List Ai):OV:=.row 152 7 (.oU l) []
def Dw(p:aX)(i k:Nat):List Ai:=((p.rules.getD i default).guards.take k).foldl Jw (AU (p.rules.take i))
theorem Vf(p:aX)(hp:dP p)(i k:Nat)(_hi:i<p.rules.length):(Dw p i k).length<2^31:=by
 have h1:=MB (l:=(p.rules.getD i default).guards.take k) (acc:=AU (p.rules.take i))
 have h2:=MB (l:=(p.rules.take i).flatMap Rule.guards) (acc:=[])
 have h3:=(hp.rule i).guards
 have h4:((p.rules.take i).flatMap Rule.guards).length<=(p.rules.flatMap Rule.guards).length:=by
  conv=>rhs; rw[<- List.take_append_drop i p.rules,List.flatMap_append,List.length_append]
  omega
 have h5:=hp.oU
 have h6:((p.rules.getD i default).guards.take k).length<=(p.rules.getD i default).guards.length:=by simp[List.length_take]; omega
 unfold Dw
 unfold AU at h1 ⊢
 simp only[List.length_nil,Nat.zero_add] at h2
 omega
theorem Sr(p:aX){i:Nat}(hi:i<p.rules.length):AU (p.rules.take (i+1))=Dw p i (p.rules.getD i default).guards.length:=by
 unfold Dw
 rw[List.take_of_length_le (Nat.le_refl _)]
 unfold AU
 rw[List.take_add_one,List.flatMap_append,List.foldl_append]
 simp[List.getElem?_eq_getElem hi]
theorem S.iG(p:aX)(hp:dP p):ay Tryd.prog 78 [.dat (.eG p)] (.row 7 false (.oU (AU p.rules))):=by
 have hp1:=hp.rules
 refine ay.of Bd.iG (by simp) rfl rfl ?_
 conv=>whnf
 refine aY.nil 3 152 7 (by rfl) rfl rfl rfl ?_
 refine aY.objs 1 [9,10] (fun i:Nat=>[(11,.int i),(3,.own 0)]) (fun i=>[(0,rowT (AU (p.rules.take i)))]) (fun i=>i<=p.rules.length) (fun i=>p.rules.length-i) 0 [7] rfl (by decide) (fun _=>rfl) (Nat.zero_le _) ?_ ?_ ?_
 ·exact⟨⟨_,rfl,.eq rfl⟩,⟨_,rfl,.eq rfl⟩,trivial⟩
 ·exact⟨⟨rfl,nofun,rfl,rfl,rfl,_,rfl,rfl,rfl,bZ.of_eq rfl⟩,trivial⟩
 conv=>whnf
 refine⟨⟨⟨_,rfl,.eq rfl⟩,⟨_,rfl,.eq rfl⟩,trivial⟩,rfl,?_⟩
 rintro i hi
 conv=>whnf
 refine⟨fun h3=>?_,fun h3=>?_⟩
 ·have hi':i<p.rules.length:=by simpa using h3
  conv=>whnf
  refine .mk (by simp only[Rw.rng] at *; first|omega|(simp_all; done)|(simp_all; omega)) ?_
  conv=>whnf
  refine aY.objs 1 [9,10,11,16,17] (fun k:Nat=>[(18,.int k),(3,.own 0)]) (fun k=>[(0,rowT (Dw p i k))]) (fun k=>k<=(p.rules.getD i default).guards.length) (fun k=>(p.rules.getD i default).guards.length-k) 0 [0] rfl (by decide) (fun _=>rfl) (Nat.zero_le _) ?_ ?_ ?_
  ·exact⟨⟨_,rfl,.eq rfl⟩,⟨_,rfl,.eq rfl⟩,trivial⟩
  ·exact⟨⟨rfl,nofun,rfl,rfl,rfl,_,rfl,rfl,rfl,bZ.of_eq rfl⟩,trivial⟩
  conv=>whnf
  refine⟨⟨⟨_,rfl,.eq rfl⟩,⟨_,rfl,.eq rfl⟩,⟨_,rfl,.eq rfl⟩,⟨_,rfl,.eq rfl⟩,⟨_,rfl,.eq rfl⟩,trivial⟩,rfl,?_⟩
  rintro k hk
  have hacc:=Vf p hp i k hi'
  have hg:=(hp.rule i).guards
  conv=>whnf
  refine⟨fun h4=>?_,fun h4=>?_⟩
  ·have hk':k<(p.rules.getD i default).guards.length:=by simpa using h4
   have hst:Dw p i (k+1)=Jw (Dw p i k) ((p.rules.getD i default).guards.getD k default):=FX hk'
   conv=>whnf
   refine .mk (by simp only[Rw.rng] at *; first|omega|(simp_all; done)|(simp_all; omega)) ?_
   conv=>whnf
   refine ah.lend (S.Me (Dw p i k) ((p.rules.getD i default).guards.getD k default) false (by omega)) (And.intro (XM trivial rfl) (And.intro (aC _) trivial)) rfl rfl ?_
   conv=>whnf
   refine⟨fun h5=>?_,fun h5=>?_⟩
   ·conv=>whnf
    repeat(refine VC.mk (by first|(show((Dw p i k).length+(0+1))*48<=140737488355328/\(Dw p i k).length+(0+1)<=1152921504606846976; omega)|(simp only[okI] at *; first|omega|(simp_all; done)|(simp_all; omega))) ?_; conv=>whnf)
    have h5':((Dw p i k).any fun x=>(p.rules.getD i default).guards.getD k default==x)=false:=by simpa using h5
    refine⟨k+1,[13],by omega,by omega,⟨⟨_,rfl,.eq rfl⟩,⟨_,rfl,.eq rfl⟩,trivial⟩,⟨⟨_,rfl,.eq rfl⟩,⟨_,rfl,.eq rfl⟩,⟨_,rfl,.eq rfl⟩,⟨_,rfl,.eq rfl⟩,⟨_,rfl,.eq rfl⟩,trivial⟩,⟨rfl,nofun,rfl,rfl,rfl,_,rfl,rfl,rfl,bZ.of_eq ?_⟩,trivial⟩
    rw[hst,Jw,h5']
    rfl
   ·conv=>whnf
    refine .mk (by simp only[okI] at *; first|omega|(simp_all; done)|(simp_all; omega)) ?_
    conv=>whnf
    have h5':((Dw p i k).any fun x=>(p.rules.getD i default).guards.getD k default==x)=true:=by simpa using h5
    refine⟨k+1,[0],by omega,by omega,⟨⟨_,rfl,.eq rfl⟩,⟨_,rfl,.eq rfl⟩,trivial⟩,⟨⟨_,rfl,.eq rfl⟩,⟨_,rfl,.eq rfl⟩,⟨_,rfl,.eq rfl⟩,⟨_,rfl,.eq rfl⟩,⟨_,rfl,.eq rfl⟩,trivial⟩,⟨rfl,nofun,rfl,rfl,rfl,_,rfl,rfl,rfl,bZ.of_eq ?_⟩,trivial⟩
    rw[hst,Jw,h5']; rfl
  ·have hk':(p.rules.getD i default).guards.length<=k:=by simpa using h4
   have e:k=(p.rules.getD i default).guards.length:=Nat.le_antisymm hk hk'
   subst e
   conv=>whnf
   refine .mk (by simp only[okI] at *; first|omega|(simp_all; done)|(simp_all; omega)) ?_
   conv=>whnf
   refine⟨i+1,[0],by omega,by omega,⟨⟨_,rfl,.eq rfl⟩,⟨_,rfl,.eq rfl⟩,trivial⟩,⟨⟨_,rfl,.eq rfl⟩,⟨_,rfl,.eq rfl⟩,trivial⟩,⟨rfl,nofun,rfl,rfl,rfl,_,rfl,rfl,rfl,bZ.of_eq ?_⟩,trivial⟩
   rw[Sr p hi']
 ·have hi':p.rules.length<=i:=by simpa using h3
  rw[List.take_of_length_le hi']
  conv=>whnf
  exact aB.abr rfl
def tu(p:aX):Bool:=decide (p.topology<1)||decide (p.topology>4)||decide (p.fault<0)||decide (p.fault>3)
def uT(p:aX):Bool:=decide ((p.states.length:Int)>6)||decide ((p.messages.length:Int)>3)||decide ((p.values.length:Int)>3)||decide ((p.dV.length:Int)>4)||decide ((p.rules.length:Int)>8)
def Sv(p:aX):Bool:=(!(p.topology==1)&&(decide ((p.messages.length:Int)>0)||decide ((p.values.length:Int)>0)||decide ((p.dV.length:Int)>0)||p.fault !=0))||((p.topology==1)&&decide ((p.leader.length:Int)>0))
def GH(p:aX):Int:=bJ [iD p.initial p.states.length,fA ((p.initial.length:Int)==0) 1,iD p.leader p.states.length]
def Ed(p:aX):Int:=bJ ((List.range p.rules.length).map (jL p))
def dU(p:aX):Int :=
 bif !(validName p.name) then 2 else bif tu p then 1 else bif (p.states.length:Int)==0 then 1 else bif uT p then 4 else
 bif FW p !=0 then FW p else bif Sv p then 1 else
 bif p.dV.any (fun l=> !(RZ l)) then 4 else
 bif GH p !=0 then GH p else
 bif Ed p !=0 then Ed p else fA (decide (((AU p.rules).length:Int)>3)) 4
theorem Ou{n i:Nat}{f:Nat->Int}(h:i<n):((List.range n).drop i).map f=f i::((List.range n).drop (i+1)).map f:=by
 rw[List.drop_eq_getElem_cons (by simpa using h)]; simp
theorem S.gJ(p:aX)(hp:dP p):ay Tryd.prog 62 [.dat (.eG p)] (.int (dU p)):=by
 have g1:=hp.states; have g2:=hp.messages; have g3:=hp.values; have g4:=hp.dV; have g5:=hp.initial; have g6:=hp.leader; have g7:=hp.rules
 refine ay.of Bd.gJ (by simp) rfl rfl ?_
 conv=>whnf
 refine ah.pure (S.eH p.name) rfl ?_
 conv=>whnf
 refine⟨fun h1=>?_,fun h1=>?_⟩
 ·conv=>whnf
  exact aB.int (by rw[dU,h1]; rfl)
 conv=>whnf
 repeat(refine VC.mk (by first|exact id|(intro h; rw[h]; rfl)) ?_; conv=>whnf)
 refine⟨fun h2=>?_,fun h2=>?_⟩
 ·conv=>whnf
  exact aB.int (by rw[dU,h1,show tu p=true from h2]; rfl)
 conv=>whnf
 refine⟨fun h3=>?_,fun h3=>?_⟩
 ·conv=>whnf
  exact aB.int (by rw[dU,h1,show tu p=false from h2,h3]; rfl)
 conv=>whnf
 repeat(refine VC.mk (by first|exact id|(intro h; rw[h]; rfl)) ?_; conv=>whnf)
 refine⟨fun h4=>?_,fun h4=>?_⟩
 ·conv=>whnf
  exact aB.int (by rw[dU,h1,show tu p=false from h2,h3,show uT p=true from h4]; rfl)
 conv=>whnf
 have h0:0<p.states.length:=by
  rcases Nat.eq_zero_or_pos p.states.length with e|e
  ·rw[e] at h3; exact absurd h3 (by decide)
  ·exact e
 refine ah.pure (S.lK p h0 g1 g2 g3) rfl ?_
 conv=>whnf
 refine⟨fun h5=>?_,fun h5=>?_⟩
 ·conv=>whnf
  exact aB.int (by rw[dU,h1,show tu p=false from h2,h3,show uT p=false from h4,h5]; rfl)
 conv=>whnf
 repeat(refine VC.mk (by first|exact id|(intro h; rw[h]; rfl)|(intro h; simp_all; done)) ?_; conv=>whnf)
 refine⟨fun h6=>?_,fun h6=>?_⟩
 ·conv=>whnf
  exact aB.int (by rw[dU,h1,show tu p=false from h2,h3,show uT p=false from h4,h5,show Sv p=true from h6]; rfl)
 conv=>whnf
 refine aY.same [1,4,111,112] (fun i:Nat=>[(113,.int i)]) (fun i=>i<=p.dV.length/\(p.dV.take i).any (fun l=> !(RZ l))=false) (fun i=>p.dV.length-i) 0 rfl (by decide) rfl (fun _=>rfl) ⟨by omega,by simp⟩ ⟨⟨_,rfl,rfl⟩,trivial⟩ ?_
 conv=>whnf
 refine⟨rfl,?_⟩
 rintro i ⟨hi,hall⟩
 conv=>whnf
 refine⟨fun h7=>?_,fun h7=>?_⟩
 ·have hi':i<p.dV.length:=by simpa using h7
  conv=>whnf
  refine .mk (by simp only[Rw.rng] at *; first|omega|(simp_all; done)|(simp_all; omega)) ?_
  conv=>whnf
  refine ah.pure (S.iP (p.dV.getD i default)) rfl ?_
  conv=>whnf
  refine⟨fun h8=>?_,fun h8=>?_⟩
  ·conv=>whnf
   exact aB.int (by rw[dU,h1,show tu p=false from h2,h3,show uT p=false from h4,h5,show Sv p=false from h6,uV (d:=default) hi' h8]; rfl)
  ·conv=>whnf
   refine .mk (by simp only[okI] at *; first|omega|(simp_all; done)|(simp_all; omega)) ?_
   conv=>whnf
   refine⟨i+1,⟨by omega,?_⟩,by omega,⟨⟨_,rfl,rfl⟩,trivial⟩,?_,rfl⟩
   ·rw[zJ (d:=default) hi' hall]; exact h8
   ·repeat' (first|exact trivial|exact⟨_,rfl,rfl⟩|constructor)
 have hi':p.dV.length<=i:=by simpa using h7
 rw[List.take_of_length_le hi'] at hall
 conv=>whnf
 refine ah.pure (S.dF p.initial p.states.length false (by omega)) rfl ?_
 conv=>whnf
 refine ah.pure (S.bG ((p.initial.length:Int)==0) 1) rfl ?_
 conv=>whnf
 refine ah.pure (S.dF p.leader p.states.length false (by omega)) rfl ?_
 conv=>whnf
 refine ah.pure (S.bD [iD p.initial p.states.length,fA ((p.initial.length:Int)==0) 1,iD p.leader p.states.length] true (show 3<2^40 by decide)) rfl ?_
 conv=>whnf
 refine⟨fun h9=>?_,fun h9=>?_⟩
 ·conv=>whnf
  exact aB.int (by rw[dU,h1,show tu p=false from h2,h3,show uT p=false from h4,h5,show Sv p=false from h6,hall,show(GH p !=0)=true from h9]; rfl)
 conv=>whnf
 refine aY.same [1,140,141] (fun i:Nat=>[(142,.int i)]) (fun i=>i<=p.rules.length/\Ed p=bJ (((List.range p.rules.length).drop i).map (jL p))) (fun i=>p.rules.length-i) 0 rfl (by decide) rfl (fun _=>rfl) ⟨by omega,by simp[Ed]⟩ ⟨⟨_,rfl,rfl⟩,trivial⟩ ?_
 conv=>whnf
 refine⟨rfl,?_⟩
 rintro i ⟨hi,hr⟩
 conv=>whnf
 refine⟨fun h10=>?_,fun h10=>?_⟩
 ·have hi':i<p.rules.length:=by simpa using h10
  rw[Ou hi'] at hr
  simp only[bJ] at hr
  conv=>whnf
  refine ah.pure (S.jf p i hi' hp) rfl ?_
  conv=>whnf
  refine⟨fun h11=>?_,fun h11=>?_⟩
  ·conv=>whnf
   have Zv:jL p i≠0:=Xr h11
   rw[if_neg Zv] at hr
   exact aB.int (by rw[dU,h1,show tu p=false from h2,h3,show uT p=false from h4,h5,show Sv p=false from h6,hall,show(GH p !=0)=false from h9,hr,h11]; rfl)
  ·conv=>whnf
   refine .mk (by simp only[okI] at *; first|omega|(simp_all; done)|(simp_all; omega)) ?_
   conv=>whnf
   have Zv:jL p i=0:=JW h11
   rw[if_pos Zv] at hr
   refine⟨i+1,⟨by omega,hr⟩,by omega,⟨⟨_,rfl,rfl⟩,trivial⟩,?_,rfl⟩
   repeat' (first|exact trivial|exact⟨_,rfl,rfl⟩|constructor)
 have hi':p.rules.length<=i:=by simpa using h10
 rw[List.drop_eq_nil_of_le (by simpa using hi')] at hr
 conv=>whnf
 refine ah.pure (S.iG p hp) rfl ?_
 conv=>whnf
 refine ah.pure (S.bG (decide (((AU p.rules).length:Int)>3)) 4) rfl ?_
 conv=>whnf
 exact aB.int (by rw[dU,h1,show tu p=false from h2,h3,show uT p=false from h4,h5,show Sv p=false from h6,hall,show(GH p !=0)=false from h9,hr]; rfl)
theorem aB.eqv{a b:V}{h:Hz}(e:a.aI=b.aI):aB a b h:=⟨by rw[e]; exact aC _⟩
def aaM(acc:Bool)(r:Rule):Bool:=acc&&(r.kind==1)&&decide (r.fr<r.to)&&((r.ex.length:Int)==0)&&((r.all.length:Int)==0)
def aaN(acc:Bool)(r:Rule):Bool:=acc||decide ((r.all.length:Int)>0)
def Ba(p:aX):Bool:=(p.topology==1)&&(p.fault==0)&&((p.messages.length:Int)==0)&&((p.dV.length:Int)==0)
structure Cls where
 Sz:Bool
 cover:Bool
 word:Bool
 tree:Bool
 monadic:Bool
def kC(p:aX):Cls :=
 ⟨(p.topology==1)&&((p.values.length:Int)==0)&&p.rules.foldl aaM true,Ba p&& !(p.rules.foldl aaN false),(p.topology==2)||(p.topology==3),p.topology==4,Ba p&&decide ((p.states.length:Int)<=4)⟩
def abt(c:Cls):V:=.agg [.bool c.Sz,.bool c.cover,.bool c.word,.bool c.tree,.bool c.monadic]
def JZ:Cls:=⟨false,false,false,false,false⟩
def Ov(p:aX):V:=.fU [abt (bif dU p !=0 then JZ else kC p),.int (dU p)]
theorem S.gK(p:aX)(hp:dP p):ay Tryd.prog 49 [.dat (.eG p)] (Ov p):=by
 have g1:=hp.states; have g2:=hp.messages; have g3:=hp.values; have g4:=hp.dV; have g7:=hp.rules
 refine ay.of Bd.gK (by simp) rfl rfl ?_
 conv=>whnf
 refine ah.pure (S.gJ p hp) rfl ?_
 conv=>whnf
 refine⟨fun h1=>?_,fun h1=>?_⟩
 ·conv=>whnf
  refine aB.eqv ?_
  rw[Ov,h1]; rfl
 have h1':dU p=0:=JW h1
 conv=>whnf
 refine aY.same [1,2,3,18,19] (fun i:Nat=>[(20,.int i),(5,.bool ((p.rules.take i).foldl aaM true)),(6,.bool ((p.rules.take i).foldl aaN false))]) (fun i=>i<=p.rules.length) (fun i=>p.rules.length-i) 0 rfl (by decide) rfl (fun _=>rfl) (Nat.zero_le _) ⟨⟨_,rfl,rfl⟩,⟨_,rfl,rfl⟩,⟨_,rfl,rfl⟩,trivial⟩ ?_
 conv=>whnf
 refine⟨rfl,?_⟩
 rintro i hi
 have g8:=hp.rule i
 have g9:=g8.ex; have g10:=g8.all
 conv=>whnf
 refine⟨fun h7=>?_,fun h7=>?_⟩
 ·have hi':i<p.rules.length:=by simpa using h7
  conv=>whnf
  repeat(refine VC.mk (by first|exact id|exact fun h=>⟨h,h⟩|(intro h; rw[h]; rfl)|(simp only[okI,Rw.rng] at *; first|omega|(simp_all; done)|(simp_all; omega))) ?_; conv=>whnf)
  refine⟨i+1,by omega,by omega,⟨⟨_,rfl,rfl⟩,⟨_,rfl,?_⟩,⟨_,rfl,?_⟩,trivial⟩,?_,rfl⟩
  ·rw[FX (d:=default) hi']; rfl
  ·rw[FX (d:=default) hi']; rfl
  ·repeat' (first|exact trivial|exact⟨_,rfl,rfl⟩|constructor)
 have hi':p.rules.length<=i:=by simpa using h7
 rw[List.take_of_length_le hi']
 conv=>whnf
 repeat(refine VC.mk (by first|exact id|(intro h; rw[h]; rfl)) ?_; conv=>whnf)
 refine aB.eqv ?_
 rw[Ov,h1']
 rfl
def xJ(r:Rule)(t:Int):Bool :=
 bif !(r.kind==1)&&(decide ((r.guards.length:Int)>0)||decide ((r.ex.length:Int)>0)||decide ((r.all.length:Int)>0)||decide ((r.send.length:Int)>0)) then true else
 bif !(r.kind==1)&& !(r.kind==2)&& !(r.kind==3)&&(r.read != -1||r.write != -1) then true else
 bif !(r.kind==2)&& !(r.kind==5)&&(r.jw !=0||r.Dj !=0) then true else
 bif (!(r.kind==3)&&decide ((r.response.length:Int)>0))||(!(r.kind==5)&&r.direction !=0) then true else
 bif !(r.kind==4)&&(r.pos !=0||decide ((r.left.length:Int)>0)||decide ((r.right.length:Int)>0)) then true else
 decide ((r.parent.length:Int)>0)&& !((r.kind==4)&&(t==4))
theorem gt0{n:Nat}:decide ((n:Int)>0)= !(n==0):=by
 cases n with
 |zero=>rfl
 |succ n=>rw[decide_eq_true (by omega)]; rfl
theorem abu(a b c d e f g h:Nat):decide ((a:Int)+b+c+d+e+f+g+h>0)=(!(a==0)|| !(b==0)|| !(c==0)|| !(d==0)|| !(e==0)|| !(f==0)|| !(g==0)|| !(h==0)):=by
 rw[Bool.eq_iff_iff]
 simp only[decide_eq_true_eq,Bool.or_eq_true,Bool.not_eq_true',beq_eq_false_iff_ne,ne_eq]
 omega
theorem Ee{r:Rule}{t:Int}(h:1<=r.kind/\r.kind<=5):xJ r t=kQ r t:=by
 have hk:r.kind=1\/r.kind=2\/r.kind=3\/r.kind=4\/r.kind=5:=by omega
 simp only[xJ,kQ,zB,gt0,abu,bne]
 generalize (r.guards.length==0)=g1
 generalize (r.ex.length==0)=g2
 generalize (r.all.length==0)=g3
 generalize (r.send.length==0)=g4
 generalize (r.response.length==0)=g5
 generalize (r.left.length==0)=g6
 generalize (r.right.length==0)=g7
 generalize (r.parent.length==0)=g8
 generalize (r.read== -1)=g9
 generalize (r.write== -1)=g10
 generalize (r.jw==0)=g11
 generalize (r.Dj==0)=g12
 generalize (r.direction==0)=g13
 generalize (r.pos==0)=g14
 rcases hk with hk|hk|hk|hk|hk<;>rw[hk] <;>
  (first
   |(simp; done)
   |(cases (t==4)<;>simp<;>grind)
   |(simp; grind))
end Go.Proofs.YtifbibbicplneaaDoor
