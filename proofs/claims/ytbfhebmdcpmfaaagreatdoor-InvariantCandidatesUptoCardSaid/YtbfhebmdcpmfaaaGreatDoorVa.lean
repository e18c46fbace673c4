/-
 A part of the proof. No condition.
-/
import Derived.Test.YtbfhebmdcpmfaaaGreatDoorNb
import Derived.Test.YtbfhebmdcpmfaaaGreatDoorLf
namespace Go.Proofs.YtbfhebmdcpmfaaaGreatDoor
open Go.Ab Go.Proofs
set_option maxRecDepth 100000
def dU(b:Bool)(e:Int):Int:=bif b then e else 0
theorem S.bM(b:Bool)(e:Int):au Tryz.prog 83 [.bool b,.int e] (.int (dU b e)):=by
 refine au.of Bd.bM (by simp) rfl rfl ?_
 conv=>whnf
 refine⟨fun h=>?_,fun h=>?_⟩
 ·conv=>whnf
  exact aA.int (by rw[h]; rfl)
 ·conv=>whnf
  exact aA.int (by rw[h]; rfl)
def nI(i n:Int):Bool:=decide (i<0)||decide (i>=n)
def bT(i n:Int):Int:=dU (nI i n) 5
theorem S.bP(i n:Int):au Tryz.prog 113 [.int i,.int n] (.int (bT i n)):=by
 refine au.of Bd.bP (by simp) rfl rfl ?_
 conv=>whnf
 repeat(refine VC.mk (by first|exact fun h=>⟨h,h⟩|(intro h; rw[h]; rfl)) ?_; conv=>whnf)
 refine ah.pure (S.bM (nI i n) 5) rfl ?_
 conv=>whnf
 exact aA.int rfl
def aQ:List Int->Int
 |[]=>0
 |e::r=>if e=0 then aQ r else e
theorem S.bI(l:List Int)(f:Bool)(hl:l.length<2^40):au Tryz.prog 81 [.row 0 f (.ints l)] (.int (aQ l)):=by
 refine au.of Bd.bI (by simp) rfl rfl ?_
 conv=>whnf
 refine aJ.same [5,6] (fun i:Nat=>[(7,.int i)]) (fun i=>i<=l.length/\aQ l=aQ (l.drop i)) (fun i=>l.length-i) 0 rfl (by decide) rfl (fun _=>rfl) ⟨by omega,by simp⟩ ⟨⟨_,rfl,rfl⟩,trivial⟩ ?_
 conv=>whnf
 refine⟨rfl,?_⟩
 rintro i ⟨hi,hall⟩
 conv=>whnf
 refine⟨fun h3=>?_,fun h3=>?_⟩
 ·have hi':i<l.length:=by simpa using h3
  rw[bg 0 hi'] at hall
  simp only[aQ] at hall
  conv=>whnf
  refine .mk (by simp only[Rw.rng] at *; omega) ?_
  conv=>whnf
  refine⟨fun h4=>?_,fun h4=>?_⟩
  ·conv=>whnf
   refine aA.int ?_
   have:l.getD i 0≠0:=by simpa using h4
   rw[hall,if_neg this]; rfl
  ·conv=>whnf
   refine .mk (by simp only[okI] at *; omega) ?_
   conv=>whnf
   have:l.getD i 0=0:=by simpa using h4
   rw[if_pos this] at hall
   refine⟨i+1,⟨by omega,hall⟩,by omega,⟨⟨_,rfl,rfl⟩,trivial⟩,?_,rfl⟩
   repeat' (first|exact trivial|exact⟨_,rfl,rfl⟩|constructor)
 ·conv=>whnf
  refine aA.int ?_
  have hi':l.length<=i:=by simpa using h3
  rw[hall,List.drop_eq_nil_of_le hi']; rfl
def xI:List Int->Bool
 |a::b::r=>decide (a<b)&&xI (b::r)
 |_=>true
def eF(l:List Int)(n:Int):Int:=bif l.any (fun i=>nI i n) then 5 else bif xI l then 0 else 1
theorem S.dJ(l:List Int)(n:Int)(f:Bool)(hl:l.length<2^40):au Tryz.prog 82 [.row 0 f (.ints l),.int n] (.int (eF l n)):=by
 refine au.of Bd.dJ (by simp) rfl rfl ?_
 conv=>whnf
 refine aJ.same [0,1,8,9] (fun i:Nat=>[(10,.int i)]) (fun i=>i<=l.length/\(l.take i).any (fun i=>nI i n)=false) (fun i=>l.length-i) 0 rfl (by decide) rfl (fun _=>rfl) ⟨by omega,by simp⟩ ⟨⟨_,rfl,rfl⟩,trivial⟩ ?_
 conv=>whnf
 refine⟨rfl,?_⟩
 rintro i ⟨hi,hall⟩
 conv=>whnf
 refine⟨fun h3=>?_,fun h3=>?_⟩
 ·have hi':i<l.length:=by simpa using h3
  conv=>whnf
  repeat(refine VC.mk (by first|exact fun h=>⟨h,h⟩|(intro h; rw[h]; rfl)|(simp only[Rw.rng] at *; omega)) ?_; conv=>whnf)
  refine⟨fun h4=>?_,fun h4=>?_⟩
  ·conv=>whnf
   refine aA.int ?_
   rw[eF,nT (d:=0) hi' h4]; rfl
  ·conv=>whnf
   refine .mk (by simp only[okI] at *; omega) ?_
   conv=>whnf
   refine⟨i+1,⟨by omega,?_⟩,by omega,⟨⟨_,rfl,rfl⟩,trivial⟩,?_,rfl⟩
   ·rw[qN (d:=0) hi' hall]; exact h4
   ·repeat' (first|exact trivial|exact⟨_,rfl,rfl⟩|constructor)
 ·have hi':l.length<=i:=by simpa using h3
  rw[List.take_of_length_le hi'] at hall
  conv=>whnf
  refine aJ.same [0] (fun i:Nat=>[(7,.int (i+1))]) (fun i=>(i<l.length\/i=0)/\xI l=xI (l.drop i)) (fun i=>l.length-i) 0 rfl (by decide) rfl (fun _=>rfl) ⟨by omega,by simp⟩ ⟨⟨_,rfl,rfl⟩,trivial⟩ ?_
  conv=>whnf
  refine⟨rfl,?_⟩
  rintro i ⟨hi,hinc⟩
  conv=>whnf
  refine⟨fun h5=>?_,fun h5=>?_⟩
  ·have hi1:i+1<l.length:=by have:=of_decide_eq_true h5; omega
   rw[bg 0 (show i<l.length by omega),bg 0 hi1] at hinc
   simp only[xI] at hinc
   rw[<- bg 0 hi1] at hinc
   conv=>whnf
   repeat(refine VC.mk (by simp only[okI,Rw.rng] at *; omega) ?_; conv=>whnf)
   refine⟨fun h6=>?_,fun h6=>?_⟩
   ·conv=>whnf
    refine aA.int ?_
    have e1:((i:Int)+1).toNat=i+1:=by omega
    have e2:((i:Int)+1-1).toNat=i:=by omega
    rw[e1,e2] at h6
    have h6':l.getD (i+1) 0<=l.getD i 0:=of_decide_eq_true h6
    rw[eF,hall,hinc,decide_eq_false (by omega)]; rfl
   ·conv=>whnf
    refine .mk (by simp only[okI] at *; omega) ?_
    conv=>whnf
    have e1:((i:Int)+1).toNat=i+1:=by omega
    have e2:((i:Int)+1-1).toNat=i:=by omega
    rw[e1,e2] at h6
    have h6': ¬ l.getD (i+1) 0<=l.getD i 0:=of_decide_eq_false h6
    rw[decide_eq_true (by omega),Bool.true_and] at hinc
    refine⟨i+1,⟨by omega,hinc⟩,by omega,⟨⟨_,rfl,rfl⟩,trivial⟩,?_,rfl⟩
    repeat' (first|exact trivial|exact⟨_,rfl,rfl⟩|constructor)
  ·conv=>whnf
   refine aA.int ?_
   have h5': ¬ ((i:Int)+1<l.length):=of_decide_eq_false h5
   have:xI l=true:=by
    rw[hinc]
    rcases hd:l.drop i with _|⟨a,_|⟨b,r⟩⟩
    ·rfl
    ·rfl
    ·have:=congrArg List.length hd
     simp only[List.length_drop,List.length_cons] at this
     omega
   rw[eF,hall,this]; rfl
def Wq(n:Int):Bool:=decide (n>= -100)&&decide (n<=100)
theorem S.gu(n:Int):au Tryz.prog 108 [.int n] (.bool (Wq n)):=by
 refine au.of Bd.gu (by simp) rfl rfl ?_
 conv=>whnf
 repeat(refine VC.mk id ?_; conv=>whnf)
 exact aA.bool rfl
def MV(l:XK):Bool:=Wq l.c&&Wq l.n&&Wq l.t&&Wq l.f
theorem S.jf(l:XK):au Tryz.prog 80 [.dat (.lin l)] (.bool (MV l)):=by
 refine au.of Bd.jf (by simp) rfl rfl ?_
 conv=>whnf
 refine ah.pure (S.gu l.c) rfl ?_
 conv=>whnf
 repeat(refine VC.mk id ?_; conv=>whnf)
 refine ah.gZ (fun _=>S.gu l.n) rfl ?_
 conv=>whnf
 repeat(refine VC.mk id ?_; conv=>whnf)
 refine ah.gZ (fun _=>S.gu l.t) rfl ?_
 conv=>whnf
 repeat(refine VC.mk id ?_; conv=>whnf)
 refine ah.gZ (fun _=>S.gu l.f) rfl ?_
 conv=>whnf
 refine VC.mk id ?_
 conv=>whnf
 exact aA.bool rfl
def jk(p:aW)(v:Int):Int:=dU (decide (v< -1)||decide (v>=p.values.length)) 5
theorem S.fB(p:aW)(v:Int):au Tryz.prog 115 [.dat (.dw p),.int v] (.int (jk p v)):=by
 refine au.of Bd.fB (by simp) rfl rfl ?_
 conv=>whnf
 repeat(refine VC.mk (by first|exact id|exact fun h=>⟨h,h⟩|(intro h; rw[h]; rfl)) ?_; conv=>whnf)
 refine ah.pure (S.bM _ 5) rfl ?_
 conv=>whnf
 exact aA.int rfl
theorem Iy{a:Int}(h:(a !=0)=true):a≠0:=by simpa using h
theorem yX{a:Int}(h:(a !=0)=false):a=0:=by simpa using h
def rO(k t:Int):Bool:=bif k==1||k==2||k==3 then t==1 else bif k==4||k==5 then !(t==1) else false
theorem S.nN(k t:Int):au Tryz.prog 111 [.int k,.int t] (.bool (rO k t)):=by
 refine au.of Bd.nN (by simp) rfl rfl ?_
 conv=>whnf
 refine⟨fun h1=>?_,fun h1=>?_⟩
 ·conv=>whnf
  refine Fork.mk (fun _=>?_) (fun q=>absurd (q.symm.trans (h1)) Bool.false_ne_true)
  conv=>whnf
  exact aA.bool (by simp[rO,h1])
 ·conv=>whnf
  refine⟨fun h2=>?_,fun h2=>?_⟩
  ·conv=>whnf
   refine Fork.mk (fun _=>?_) (fun q=>absurd (q.symm.trans (h2)) Bool.false_ne_true)
   conv=>whnf
   exact aA.bool (by simp[rO,h1,h2])
  ·conv=>whnf
   refine⟨fun h3=>?_,fun h3=>?_⟩
   ·conv=>whnf
    exact aA.bool (by simp[rO,h1,h2,h3])
   ·conv=>whnf
    refine⟨fun h4=>?_,fun h4=>?_⟩
    ·conv=>whnf
     refine Fork.mk (fun _=>?_) (fun q=>absurd (q.symm.trans (h4)) Bool.false_ne_true)
     conv=>whnf
     exact aA.bool (by simp[rO,h1,h2,h3,h4,bne])
    ·conv=>whnf
     refine⟨fun h5=>?_,fun h5=>?_⟩
     ·conv=>whnf
      exact aA.bool (by simp[rO,h1,h2,h3,h4,h5,bne])
     ·conv=>whnf
      exact aA.bool (by simp[rO,h1,h2,h3,h4,h5])
def nS:List Int->Int->Int
 |[],_=>0
 |x::r,n=>if bT x n=0 then nS r n else bT x n
def Bh(l:List Int)(n:Int):Int:=bif (l.length:Int) !=n then 1 else nS l n
theorem S.jB(l:List Int)(n:Int)(f:Bool)(hl:l.length<2^40):au Tryz.prog 116 [.row 0 f (.ints l),.int n] (.int (Bh l n)):=by
 refine au.of Bd.jB (by simp) rfl rfl ?_
 conv=>whnf
 refine⟨fun h=>?_,fun h=>?_⟩
 ·conv=>whnf
  exact aA.int (by rw[Bh,h]; rfl)
 ·conv=>whnf
  refine aJ.same [0,1,12,13] (fun i:Nat=>[(14,.int i)]) (fun i=>i<=l.length/\nS l n=nS (l.drop i) n) (fun i=>l.length-i) 0 rfl (by decide) rfl (fun _=>rfl) ⟨by omega,by simp⟩ ⟨⟨_,rfl,rfl⟩,trivial⟩ ?_
  conv=>whnf
  refine⟨rfl,?_⟩
  rintro i ⟨hi,hall⟩
  conv=>whnf
  refine⟨fun h3=>?_,fun h3=>?_⟩
  ·have hi':i<l.length:=by simpa using h3
   rw[bg 0 hi'] at hall
   simp only[nS] at hall
   conv=>whnf
   refine .mk (by simp only[Rw.rng] at *; omega) ?_
   conv=>whnf
   refine ah.pure (S.bP (l.getD i 0) n) rfl ?_
   conv=>whnf
   refine⟨fun h4=>?_,fun h4=>?_⟩
   ·conv=>whnf
    refine aA.int ?_
    have:bT (l.getD i 0) n≠0:=by simpa using h4
    rw[Bh,h,cond_false,hall,if_neg this]
   ·conv=>whnf
    refine .mk (by simp only[okI] at *; omega) ?_
    conv=>whnf
    have:bT (l.getD i 0) n=0:=by simpa using h4
    rw[if_pos this] at hall
    refine⟨i+1,⟨by omega,hall⟩,by omega,⟨⟨_,rfl,rfl⟩,trivial⟩,?_,rfl⟩
    repeat' (first|exact trivial|exact⟨_,rfl,rfl⟩|constructor)
  ·conv=>whnf
   refine aA.int ?_
   have hi':l.length<=i:=by simpa using h3
   rw[Bh,h,cond_false,hall,List.drop_eq_nil_of_le hi']; rfl
def guardE(p:aW)(g:xK):Int:=aQ [bT g.message p.messages.length,dU (decide (g.BZ<1)||decide (g.BZ>100)) 1,dU (!(MV g.bound)) 4]
def jF(p:aW):List xK->Int
 |[]=>0
 |g::r=>if guardE p g=0 then jF p r else guardE p g
def uM(p:aW)(l:List xK):Int:=if jF p l=0 then dU (decide ((l.length:Int)>2)) 4 else jF p l
theorem S.lI(p:aW)(l:List xK)(f:Bool)(hl:l.length<2^40):au Tryz.prog 114 [.dat (.dw p),.row 7 f (.oW l)] (.int (uM p l)):=by
 refine au.of Bd.lI (by simp) rfl rfl ?_
 conv=>whnf
 refine aJ.same [1,2,8,9] (fun i:Nat=>[(10,.int i)]) (fun i=>i<=l.length/\jF p l=jF p (l.drop i)) (fun i=>l.length-i) 0 rfl (by decide) rfl (fun _=>rfl) ⟨by omega,by simp⟩ ⟨⟨_,rfl,rfl⟩,trivial⟩ ?_
 conv=>whnf
 refine⟨rfl,?_⟩
 rintro i ⟨hi,hall⟩
 conv=>whnf
 refine⟨fun h3=>?_,fun h3=>?_⟩
 ·have hi':i<l.length:=by simpa using h3
  rw[bg default hi'] at hall
  simp only[jF] at hall
  conv=>whnf
  refine .mk (by simp only[Rw.rng] at *; omega) ?_
  conv=>whnf
  refine ah.pure (S.bP (l.getD i default).message p.messages.length) rfl ?_
  conv=>whnf
  repeat(refine VC.mk (by first|exact id|(intro h; rw[h]; rfl)) ?_; conv=>whnf)
  refine ah.pure (S.bM (decide ((l.getD i default).BZ<1)||decide ((l.getD i default).BZ>100)) 1) rfl ?_
  conv=>whnf
  refine ah.pure (S.jf (l.getD i default).bound) rfl ?_
  conv=>whnf
  refine ah.pure (S.bM (!(MV (l.getD i default).bound)) 4) rfl ?_
  conv=>whnf
  refine ah.pure (S.bI [bT (l.getD i default).message p.messages.length,dU (decide ((l.getD i default).BZ<1)||decide ((l.getD i default).BZ>100)) 1,dU (!(MV (l.getD i default).bound)) 4] true (show 3<2^40 by decide)) rfl ?_
  conv=>whnf
  refine⟨fun h4=>?_,fun h4=>?_⟩
  ·conv=>whnf
   refine aA.int ?_
   have h4':guardE p (l.getD i default)≠0:=Iy h4
   rw[if_neg h4'] at hall
   rw[uM,hall,if_neg h4']; rfl
  ·conv=>whnf
   refine .mk (by simp only[okI] at *; omega) ?_
   conv=>whnf
   have h4':guardE p (l.getD i default)=0:=yX h4
   rw[if_pos h4'] at hall
   refine⟨i+1,⟨by omega,hall⟩,by omega,⟨⟨_,rfl,rfl⟩,trivial⟩,?_,rfl⟩
   repeat' (first|exact trivial|exact⟨_,rfl,rfl⟩|constructor)
 ·have hi':l.length<=i:=by simpa using h3
  rw[List.drop_eq_nil_of_le hi'] at hall
  conv=>whnf
  refine ah.pure (S.bM (decide ((l.length:Int)>2)) 4) rfl ?_
  conv=>whnf
  exact aA.int (by rw[uM,hall]; rfl)
structure uN(r:Rule):Prop where
 response:r.response.length<2^30
 guards:r.guards.length<2^30
 ex:r.ex.length<2^30
 all:r.all.length<2^30
 send:r.send.length<2^30
 left:r.left.length<2^30
 right:r.right.length<2^30
 parent:r.parent.length<2^30
def AZ(r:Rule):Bool :=
 decide ((r.response.length:Int)+r.guards.length+r.ex.length+r.all.length+r.send.length+r.left.length+r.right.length+r.parent.length>0)||r.iY !=0||r.Bc !=0||r.pos !=0||r.direction !=0||r.read != -1||r.write != -1
def jT(r:Rule)(t:Int):Bool :=
 bif r.kind==1 then AZ {r with guards:=[],ex:=[],all:=[],send:=[],read:= -1,write:= -1} else
 bif r.kind==2 then(bif decide ((r.response.length:Int)>0) then true else AZ {r with iY:=0,Bc:=0,response:=[],read:= -1,write:= -1}) else
 bif r.kind==3 then AZ {r with response:=[],read:= -1,write:= -1} else
 bif r.kind==4 then(bif t==4 then AZ {r with pos:=0,left:=[],right:=[],parent:=[]} else AZ {r with pos:=0,left:=[],right:=[]}) else
 bif r.kind==5 then AZ {r with iY:=0,Bc:=0,direction:=0} else AZ r
theorem S.kN(r:Rule)(t:Int)(hs:uN r):au Tryz.prog 112 [.dat (.rule r),.int t] (.bool (jT r t)):=by
 obtain⟨g1,g2,g3,g4,g5,g6,g7,g8⟩:=hs
 refine au.of Bd.kN (by simp) rfl rfl ?_
 conv=>whnf
 refine⟨fun h1=>?_,fun h1=>?_⟩
 ·conv=>whnf
  repeat(refine VC.mk (by first|exact id|(intro h; rw[h]; rfl)|(simp only[okI] at *; omega)) ?_; conv=>whnf)
  exact aA.bool (by simp[jT,AZ,h1])
 ·conv=>whnf
  refine⟨fun h2=>?_,fun h2=>?_⟩
  ·conv=>whnf
   refine⟨fun h6=>?_,fun h6=>?_⟩
   ·conv=>whnf
    exact aA.bool (by rw[jT,h1,h2,show decide ((r.response.length:Int)>0)=true from h6]; rfl)
   ·conv=>whnf
    repeat(refine VC.mk (by first|exact id|(intro h; rw[h]; rfl)|(simp only[okI] at *; omega)) ?_; conv=>whnf)
    exact aA.bool (by rw[jT,h1,h2,show decide ((r.response.length:Int)>0)=false from h6]; simp[AZ])
  ·conv=>whnf
   refine⟨fun h3=>?_,fun h3=>?_⟩
   ·conv=>whnf
    repeat(refine VC.mk (by first|exact id|(intro h; rw[h]; rfl)|(simp only[okI] at *; omega)) ?_; conv=>whnf)
    exact aA.bool (by simp[jT,AZ,h1,h2,h3])
   ·conv=>whnf
    refine⟨fun h4=>?_,fun h4=>?_⟩
    ·conv=>whnf
     refine⟨fun h7=>?_,fun h7=>?_⟩
     ·conv=>whnf
      repeat(refine VC.mk (by first|exact id|(intro h; rw[h]; rfl)|(simp only[okI] at *; omega)) ?_; conv=>whnf)
      exact aA.bool (by simp[jT,AZ,h1,h2,h3,h4,h7])
     ·conv=>whnf
      repeat(refine VC.mk (by first|exact id|(intro h; rw[h]; rfl)|(simp only[okI] at *; omega)) ?_; conv=>whnf)
      exact aA.bool (by simp[jT,AZ,h1,h2,h3,h4,h7])
    ·conv=>whnf
     refine⟨fun h5=>?_,fun h5=>?_⟩
     ·conv=>whnf
      repeat(refine VC.mk (by first|exact id|(intro h; rw[h]; rfl)|(simp only[okI] at *; omega)) ?_; conv=>whnf)
      exact aA.bool (by simp[jT,AZ,h1,h2,h3,h4,h5])
     ·conv=>whnf
      repeat(refine VC.mk (by first|exact id|(intro h; rw[h]; rfl)|(simp only[okI] at *; omega)) ?_; conv=>whnf)
      exact aA.bool (by simp[jT,AZ,h1,h2,h3,h4,h5])
def Ws(h:Hz):Hz->Prop
 |[]=>True
 |(i,o)::r=>h.get i=o/\Ws h r
theorem Tq{h:Hz}: ∀ {h0:Hz},Ws h h0-> ∀ {i:Nat} {o:OV},h0.get i=some o->h.get i=some o:=by
 intro h0
 induction h0 with
 |nil=>intro _ i o e; cases e
 |cons p r ih =>
  obtain⟨j,u⟩:=p
  intro hs i o e
  simp only[Hz.get] at e
  cases hb:Nat.beq j i with
  |true=>rw[hb] at e; simp only[cond_true] at e; rw[<- Nat.eq_of_beq_eq_true hb,hs.1,e]
  |false=>rw[hb] at e; exact ih hs.2 e
def Tt:Hz->Bool
 |[]=>true
 |(_,some o)::r=>o.Ii&&Tt r
 |(_,none)::r=>Tt r
theorem Nl: ∀ {h0:Hz},Tt h0=true-> ∀ {i:Nat} {o:OV},h0.get i=some o->o.Ii=true:=by
 intro h0
 induction h0 with
 |nil=>intro _ i o e; cases e
 |cons p r ih =>
  obtain⟨j,u⟩:=p
  intro hs i o e
  simp only[Hz.get] at e
  cases hb:Nat.beq j i with
  |true =>
   rw[hb] at e; simp only[cond_true] at e; subst e
   simp only[Tt,Bool.and_eq_true] at hs; exact hs.1
  |false =>
   rw[hb] at e
   refine ih ?_ e
   cases u with
   |none=>exact hs
   |some o=>simp only[Tt,Bool.and_eq_true] at hs; exact hs.2
theorem OV.Np{o:OV}(h:o.Ii=true):T.aO (fun _=>False) o.aC.l:=OV.Cj h
theorem jG.same{nx:Nat}{h0 h:Hz}{n:Nat}{post:T->Hp->Prop}{v:V}(hf:v.free=true)(hs:Ws h h0)(hg:uw nx h0=true)(hfr:Tt h0=true)(hp:post v.aG h0.aj):jG h0 n post v h:=by
 have hG:=nJ hg
 have get: ∀ i ob,h0.aj i=some ob-> ∃ o,h0.get i=some o/\ob=o.aC:=fun i ob e=>by
  simp only[Hz.aj,Option.map_eq_some_iff] at e
  obtain⟨o,e1,e2⟩:=e
  exact⟨o,e1,e2.symm⟩
 have hfree:=V.lg v hf
 refine⟨fun _=>False,id,v.aG,h0.aj,hp,?_,fun i ob hi=>?_,fun i j _ _ e=>e,T.bJ (fun _ h=>h.elim) _ (fV hfree),fun i ob hi=>?_,fun i _ _=>rfl⟩
 ·rw[GL]; exact ak _
 ·obtain⟨o,e1,rfl⟩:=get i ob hi
  refine⟨o.aC,aK (Tq hs e1),fun h=>h,rfl,rfl,?_,uX (hG i _ hi).2.2⟩
  rw[rY _ (OV.Np (Nl hfr e1))]; exact bC _
 ·obtain⟨o,e1,rfl⟩:=get i ob hi
  exact⟨.inl (by rw[hi]; rfl),T.ay (fun _ h=>h.elim) _ (OV.Np (Nl hfr e1))⟩
abbrev Yu(p:aW)(r:Rule):Hz:=[(7,some (.box 88 19 (.dat (.rule r)))),(0,some (.box 27 11 (.dat (.dw p))))]
theorem S.Ky(p:aW)(r x:Rule)(n:Nat):aP Tryz.prog 110 (V.aT [.dat (.rule x),.ptr 7 0 0]) (Yu p r).aj n (fun t hp=>t= .bool (x.name==r.name)/\hp=(Yu p r).aj):=by
 refine oK.of (nx:=8) Bd.lU (by simp) ⟨_,_,rfl,rfl⟩ rfl rfl ?_
 conv=>whnf
 exact jG.same (nx:=8) rfl ⟨rfl,rfl,trivial⟩ rfl rfl ⟨rfl,rfl⟩
def CP(s:Str):List Rule->Nat->Int
 |[],_=> -1
 |x::r,i=>bif x.name==s then(i:Int) else CP s r (i+1)
theorem S.Tv(p:aW)(r:Rule)(l:List Rule)(f:Bool)(hl:l.length<2^30)(n:Nat):aP Tryz.prog 133 (V.aT [.row 19 f (.rules l),.fn 110 [.ptr 7 0 0]]) (Yu p r).aj n (fun t hp=>t= .int (CP r.name l 0)/\hp=(Yu p r).aj):=by
 refine oK.of (nx:=8) Bd.fC (by simp) ⟨_,_,rfl,rfl⟩ rfl rfl ?_
 conv=>whnf
 refine aJ.same [0,1,6,7] (fun i:Nat=>[(8,.int i)]) (fun i=>i<=l.length/\CP r.name l 0=CP r.name (l.drop i) i) (fun i=>l.length-i) 0 rfl (by decide) rfl (fun _=>rfl) ⟨by omega,by simp⟩ ⟨⟨_,rfl,rfl⟩,trivial⟩ ?_
 conv=>whnf
 refine⟨rfl,?_⟩
 rintro i ⟨hi,hall⟩
 conv=>whnf
 refine⟨fun h3=>?_,fun h3=>?_⟩
 ·have hi':i<l.length:=by simpa using h3
  rw[bg default hi'] at hall
  simp only[CP] at hall
  conv=>whnf
  refine .mk (by simp only[Rw.rng] at *; omega) ?_
  conv=>whnf
  refine ah.heap (S.Ky p r (l.getD i default) _) ?_
  rintro t hp ⟨rfl,rfl⟩
  refine⟨.bool _,Yu p r,rfl,rfl,?_⟩
  conv=>whnf
  refine⟨fun h4=>?_,fun h4=>?_⟩
  ·conv=>whnf
   rw[h4] at hall
   exact jG.same (nx:=8) rfl ⟨rfl,rfl,trivial⟩ rfl rfl ⟨by rw[hall]; rfl,rfl⟩
  ·conv=>whnf
   refine .mk (by simp only[okI] at *; omega) ?_
   conv=>whnf
   rw[h4] at hall
   refine⟨i+1,⟨by omega,hall⟩,by omega,⟨⟨_,rfl,rfl⟩,trivial⟩,?_,rfl⟩
   repeat' (first|exact trivial|exact⟨_,rfl,rfl⟩|constructor)
 ·conv=>whnf
  have hi':l.length<=i:=by simpa using h3
  rw[List.drop_eq_nil_of_le hi'] at hall
  exact jG.same (nx:=8) rfl ⟨rfl,rfl,trivial⟩ rfl rfl ⟨by rw[hall]; rfl,rfl⟩
theorem Wu{s:Str}{l:List Rule}{i:Nat}:decide (0<=CP s l i)=l.any fun x=>x.name==s:=by
 have: ∀ {l:List Rule} {i:Nat},0<=CP s l i↔(l.any fun x=>x.name==s)=true:=by
  intro l
  induction l with
  |nil=>intro i; simp[CP]
  |cons x r ih =>
   intro i
   rw[List.any_cons,Bool.or_eq_true,<- ih (i:=i+1)]
   show(0:Int)<=(bif x.name==s then(i:Int) else CP s r (i+1))↔_
   generalize (x.name==s)=b
   cases b<;>simp
 rw[Bool.eq_iff_iff,decide_eq_true_eq]; exact this
theorem S.KA(p:aW)(r:Rule)(l:List Rule)(f:Bool)(hl:l.length<2^30)(n:Nat):aP Tryz.prog 109 (V.aT [.row 19 f (.rules l),.fn 110 [.ptr 7 0 0]]) (Yu p r).aj n (fun t hp=>t= .bool (l.any fun x=>x.name==r.name)/\hp=(Yu p r).aj):=by
 refine oK.of (nx:=8) Bd.dZ (by simp) ⟨_,_,rfl,rfl⟩ rfl rfl ?_
 conv=>whnf
 refine ah.heap (S.Tv p r l f hl _) ?_
 rintro t hp ⟨rfl,rfl⟩
 refine⟨.int _,Yu p r,rfl,rfl,?_⟩
 conv=>whnf
 exact jG.same (nx:=8) rfl ⟨rfl,rfl,trivial⟩ rfl rfl ⟨by rw[<- Wu (i:=0)]; rfl,rfl⟩
theorem ah.mkRow{P:Program}{f:FuncId}{args:List V}{h:Hz}{n ty k:Nat}{r:Rw}{K:V->Hz->Prop}{KW:Nat->V->Hz->Prop}(H:uZ P f (V.aT args) (fun n=>.own n) (some ⟨ty,k,r.aT⟩))(hK:K (.own n) ((n,some (.row ty k r []))::h)):ah P false none f args h n K KW :=
 ah.heap (uZ.frame H _ _) (by rintro t hp ⟨rfl,rfl⟩; exact⟨.own n,_,rfl,by rw[bD]; simp[nG,OV.aC,V.aT],hK⟩)
theorem S.Concat(a b c:List Str)(n:Nat)(h0:0<a.length)(ha:a.length<2^20)(hb:b.length<2^20)(hc:c.length<2^20) :
  aP Tryz.prog 106 (V.aT [.pR 0 false [.row 0 false (.strs a),.row 0 false (.strs b),.row 0 false (.strs c)]]) no n (fun t hp=>t= .own n/\hp=Hz.aj [(n,some (.row 9 0 (.strs (a++b++c)) []))]):=by
 refine oK.of (nx:=0) (h0:=[]) Bd.iQ (by simp) ⟨_,_,rfl,rfl⟩ rfl rfl ?_
 conv=>whnf
 refine aJ.times 4 rfl ?_
 conv=>whnf
 refine Fork.mk (fun _=>?_) (fun q=>absurd (q.symm.trans (rfl)) Bool.false_ne_true)
 conv=>whnf
 repeat(refine VC.mk (by first|(omega)|(simp only[okI] at *; omega)) ?_; conv=>whnf)
 refine Fork.mk (fun q=>absurd (q.symm.trans (decide_eq_false (by omega))).symm Bool.false_ne_true) (fun _=>?_)
 conv=>whnf
 refine .mk (by simp only[okI] at *; omega) ?_
 conv=>whnf
 refine Fork.mk (fun _=>?_) (fun q=>absurd (q.symm.trans (rfl)) Bool.false_ne_true)
 conv=>whnf
 repeat(refine VC.mk (by first|(omega)|(simp only[okI] at *; omega)) ?_; conv=>whnf)
 refine Fork.mk (fun q=>absurd (q.symm.trans (decide_eq_false (by omega))).symm Bool.false_ne_true) (fun _=>?_)
 conv=>whnf
 refine .mk (by simp only[okI] at *; omega) ?_
 conv=>whnf
 refine Fork.mk (fun _=>?_) (fun q=>absurd (q.symm.trans (rfl)) Bool.false_ne_true)
 conv=>whnf
 repeat(refine VC.mk (by first|(omega)|(simp only[okI] at *; omega)) ?_; conv=>whnf)
 refine Fork.mk (fun q=>absurd (q.symm.trans (decide_eq_false (by omega))).symm Bool.false_ne_true) (fun _=>?_)
 conv=>whnf
 refine .mk (by simp only[okI] at *; omega) ?_
 conv=>whnf
 refine Fork.mk (fun q=>absurd (q.symm.trans (rfl)).symm Bool.false_ne_true) (fun _=>?_)
 conv=>whnf
 have e:(0+(a.length:Int)+b.length+c.length)=((a.length+b.length+c.length:Nat):Int):=by omega
 rw[e]
 refine ah.mkRow (r:=.strs []) (S.Grow (a.length+b.length+c.length) (by omega) (by omega)) ?_
 conv=>whnf
 refine aJ.times 4 rfl ?_
 conv=>whnf
 refine Fork.mk (fun _=>?_) (fun q=>absurd (q.symm.trans (rfl)) Bool.false_ne_true)
 conv=>whnf
 repeat(refine VC.mk (by first|(omega)|(simp only[nH,ng,Rw.len,List.length_nil]; omega)|(simp only[okI] at *; omega)) ?_; conv=>whnf)
 refine Fork.mk (fun _=>?_) (fun q=>absurd (q.symm.trans (rfl)) Bool.false_ne_true)
 conv=>whnf
 repeat(refine VC.mk (by first|(omega)|(simp only[nH,ng,Rw.len,List.length_append,List.length_nil]; omega)|(simp only[okI] at *; omega)) ?_; conv=>whnf)
 refine Fork.mk (fun _=>?_) (fun q=>absurd (q.symm.trans (rfl)) Bool.false_ne_true)
 conv=>whnf
 repeat(refine VC.mk (by first|(omega)|(simp only[nH,ng,Rw.len,List.length_append,List.length_nil]; omega)|(simp only[okI] at *; omega)) ?_; conv=>whnf)
 refine Fork.mk (fun q=>absurd (q.symm.trans (rfl)).symm Bool.false_ne_true) (fun _=>?_)
 conv=>whnf
 refine jG.one (c:=n) (o:=.row 9 0 (.strs (a++b++c)) []) (t:=.own n) rfl rfl rfl nofun (.inr rfl) rfl (.eq rfl) ⟨rfl,rfl⟩
theorem S.Yv(a b c:List Str)(h0:0<a.length)(ha:a.length<2^20)(hb:b.length<2^20)(hc:c.length<2^20) :
  uZ Tryz.prog 106 (V.aT [.pR 0 false [.row 0 false (.strs a),.row 0 false (.strs b),.row 0 false (.strs c)]]) (fun n=>.own n) (some ⟨9,0,(Rw.strs (a++b++c)).aT⟩):=by
 refine⟨rfl,fun _=>rfl,(fun ob h=>by cases h; rw[gU]; intro t ht; obtain⟨x,_,rfl⟩:=List.mem_map.1 ht; rfl),(fun ob h=>by cases h; exact fun e=>absurd e (by decide:(0:Nat)≠fE)),fun n=>(S.Concat a b c n h0 ha hb hc).mono ?_⟩
 rintro t hp ⟨rfl,rfl⟩
 refine⟨rfl,?_⟩
 rw[bD]; simp[nG,OV.aC,V.aT]; rfl
theorem ah.Jy{P:Program}{f:FuncId}{args:List V}{ts:List T}{h:Hz}{n ty k:Nat}{r:Rw}{K:V->Hz->Prop}{KW:Nat->V->Hz->Prop}(H:uZ P f ts (fun n=>.own n) (some ⟨ty,k,r.aT⟩))(hs:T.cu (fun _=>True) h.aj ts (V.aT args))(hh:T.pK r.aT=true)(hK:K (.own n) ((n,some (.row ty k r []))::h)):ah P false none f args h n K KW :=
 ⟨.inl (uZ.lend H hs rfl (fun _ e=>by cases e; exact hh) ⟨.own n,_,rfl,by rw[bD]; simp[nG,OV.aC,V.aT],(fun e=>by cases e),hK⟩)⟩
theorem PG{h:Hz}{j ty:Nat}{Z:Nat->Prop}{l:List V}(hz:Z j)(q:h.get j=some (.row ty 0 .nil l))(hf:V.dD l=true):T.sub Z h.aj (V.pR 0 false l).aG (V.own j).aG:=by
 show T.sub Z h.aj (.sl 0 false (V.aT l)) (.own j)
 simp only[T.sub]
 exact⟨trivial,hz,V.gV l hf,by decide,ty,by rw[aK q]; rfl⟩
theorem Tz{l:List Str}:T.pK (Rw.strs l).aT=true:=by
 show T.pK (l.map eS)=true
 induction l with
 |nil=>rfl
 |cons s r ih=>simp only[List.map_cons,T.pK,ih]; rfl
theorem abX{h:Hz}{j i ty:Nat}{Z:Nat->Prop}{l:List Str}(hz:Z j)(q:h.get j=some (.row ty 0 (.strs l) []))(hi:i<=l.length):T.sub Z h.aj (V.row 0 false (.strs (l.take i))).aG (V.qh j 0 i).aG:=by
 show T.sub Z h.aj (.sl 0 false ((l.take i).map eS)) (.qh j 0 i)
 simp only[T.sub]
 refine⟨trivial,hz,?_,by decide,ty,l.map eS,?_,by simpa using hi,by simp[List.map_take]⟩
 ·rw[gU]; intro t ht; obtain⟨x,_,rfl⟩:=List.mem_map.1 ht; rfl
 ·rw[aK q]; simp[OV.aC,Rw.aT,V.aT]
def allNames(p:aW):List Str:=p.states++p.messages++p.values
def Ku(l:List Str)(i:Nat):Bool:= !(validName (l.getD i []))||(l.take i).any fun x=>l.getD i []==x
def xB(p:aW):Int:=bif (List.range (allNames p).length).any (Ku (allNames p)) then 2 else 0
theorem CU{n:Nat}{f:Nat->Bool}:(List.range n).any f=true↔ ∃ i,i<n/\f i=true:=by
 simp[List.any_eq_true]
theorem S.mV(p:aW)(h0:0<p.states.length)(h1:p.states.length<2^20)(h2:p.messages.length<2^20)(h3:p.values.length<2^20):au Tryz.prog 79 [.dat (.dw p)] (.int (xB p)):=by
 have hlen:(allNames p).length<2^30:=by simp only[allNames,List.length_append]; omega
 refine au.of Bd.mV (by simp) rfl rfl ?_
 conv=>whnf
 refine ah.Jy (r:=.strs (allNames p)) (S.Yv p.states p.messages p.values h0 h1 h2 h3) (And.intro (PG (ty:=22) trivial rfl rfl) trivial) Tz ?_
 conv=>whnf
 refine aJ.same [3,14,15] (fun i:Nat=>[(16,.int i)]) (fun i=>i<=(allNames p).length/\(List.range i).any (Ku (allNames p))=false) (fun i=>(allNames p).length-i) 0 rfl (by decide) rfl (fun _=>rfl) ⟨Nat.zero_le _,rfl⟩ ⟨⟨_,rfl,rfl⟩,trivial⟩ ?_
 conv=>whnf
 refine⟨rfl,?_⟩
 rintro i ⟨hi,hall⟩
 conv=>whnf
 refine⟨fun h4=>?_,fun h4=>?_⟩
 ·have hi':i<(allNames p).length:=by simpa using h4
  conv=>whnf
  repeat(refine VC.mk (by simp only[Rw.rng] at *; omega) ?_; conv=>whnf)
  refine ah.pure (S.fF ((allNames p).getD i [])) rfl ?_
  conv=>whnf
  repeat(refine VC.mk (by first|exact fun h=>⟨h,h⟩|(intro h; (repeat' apply And.intro)<;>first|exact h|omega|(simp only[Rw.pG]; omega)|(simp only[Rw.rng]; omega))) ?_; conv=>whnf)
  refine ah.Po (fun _=>S.slices_Contains_string ((allNames p).take i) ((allNames p).getD i []) false (by rw[List.length_take]; omega)) (fun _=>And.intro (abX (ty:=9) trivial rfl (by omega)) (And.intro (ak _) trivial)) rfl rfl ?_
  conv=>whnf
  refine .mk (by intro h; rw[h]; rfl) ?_
  conv=>whnf
  refine⟨fun h5=>?_,fun h5=>?_⟩
  ·conv=>whnf
   refine aA.int ?_
   rw[xB,CU.2 ⟨i,hi',h5⟩]; rfl
  ·conv=>whnf
   refine .mk (by simp only[okI] at *; omega) ?_
   conv=>whnf
   refine⟨i+1,⟨by omega,?_⟩,by omega,⟨⟨_,rfl,rfl⟩,trivial⟩,?_,rfl⟩
   ·rw[List.range_succ,List.any_append,hall]
    simp only[List.any_cons,List.any_nil,Bool.or_false,Bool.false_or]; exact h5
   ·repeat' (first|exact trivial|exact⟨_,rfl,rfl⟩|constructor)
 ·have hi':(allNames p).length<=i:=by simpa using h4
  have e:i=(allNames p).length:=Nat.le_antisymm hi hi'
  subst e
  conv=>whnf
  exact aA.int (by rw[xB,hall]; rfl)
theorem ah.abY{P:Program}{f:FuncId}{args:List V}{h:Hz}{hp0:Hp}{n:Nat}{K:V->Hz->Prop}{KW:Nat->V->Hz->Prop}{post:T->Hp->Prop}(S:aP P f (V.aT args) hp0 n post)(e:h.aj=hp0)(hK: ∀ t hp,post t hp-> ∃ v h',t=v.aG/\hp=Hz.aj h'/\K v h'):ah P false none f args h n K KW:=by
 subst e; exact ah.heap S hK
theorem Nq{i:Nat}{a b:Option OV}{r:Hz}:Hz.aj ((i,a)::(i,b)::r)=Hz.aj ((i,a)::r):=funext fun j=>by
 simp only[Hz.aj,Hz.get]; cases Nat.beq i j<;>rfl
structure dM(p:aW):Prop where
 states:p.states.length<2^20
 messages:p.messages.length<2^20
 values:p.values.length<2^20
 bQ:p.bQ.length<2^30
 initial:p.initial.length<2^30
 leader:p.leader.length<2^30
 rules:p.rules.length<2^30
 rule: ∀ i,uN (p.rules.getD i default)
 oW:(p.rules.flatMap Rule.guards).length<2^30
def pq(p:aW)(i:Nat):Bool:= !(validName (p.rules.getD i default).name)||(p.rules.take i).any fun x=>x.name==(p.rules.getD i default).name
def oH(p:aW)(i:Nat):Bool:= !(rO (p.rules.getD i default).kind p.topology)||jT (p.rules.getD i default) p.topology
def um(p:aW)(r:Rule):Int:=aQ [bT r.fr p.states.length,bT r.to p.states.length]
def V5(p:aW)(r:Rule):Bool:=decide (r.pos<0)||decide (r.pos>2)||(r.pos !=0&&p.topology==3)
def fQ(p:aW)(i:Nat):Int :=
 let r:=p.rules.getD i default
 let n:Int:=p.states.length
 bif pq p i then 2 else bif oH p i then 6 else bif um p r !=0 then um p r else
 bif r.kind==1 then aQ [uM p r.guards,eF r.ex n,eF r.all n,jk p r.read,jk p r.write,eF r.send p.messages.length] else
 bif r.kind==2 then aQ [bT r.iY n,bT r.Bc n,jk p r.read,jk p r.write] else
 bif r.kind==3 then aQ [Bh r.response n,jk p r.read,jk p r.write] else
 bif r.kind==4 then aQ [eF r.left n,eF r.right n,eF r.parent n,dU (V5 p r) 1] else
 bif p.topology==4 then aQ [bT r.iY n,bT r.Bc n,dU (decide (r.direction<3)||decide (r.direction>4)) 1]
 else aQ [bT r.iY n,bT r.Bc n,dU (decide (r.direction<1)||decide (r.direction>2)) 1]
theorem S.jA(p:aW)(i:Nat)(hi:i<p.rules.length)(hp:dM p):au Tryz.prog 84 [.dat (.dw p),.int i] (.int (fQ p i)):=by
 have hr:=hp.rule i
 have hp1:=hp.rules
 have hp2:=hp.states
 have hp3:=hp.messages
 refine au.of Bd.jA (by simp) rfl rfl ?_
 conv=>whnf
 repeat(refine VC.mk (by first|(simp only[Rw.pG]; omega)|(simp only[Rw.rng] at *; omega)) ?_; conv=>whnf)
 refine ah.abY (S.KA p (p.rules.getD i default) (p.rules.take i) false (by rw[List.length_take]; omega) _) Nq ?_
 rintro t hp' ⟨rfl,rfl⟩
 refine⟨.bool _,Yu p (p.rules.getD i default),rfl,rfl,?_⟩
 conv=>whnf
 refine ah.pure (S.fF (p.rules.getD i default).name) rfl ?_
 conv=>whnf
 refine .mk (by intro h; rw[h]; rfl) ?_
 conv=>whnf
 refine⟨fun h1=>?_,fun h1=>?_⟩
 ·conv=>whnf
  exact aA.int (by rw[fQ,show pq p i=true from h1]; rfl)
 ·conv=>whnf
  refine ah.pure (S.nN (p.rules.getD i default).kind p.topology) rfl ?_
  conv=>whnf
  repeat(refine VC.mk (by first|exact id|exact fun h=>⟨h,h⟩) ?_; conv=>whnf)
  refine ah.gZ (fun _=>S.kN (p.rules.getD i default) p.topology hr) rfl ?_
  conv=>whnf
  refine .mk (by intro h; rw[h]; rfl) ?_
  conv=>whnf
  refine⟨fun h2=>?_,fun h2=>?_⟩
  ·conv=>whnf
   exact aA.int (by rw[fQ,show pq p i=false from h1,show oH p i=true from h2]; rfl)
  ·conv=>whnf
   refine ah.pure (S.bP (p.rules.getD i default).fr p.states.length) rfl ?_
   conv=>whnf
   refine ah.pure (S.bP (p.rules.getD i default).to p.states.length) rfl ?_
   conv=>whnf
   refine ah.pure (S.bI [bT (p.rules.getD i default).fr p.states.length,bT (p.rules.getD i default).to p.states.length] true (show 2<2^40 by decide)) rfl ?_
   conv=>whnf
   refine⟨fun h3=>?_,fun h3=>?_⟩
   ·conv=>whnf
    exact aA.int (by rw[fQ,show pq p i=false from h1,show oH p i=false from h2,show(um p (p.rules.getD i default) !=0)=true from h3]; rfl)
   ·conv=>whnf
    refine⟨fun h4=>?_,fun h4=>?_⟩
    ·conv=>whnf
     refine ah.pure (S.lI p (p.rules.getD i default).guards false (by have:=hr.guards; omega)) rfl ?_
     conv=>whnf
     refine ah.pure (S.dJ (p.rules.getD i default).ex p.states.length false (by have:=hr.ex; omega)) rfl ?_
     conv=>whnf
     refine ah.pure (S.dJ (p.rules.getD i default).all p.states.length false (by have:=hr.all; omega)) rfl ?_
     conv=>whnf
     refine ah.pure (S.fB p (p.rules.getD i default).read) rfl ?_
     conv=>whnf
     refine ah.pure (S.fB p (p.rules.getD i default).write) rfl ?_
     conv=>whnf
     refine ah.pure (S.dJ (p.rules.getD i default).send p.messages.length false (by have:=hr.send; omega)) rfl ?_
     conv=>whnf
     refine ah.pure (S.bI [uM p (p.rules.getD i default).guards,eF (p.rules.getD i default).ex p.states.length,eF (p.rules.getD i default).all p.states.length,jk p (p.rules.getD i default).read,jk p (p.rules.getD i default).write,eF (p.rules.getD i default).send p.messages.length] true (show 6<2^40 by decide)) rfl ?_
     conv=>whnf
     exact aA.int (by rw[fQ,show pq p i=false from h1,show oH p i=false from h2,show(um p (p.rules.getD i default) !=0)=false from h3,h4]; rfl)
    ·conv=>whnf
     refine⟨fun h5=>?_,fun h5=>?_⟩
     ·conv=>whnf
      refine ah.pure (S.bP (p.rules.getD i default).iY p.states.length) rfl ?_
      conv=>whnf
      refine ah.pure (S.bP (p.rules.getD i default).Bc p.states.length) rfl ?_
      conv=>whnf
      refine ah.pure (S.fB p (p.rules.getD i default).read) rfl ?_
      conv=>whnf
      refine ah.pure (S.fB p (p.rules.getD i default).write) rfl ?_
      conv=>whnf
      refine ah.pure (S.bI [bT (p.rules.getD i default).iY p.states.length,bT (p.rules.getD i default).Bc p.states.length,jk p (p.rules.getD i default).read,jk p (p.rules.getD i default).write] true (show 4<2^40 by decide)) rfl ?_
      conv=>whnf
      exact aA.int (by rw[fQ,show pq p i=false from h1,show oH p i=false from h2,show(um p (p.rules.getD i default) !=0)=false from h3,h4,h5]; rfl)
     ·conv=>whnf
      refine⟨fun h6=>?_,fun h6=>?_⟩
      ·conv=>whnf
       refine ah.pure (S.jB (p.rules.getD i default).response p.states.length false (by have:=hr.response; omega)) rfl ?_
       conv=>whnf
       refine ah.pure (S.fB p (p.rules.getD i default).read) rfl ?_
       conv=>whnf
       refine ah.pure (S.fB p (p.rules.getD i default).write) rfl ?_
       conv=>whnf
       refine ah.pure (S.bI [Bh (p.rules.getD i default).response p.states.length,jk p (p.rules.getD i default).read,jk p (p.rules.getD i default).write] true (show 3<2^40 by decide)) rfl ?_
       conv=>whnf
       exact aA.int (by rw[fQ,show pq p i=false from h1,show oH p i=false from h2,show(um p (p.rules.getD i default) !=0)=false from h3,h4,h5,h6]; rfl)
      ·conv=>whnf
       refine⟨fun h7=>?_,fun h7=>?_⟩
       ·conv=>whnf
        repeat(refine VC.mk (by first|exact id|(intro h; rw[h]; rfl)|(intro h; simp_all; done)) ?_; conv=>whnf)
        refine ah.pure (S.dJ (p.rules.getD i default).left p.states.length false (by have:=hr.left; omega)) rfl ?_
        conv=>whnf
        refine ah.pure (S.dJ (p.rules.getD i default).right p.states.length false (by have:=hr.right; omega)) rfl ?_
        conv=>whnf
        refine ah.pure (S.dJ (p.rules.getD i default).parent p.states.length false (by have:=hr.parent; omega)) rfl ?_
        conv=>whnf
        refine ah.pure (S.bM (V5 p (p.rules.getD i default)) 1) rfl ?_
        conv=>whnf
        refine ah.pure (S.bI [eF (p.rules.getD i default).left p.states.length,eF (p.rules.getD i default).right p.states.length,eF (p.rules.getD i default).parent p.states.length,dU (V5 p (p.rules.getD i default)) 1] true (show 4<2^40 by decide)) rfl ?_
        conv=>whnf
        exact aA.int (by rw[fQ,show pq p i=false from h1,show oH p i=false from h2,show(um p (p.rules.getD i default) !=0)=false from h3,h4,h5,h6,h7]; rfl)
       ·conv=>whnf
        refine⟨fun h8=>?_,fun h8=>?_⟩
        ·conv=>whnf
         refine ah.pure (S.bP (p.rules.getD i default).iY p.states.length) rfl ?_
         conv=>whnf
         refine ah.pure (S.bP (p.rules.getD i default).Bc p.states.length) rfl ?_
         conv=>whnf
         repeat(refine VC.mk (by first|exact id|exact fun h=>⟨h,h⟩|(intro h; rw[h]; rfl)) ?_; conv=>whnf)
         refine ah.pure (S.bM (decide ((p.rules.getD i default).direction<3)||decide ((p.rules.getD i default).direction>4)) 1) rfl ?_
         conv=>whnf
         refine ah.pure (S.bI [bT (p.rules.getD i default).iY p.states.length,bT (p.rules.getD i default).Bc p.states.length,dU (decide ((p.rules.getD i default).direction<3)||decide ((p.rules.getD i default).direction>4)) 1] true (show 3<2^40 by decide)) rfl ?_
         conv=>whnf
         exact aA.int (by rw[fQ,show pq p i=false from h1,show oH p i=false from h2,show(um p (p.rules.getD i default) !=0)=false from h3,h4,h5,h6,h7,h8]; rfl)
        ·conv=>whnf
         refine ah.pure (S.bP (p.rules.getD i default).iY p.states.length) rfl ?_
         conv=>whnf
         refine ah.pure (S.bP (p.rules.getD i default).Bc p.states.length) rfl ?_
         conv=>whnf
         repeat(refine VC.mk (by first|exact id|exact fun h=>⟨h,h⟩|(intro h; rw[h]; rfl)) ?_; conv=>whnf)
         refine ah.pure (S.bM (decide ((p.rules.getD i default).direction<1)||decide ((p.rules.getD i default).direction>2)) 1) rfl ?_
         conv=>whnf
         refine ah.pure (S.bI [bT (p.rules.getD i default).iY p.states.length,bT (p.rules.getD i default).Bc p.states.length,dU (decide ((p.rules.getD i default).direction<1)||decide ((p.rules.getD i default).direction>2)) 1] true (show 3<2^40 by decide)) rfl ?_
         conv=>whnf
         exact aA.int (by rw[fQ,show pq p i=false from h1,show oH p i=false from h2,show(um p (p.rules.getD i default) !=0)=false from h3,h4,h5,h6,h7,h8]; rfl)
def uK(g:xK):List xK->Nat->Int
 |[],_=> -1
 |x::r,i=>bif g==x then(i:Int) else uK g r (i+1)
theorem Na{g:xK}{l:List xK}{i:Nat}:decide (0<=uK g l i)=l.any fun x=>g==x:=by
 have: ∀ {l:List xK} {i:Nat},0<=uK g l i↔(l.any fun x=>g==x)=true:=by
  intro l
  induction l with
  |nil=>intro i; simp[uK]
  |cons x r ih =>
   intro i
   rw[List.any_cons,Bool.or_eq_true,<- ih (i:=i+1)]
   show(0:Int)<=(bif g==x then(i:Int) else uK g r (i+1))↔_
   generalize (g==x)=b
   cases b<;>simp
 rw[Bool.eq_iff_iff,decide_eq_true_eq]; exact this
theorem S.Wv(l:List xK)(g:xK)(f:Bool)(hl:l.length<2^40):au Tryz.prog 134 [.row 7 f (.oW l),.dat (.OO g)] (.int (uK g l 0)):=by
 refine au.of Bd.dO (by simp) rfl rfl ?_
 conv=>whnf
 refine aJ.same [0,3,6,7] (fun i:Nat=>[(8,.int i)]) (fun i=>i<=l.length/\uK g l 0=uK g (l.drop i) i) (fun i=>l.length-i) 0 rfl (by decide) rfl (fun _=>rfl) ⟨by omega,by simp⟩ ⟨⟨_,rfl,rfl⟩,trivial⟩ ?_
 conv=>whnf
 refine⟨rfl,?_⟩
 rintro i ⟨hi,hall⟩
 conv=>whnf
 refine⟨fun h3=>?_,fun h3=>?_⟩
 ·have hi':i<l.length:=by simpa using h3
  rw[bg default hi'] at hall
  simp only[uK] at hall
  conv=>whnf
  refine .mk (by simp only[Rw.rng] at *; first|omega|(simp_all; done)|(simp_all; omega)) ?_
  conv=>whnf
  refine⟨fun h4=>?_,fun h4=>?_⟩
  ·conv=>whnf
   refine aA.int ?_
   have h4':(g==l.getD i default)=true:=h4
   rw[hall,h4']; rfl
  ·conv=>whnf
   refine .mk (by simp only[okI] at *; first|omega|(simp_all; done)|(simp_all; omega)) ?_
   conv=>whnf
   refine⟨i+1,⟨by omega,?_⟩,by omega,⟨⟨_,rfl,rfl⟩,trivial⟩,?_,rfl⟩
   ·have h4':(g==l.getD i default)=false:=h4
    rw[hall,h4']; rfl
   ·repeat' (first|exact trivial|exact⟨_,rfl,rfl⟩|constructor)
 ·conv=>whnf
  refine aA.int ?_
  have hi':l.length<=i:=by simpa using h3
  rw[hall,List.drop_eq_nil_of_le hi']; rfl
theorem S.Nr(l:List xK)(g:xK)(f:Bool)(hl:l.length<2^40):au Tryz.prog 117 [.row 7 f (.oW l),.dat (.OO g)] (.bool (l.any fun x=>g==x)):=by
 refine au.of Bd.dG (by simp) rfl rfl ?_
 conv=>whnf
 refine ah.pure (S.Wv l g f hl) rfl ?_
 conv=>whnf
 exact aA.bool Na.symm
theorem VZ{h:Hz}{j:Nat}{Z:Nat->Prop}{l:List xK}(hz:Z j)(q:h.get j=some (.row 161 7 (.oW l) [])):T.sub Z h.aj (V.row 7 false (.oW l)).aG (V.own j).aG:=by
 show T.sub Z h.aj (.sl 7 false (l.map Me)) (.own j)
 simp only[T.sub]
 refine⟨trivial,hz,?_,by decide,161,?_⟩
 ·rw[gU]; intro t ht; obtain⟨x,_,rfl⟩:=List.mem_map.1 ht; rfl
 ·have:=aK q
  rw[this]; simp[OV.aC,Rw.aT,V.aT]
theorem yP{α β:Type}{f:β->α->β}{b:β}{l:List α}{i:Nat}{d:α}(h:i<l.length):(l.take (i+1)).foldl f b=f ((l.take i).foldl f b) (l.getD i d):=by
 rw[List.take_add_one,List.foldl_append]
 simp[List.getElem?_eq_getElem h]
theorem aA.abV{h:Hz}{j:Nat}{l:List xK}(q:h.get j=some (.row 161 7 (.oW l) [])):aA (.row 7 false (.oW l)) (.own j) h:=⟨VZ trivial q⟩
def Ew(acc:List xK)(g:xK):List xK:=bif acc.any (fun x=>g==x) then acc else acc++[g]
def wF(l:List Rule):List xK:=(l.flatMap Rule.guards).foldl Ew []
theorem Wx{acc:List xK}{g:xK}:(Ew acc g).length<=acc.length+1:=by
 unfold Ew; cases acc.any (fun x=>g==x)<;>simp
theorem Ns: ∀ {l acc:List xK},(l.foldl Ew acc).length<=acc.length+l.length:=by
 intro l
 induction l with
 |nil=>intro acc; simp
 |cons g r ih =>
  intro acc
  have:=ih (acc:=Ew acc g)
  have h2:=Wx (acc:=acc) (g:=g)
  simp only[List.foldl_cons,List.length_cons]; omega
abbrev rowT(l:List xK):OV:=.row 161 7 (.oW l) []
def wG(p:aW)(i k:Nat):List xK:=((p.rules.getD i default).guards.take k).foldl Ew (wF (p.rules.take i))
theorem Nb(p:aW)(hp:dM p)(i k:Nat)(_hi:i<p.rules.length):(wG p i k).length<2^31:=by
 have h1:=Ns (l:=(p.rules.getD i default).guards.take k) (acc:=wF (p.rules.take i))
 have h2:=Ns (l:=(p.rules.take i).flatMap Rule.guards) (acc:=[])
 have h3:=(hp.rule i).guards
 have h4:((p.rules.take i).flatMap Rule.guards).length<=(p.rules.flatMap Rule.guards).length:=by
  conv=>rhs; rw[<- List.take_append_drop i p.rules,List.flatMap_append,List.length_append]
  omega
 have h5:=hp.oW
 have h6:((p.rules.getD i default).guards.take k).length<=(p.rules.getD i default).guards.length:=by simp[List.length_take]; omega
 unfold wG
 unfold wF at h1 ⊢
 simp only[List.length_nil,Nat.zero_add] at h2
 omega
theorem Jq(p:aW){i:Nat}(hi:i<p.rules.length):wF (p.rules.take (i+1))=wG p i (p.rules.getD i default).guards.length:=by
 unfold wG
 rw[List.take_of_length_le (Nat.le_refl _)]
 unfold wF
 rw[List.take_add_one,List.flatMap_append,List.foldl_append]
 simp[List.getElem?_eq_getElem hi]
theorem S.iT(p:aW)(hp:dM p):au Tryz.prog 85 [.dat (.dw p)] (.row 7 false (.oW (wF p.rules))):=by
 have hp1:=hp.rules
 refine au.of Bd.iT (by simp) rfl rfl ?_
 conv=>whnf
 refine aJ.nil 3 161 7 (by rfl) rfl rfl rfl ?_
 refine aJ.objs 1 [9,10] (fun i:Nat=>[(11,.int i),(3,.own 0)]) (fun i=>[(0,rowT (wF (p.rules.take i)))]) (fun i=>i<=p.rules.length) (fun i=>p.rules.length-i) 0 [7] rfl (by decide) (fun _=>rfl) (Nat.zero_le _) ?_ ?_ ?_
 ·exact⟨⟨_,rfl,.eq rfl⟩,⟨_,rfl,.eq rfl⟩,trivial⟩
 ·exact⟨⟨rfl,nofun,rfl,rfl,rfl,_,rfl,rfl,rfl,aY.of_eq rfl⟩,trivial⟩
 conv=>whnf
 refine⟨⟨⟨_,rfl,.eq rfl⟩,⟨_,rfl,.eq rfl⟩,trivial⟩,rfl,?_⟩
 rintro i hi
 conv=>whnf
 refine⟨fun h3=>?_,fun h3=>?_⟩
 ·have hi':i<p.rules.length:=by simpa using h3
  conv=>whnf
  refine .mk (by simp only[Rw.rng] at *; first|omega|(simp_all; done)|(simp_all; omega)) ?_
  conv=>whnf
  refine aJ.objs 1 [9,10,11,16,17] (fun k:Nat=>[(18,.int k),(3,.own 0)]) (fun k=>[(0,rowT (wG p i k))]) (fun k=>k<=(p.rules.getD i default).guards.length) (fun k=>(p.rules.getD i default).guards.length-k) 0 [0] rfl (by decide) (fun _=>rfl) (Nat.zero_le _) ?_ ?_ ?_
  ·exact⟨⟨_,rfl,.eq rfl⟩,⟨_,rfl,.eq rfl⟩,trivial⟩
  ·exact⟨⟨rfl,nofun,rfl,rfl,rfl,_,rfl,rfl,rfl,aY.of_eq rfl⟩,trivial⟩
  conv=>whnf
  refine⟨⟨⟨_,rfl,.eq rfl⟩,⟨_,rfl,.eq rfl⟩,⟨_,rfl,.eq rfl⟩,⟨_,rfl,.eq rfl⟩,⟨_,rfl,.eq rfl⟩,trivial⟩,rfl,?_⟩
  rintro k hk
  have hacc:=Nb p hp i k hi'
  have hg:=(hp.rule i).guards
  conv=>whnf
  refine⟨fun h4=>?_,fun h4=>?_⟩
  ·have hk':k<(p.rules.getD i default).guards.length:=by simpa using h4
   have hst:wG p i (k+1)=Ew (wG p i k) ((p.rules.getD i default).guards.getD k default):=yP hk'
   conv=>whnf
   refine .mk (by simp only[Rw.rng] at *; first|omega|(simp_all; done)|(simp_all; omega)) ?_
   conv=>whnf
   refine ah.lend (S.Nr (wG p i k) ((p.rules.getD i default).guards.getD k default) false (by omega)) (And.intro (VZ trivial rfl) (And.intro (ak _) trivial)) rfl rfl ?_
   conv=>whnf
   refine⟨fun h5=>?_,fun h5=>?_⟩
   ·conv=>whnf
    repeat(refine VC.mk (by first|(show((wG p i k).length+(0+1))*48<=140737488355328/\(wG p i k).length+(0+1)<=1152921504606846976; omega)|(simp only[okI] at *; first|omega|(simp_all; done)|(simp_all; omega))) ?_; conv=>whnf)
    have h5':((wG p i k).any fun x=>(p.rules.getD i default).guards.getD k default==x)=false:=by simpa using h5
    refine⟨k+1,[13],by omega,by omega,⟨⟨_,rfl,.eq rfl⟩,⟨_,rfl,.eq rfl⟩,trivial⟩,⟨⟨_,rfl,.eq rfl⟩,⟨_,rfl,.eq rfl⟩,⟨_,rfl,.eq rfl⟩,⟨_,rfl,.eq rfl⟩,⟨_,rfl,.eq rfl⟩,trivial⟩,⟨rfl,nofun,rfl,rfl,rfl,_,rfl,rfl,rfl,aY.of_eq ?_⟩,trivial⟩
    rw[hst,Ew,h5']
    rfl
   ·conv=>whnf
    refine .mk (by simp only[okI] at *; first|omega|(simp_all; done)|(simp_all; omega)) ?_
    conv=>whnf
    have h5':((wG p i k).any fun x=>(p.rules.getD i default).guards.getD k default==x)=true:=by simpa using h5
    refine⟨k+1,[0],by omega,by omega,⟨⟨_,rfl,.eq rfl⟩,⟨_,rfl,.eq rfl⟩,trivial⟩,⟨⟨_,rfl,.eq rfl⟩,⟨_,rfl,.eq rfl⟩,⟨_,rfl,.eq rfl⟩,⟨_,rfl,.eq rfl⟩,⟨_,rfl,.eq rfl⟩,trivial⟩,⟨rfl,nofun,rfl,rfl,rfl,_,rfl,rfl,rfl,aY.of_eq ?_⟩,trivial⟩
    rw[hst,Ew,h5']; rfl
  ·have hk':(p.rules.getD i default).guards.length<=k:=by simpa using h4
   have e:k=(p.rules.getD i default).guards.length:=Nat.le_antisymm hk hk'
   subst e
   conv=>whnf
   refine .mk (by simp only[okI] at *; first|omega|(simp_all; done)|(simp_all; omega)) ?_
   conv=>whnf
   refine⟨i+1,[0],by omega,by omega,⟨⟨_,rfl,.eq rfl⟩,⟨_,rfl,.eq rfl⟩,trivial⟩,⟨⟨_,rfl,.eq rfl⟩,⟨_,rfl,.eq rfl⟩,trivial⟩,⟨rfl,nofun,rfl,rfl,rfl,_,rfl,rfl,rfl,aY.of_eq ?_⟩,trivial⟩
   rw[Jq p hi']
 ·have hi':p.rules.length<=i:=by simpa using h3
  rw[List.take_of_length_le hi']
  conv=>whnf
  exact aA.abV rfl
def rM(p:aW):Bool:=decide (p.topology<1)||decide (p.topology>4)||decide (p.fault<0)||decide (p.fault>3)
def sU(p:aW):Bool:=decide ((p.states.length:Int)>6)||decide ((p.messages.length:Int)>3)||decide ((p.values.length:Int)>3)||decide ((p.bQ.length:Int)>4)||decide ((p.rules.length:Int)>8)
def Nc(p:aW):Bool:=(!(p.topology==1)&&(decide ((p.messages.length:Int)>0)||decide ((p.values.length:Int)>0)||decide ((p.bQ.length:Int)>0)||p.fault !=0))||((p.topology==1)&&decide ((p.leader.length:Int)>0))
def vC(p:aW):Int:=aQ [eF p.initial p.states.length,dU ((p.initial.length:Int)==0) 1,eF p.leader p.states.length]
def Ac(p:aW):Int:=aQ ((List.range p.rules.length).map (fQ p))
def cO(p:aW):Int :=
 bif !(validName p.name) then 2 else bif rM p then 1 else bif (p.states.length:Int)==0 then 1 else bif sU p then 4 else
 bif xB p !=0 then xB p else bif Nc p then 1 else
 bif p.bQ.any (fun l=> !(MV l)) then 4 else
 bif vC p !=0 then vC p else
 bif Ac p !=0 then Ac p else dU (decide (((wF p.rules).length:Int)>3)) 4
theorem G6{n i:Nat}{f:Nat->Int}(h:i<n):((List.range n).drop i).map f=f i::((List.range n).drop (i+1)).map f:=by
 rw[List.drop_eq_getElem_cons (by simpa using h)]; simp
theorem S.iE(p:aW)(hp:dM p):au Tryz.prog 61 [.dat (.dw p)] (.int (cO p)):=by
 have g1:=hp.states; have g2:=hp.messages; have g3:=hp.values; have g4:=hp.bQ; have g5:=hp.initial; have g6:=hp.leader; have g7:=hp.rules
 refine au.of Bd.iE (by simp) rfl rfl ?_
 conv=>whnf
 refine ah.pure (S.fF p.name) rfl ?_
 conv=>whnf
 refine⟨fun h1=>?_,fun h1=>?_⟩
 ·conv=>whnf
  exact aA.int (by rw[cO,h1]; rfl)
 conv=>whnf
 repeat(refine VC.mk (by first|exact id|(intro h; rw[h]; rfl)) ?_; conv=>whnf)
 refine⟨fun h2=>?_,fun h2=>?_⟩
 ·conv=>whnf
  exact aA.int (by rw[cO,h1,show rM p=true from h2]; rfl)
 conv=>whnf
 refine⟨fun h3=>?_,fun h3=>?_⟩
 ·conv=>whnf
  exact aA.int (by rw[cO,h1,show rM p=false from h2,h3]; rfl)
 conv=>whnf
 repeat(refine VC.mk (by first|exact id|(intro h; rw[h]; rfl)) ?_; conv=>whnf)
 refine⟨fun h4=>?_,fun h4=>?_⟩
 ·conv=>whnf
  exact aA.int (by rw[cO,h1,show rM p=false from h2,h3,show sU p=true from h4]; rfl)
 conv=>whnf
 have h0:0<p.states.length:=by
  rcases Nat.eq_zero_or_pos p.states.length with e|e
  ·rw[e] at h3; exact absurd h3 (by decide)
  ·exact e
 refine ah.pure (S.mV p h0 g1 g2 g3) rfl ?_
 conv=>whnf
 refine⟨fun h5=>?_,fun h5=>?_⟩
 ·conv=>whnf
  exact aA.int (by rw[cO,h1,show rM p=false from h2,h3,show sU p=false from h4,h5]; rfl)
 conv=>whnf
 repeat(refine VC.mk (by first|exact id|(intro h; rw[h]; rfl)|(intro h; simp_all; done)) ?_; conv=>whnf)
 refine⟨fun h6=>?_,fun h6=>?_⟩
 ·conv=>whnf
  exact aA.int (by rw[cO,h1,show rM p=false from h2,h3,show sU p=false from h4,h5,show Nc p=true from h6]; rfl)
 conv=>whnf
 refine aJ.same [1,4,111,112] (fun i:Nat=>[(113,.int i)]) (fun i=>i<=p.bQ.length/\(p.bQ.take i).any (fun l=> !(MV l))=false) (fun i=>p.bQ.length-i) 0 rfl (by decide) rfl (fun _=>rfl) ⟨by omega,by simp⟩ ⟨⟨_,rfl,rfl⟩,trivial⟩ ?_
 conv=>whnf
 refine⟨rfl,?_⟩
 rintro i ⟨hi,hall⟩
 conv=>whnf
 refine⟨fun h7=>?_,fun h7=>?_⟩
 ·have hi':i<p.bQ.length:=by simpa using h7
  conv=>whnf
  refine .mk (by simp only[Rw.rng] at *; omega) ?_
  conv=>whnf
  refine ah.pure (S.jf (p.bQ.getD i default)) rfl ?_
  conv=>whnf
  refine⟨fun h8=>?_,fun h8=>?_⟩
  ·conv=>whnf
   exact aA.int (by rw[cO,h1,show rM p=false from h2,h3,show sU p=false from h4,h5,show Nc p=false from h6,nT (d:=default) hi' h8]; rfl)
  ·conv=>whnf
   refine .mk (by simp only[okI] at *; omega) ?_
   conv=>whnf
   refine⟨i+1,⟨by omega,?_⟩,by omega,⟨⟨_,rfl,rfl⟩,trivial⟩,?_,rfl⟩
   ·rw[qN (d:=default) hi' hall]; exact h8
   ·repeat' (first|exact trivial|exact⟨_,rfl,rfl⟩|constructor)
 have hi':p.bQ.length<=i:=by simpa using h7
 rw[List.take_of_length_le hi'] at hall
 conv=>whnf
 refine ah.pure (S.dJ p.initial p.states.length false (by omega)) rfl ?_
 conv=>whnf
 refine ah.pure (S.bM ((p.initial.length:Int)==0) 1) rfl ?_
 conv=>whnf
 refine ah.pure (S.dJ p.leader p.states.length false (by omega)) rfl ?_
 conv=>whnf
 refine ah.pure (S.bI [eF p.initial p.states.length,dU ((p.initial.length:Int)==0) 1,eF p.leader p.states.length] true (show 3<2^40 by decide)) rfl ?_
 conv=>whnf
 refine⟨fun h9=>?_,fun h9=>?_⟩
 ·conv=>whnf
  exact aA.int (by rw[cO,h1,show rM p=false from h2,h3,show sU p=false from h4,h5,show Nc p=false from h6,hall,show(vC p !=0)=true from h9]; rfl)
 conv=>whnf
 refine aJ.same [1,140,141] (fun i:Nat=>[(142,.int i)]) (fun i=>i<=p.rules.length/\Ac p=aQ (((List.range p.rules.length).drop i).map (fQ p))) (fun i=>p.rules.length-i) 0 rfl (by decide) rfl (fun _=>rfl) ⟨by omega,by simp[Ac]⟩ ⟨⟨_,rfl,rfl⟩,trivial⟩ ?_
 conv=>whnf
 refine⟨rfl,?_⟩
 rintro i ⟨hi,hr⟩
 conv=>whnf
 refine⟨fun h10=>?_,fun h10=>?_⟩
 ·have hi':i<p.rules.length:=by simpa using h10
  rw[G6 hi'] at hr
  simp only[aQ] at hr
  conv=>whnf
  refine ah.pure (S.jA p i hi' hp) rfl ?_
  conv=>whnf
  refine⟨fun h11=>?_,fun h11=>?_⟩
  ·conv=>whnf
   have aaR:fQ p i≠0:=Iy h11
   rw[if_neg aaR] at hr
   exact aA.int (by rw[cO,h1,show rM p=false from h2,h3,show sU p=false from h4,h5,show Nc p=false from h6,hall,show(vC p !=0)=false from h9,hr,h11]; rfl)
  ·conv=>whnf
   refine .mk (by simp only[okI] at *; omega) ?_
   conv=>whnf
   have aaR:fQ p i=0:=yX h11
   rw[if_pos aaR] at hr
   refine⟨i+1,⟨by omega,hr⟩,by omega,⟨⟨_,rfl,rfl⟩,trivial⟩,?_,rfl⟩
   repeat' (first|exact trivial|exact⟨_,rfl,rfl⟩|constructor)
 have hi':p.rules.length<=i:=by simpa using h10
 rw[List.drop_eq_nil_of_le (by simpa using hi')] at hr
 conv=>whnf
 refine ah.pure (S.iT p hp) rfl ?_
 conv=>whnf
 refine ah.pure (S.bM (decide (((wF p.rules).length:Int)>3)) 4) rfl ?_
 conv=>whnf
 exact aA.int (by rw[cO,h1,show rM p=false from h2,h3,show sU p=false from h4,h5,show Nc p=false from h6,hall,show(vC p !=0)=false from h9,hr]; rfl)
theorem aA.eqv{a b:V}{h:Hz}(e:a.aG=b.aG):aA a b h:=⟨by rw[e]; exact ak _⟩
def Nj(acc:Bool)(r:Rule):Bool:=acc&&(r.kind==1)&&decide (r.fr<r.to)&&((r.ex.length:Int)==0)&&((r.all.length:Int)==0)
def Tm(acc:Bool)(r:Rule):Bool:=acc||decide ((r.all.length:Int)>0)
def rG(p:aW):Bool:=(p.topology==1)&&(p.fault==0)&&((p.messages.length:Int)==0)&&((p.bQ.length:Int)==0)
structure Cls where
 OO:Bool
 cover:Bool
 word:Bool
 tree:Bool
 monadic:Bool
def jL(p:aW):Cls :=
 ⟨(p.topology==1)&&((p.values.length:Int)==0)&&p.rules.foldl Nj true,rG p&& !(p.rules.foldl Tm false),(p.topology==2)||(p.topology==3),p.topology==4,rG p&&decide ((p.states.length:Int)<=4)⟩
def abW(c:Cls):V:=.agg [.bool c.OO,.bool c.cover,.bool c.word,.bool c.tree,.bool c.monadic]
def Iw:Cls:=⟨false,false,false,false,false⟩
def DV(p:aW):V:=.fO [abW (bif cO p !=0 then Iw else jL p),.int (cO p)]
theorem S.jM(p:aW)(hp:dM p):au Tryz.prog 37 [.dat (.dw p)] (DV p):=by
 have g1:=hp.states; have g2:=hp.messages; have g3:=hp.values; have g4:=hp.bQ; have g7:=hp.rules
 refine au.of Bd.jM (by simp) rfl rfl ?_
 conv=>whnf
 refine ah.pure (S.iE p hp) rfl ?_
 conv=>whnf
 refine⟨fun h1=>?_,fun h1=>?_⟩
 ·conv=>whnf
  refine aA.eqv ?_
  rw[DV,h1]; rfl
 have h1':cO p=0:=yX h1
 conv=>whnf
 refine aJ.same [1,2,3,18,19] (fun i:Nat=>[(20,.int i),(5,.bool ((p.rules.take i).foldl Nj true)),(6,.bool ((p.rules.take i).foldl Tm false))]) (fun i=>i<=p.rules.length) (fun i=>p.rules.length-i) 0 rfl (by decide) rfl (fun _=>rfl) (Nat.zero_le _) ⟨⟨_,rfl,rfl⟩,⟨_,rfl,rfl⟩,⟨_,rfl,rfl⟩,trivial⟩ ?_
 conv=>whnf
 refine⟨rfl,?_⟩
 rintro i hi
 have g8:=hp.rule i
 have g9:=g8.ex; have g10:=g8.all
 conv=>whnf
 refine⟨fun h7=>?_,fun h7=>?_⟩
 ·have hi':i<p.rules.length:=by simpa using h7
  conv=>whnf
  repeat(refine VC.mk (by first|exact id|exact fun h=>⟨h,h⟩|(intro h; rw[h]; rfl)|(simp only[okI,Rw.rng] at *; omega)) ?_; conv=>whnf)
  refine⟨i+1,by omega,by omega,⟨⟨_,rfl,rfl⟩,⟨_,rfl,?_⟩,⟨_,rfl,?_⟩,trivial⟩,?_,rfl⟩
  ·rw[yP (d:=default) hi']; rfl
  ·rw[yP (d:=default) hi']; rfl
  ·repeat' (first|exact trivial|exact⟨_,rfl,rfl⟩|constructor)
 have hi':p.rules.length<=i:=by simpa using h7
 rw[List.take_of_length_le hi']
 conv=>whnf
 repeat(refine VC.mk (by first|exact id|(intro h; rw[h]; rfl)) ?_; conv=>whnf)
 refine aA.eqv ?_
 rw[DV,h1']
 rfl
def kV(r:Rule)(t:Int):Bool :=
 bif !(r.kind==1)&&(decide ((r.guards.length:Int)>0)||decide ((r.ex.length:Int)>0)||decide ((r.all.length:Int)>0)||decide ((r.send.length:Int)>0)) then true else
 bif !(r.kind==1)&& !(r.kind==2)&& !(r.kind==3)&&(r.read != -1||r.write != -1) then true else
 bif !(r.kind==2)&& !(r.kind==5)&&(r.iY !=0||r.Bc !=0) then true else
 bif (!(r.kind==3)&&decide ((r.response.length:Int)>0))||(!(r.kind==5)&&r.direction !=0) then true else
 bif !(r.kind==4)&&(r.pos !=0||decide ((r.left.length:Int)>0)||decide ((r.right.length:Int)>0)) then true else
 decide ((r.parent.length:Int)>0)&& !((r.kind==4)&&(t==4))
theorem gt0{n:Nat}:decide ((n:Int)>0)= !(n==0):=by
 cases n with
 |zero=>rfl
 |succ n=>rw[decide_eq_true (by omega)]; rfl
theorem acM(a b c d e f g h:Nat):decide ((a:Int)+b+c+d+e+f+g+h>0)=(!(a==0)|| !(b==0)|| !(c==0)|| !(d==0)|| !(e==0)|| !(f==0)|| !(g==0)|| !(h==0)):=by
 rw[Bool.eq_iff_iff]
 simp only[decide_eq_true_eq,Bool.or_eq_true,Bool.not_eq_true',beq_eq_false_iff_ne,ne_eq]
 omega
theorem xW{r:Rule}{t:Int}(h:1<=r.kind/\r.kind<=5):kV r t=jT r t:=by
 have hk:r.kind=1\/r.kind=2\/r.kind=3\/r.kind=4\/r.kind=5:=by omega
 simp only[kV,jT,AZ,gt0,acM,bne]
 generalize (r.guards.length==0)=g1
 generalize (r.ex.length==0)=g2
 generalize (r.all.length==0)=g3
 generalize (r.send.length==0)=g4
 generalize (r.response.length==0)=g5
 generalize (r.left.length==0)=g6
 generalize (r.right.length==0)=g7
 generalize (r.parent.length==0)=g8
 generalize (r.read== -1)=g9
 generalize (r.write== -1)=g10
 generalize (r.iY==0)=g11
 generalize (r.Bc==0)=g12
 generalize (r.direction==0)=g13
 generalize (r.pos==0)=g14
 rcases hk with hk|hk|hk|hk|hk<;>rw[hk] <;>
  (first
   |(simp; done)
   |(cases (t==4)<;>simp<;>grind)
   |(simp; grind))
end Go.Proofs.YtbfhebmdcpmfaaaGreatDoor
