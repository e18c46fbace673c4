/-
 A part of the proof. No condition.
-/
import Derived.Test.YtajmbgljnaljiaaGreatDoorNb
import Derived.Test.YtajmbgljnaljiaaGreatDoorLg
namespace Go.Proofs.YtajmbgljnaljiaaGreatDoor
open Go.Ab Go.Proofs
set_option maxRecDepth 100000
def iq(b:Bool)(e:Int):Int:=bif b then e else 0
theorem S.bP(b:Bool)(e:Int):au Tryz.prog 103 [.bool b,.int e] (.int (iq b e)):=by
 refine au.of Bd.bP (by simp) rfl rfl ?_
 conv=>whnf
 refine⟨fun h=>?_,fun h=>?_⟩
 ·conv=>whnf
  exact aG.int (by rw[h]; rfl)
 ·conv=>whnf
  exact aG.int (by rw[h]; rfl)
def yc(i n:Int):Bool:=decide (i<0)||decide (i>=n)
def fA(i n:Int):Int:=iq (yc i n) 5
theorem S.bV(i n:Int):au Tryz.prog 130 [.int i,.int n] (.int (fA i n)):=by
 refine au.of Bd.bV (by simp) rfl rfl ?_
 conv=>whnf
 repeat(refine VC.mk (by first|exact fun h=>⟨h,h⟩|(intro h; rw[h]; rfl)) ?_; conv=>whnf)
 refine ah.pure (S.bP (yc i n) 5) rfl ?_
 conv=>whnf
 exact aG.int rfl
def gK:List Int->Int
 |[]=>0
 |e::r=>if e=0 then gK r else e
theorem S.bH(l:List Int)(f:Bool)(hl:l.length<2^40):au Tryz.prog 102 [.row 0 f (.ints l)] (.int (gK l)):=by
 refine au.of Bd.bH (by simp) rfl rfl ?_
 conv=>whnf
 refine aP.same [5,6] (fun i:Nat=>[(7,.int i)]) (fun i=>i<=l.length/\gK l=gK (l.drop i)) (fun i=>l.length-i) 0 rfl (by decide) rfl (fun _=>rfl) ⟨by omega,by simp⟩ ⟨⟨_,rfl,rfl⟩,trivial⟩ ?_
 conv=>whnf
 refine⟨rfl,?_⟩
 rintro i ⟨hi,hall⟩
 conv=>whnf
 refine⟨fun h3=>?_,fun h3=>?_⟩
 ·have hi':i<l.length:=by simpa using h3
  rw[gQ 0 hi'] at hall
  simp only[gK] at hall
  conv=>whnf
  refine .mk (by simp only[Rw.rng] at *; omega) ?_
  conv=>whnf
  refine⟨fun h4=>?_,fun h4=>?_⟩
  ·conv=>whnf
   refine aG.int ?_
   have:l.getD i 0≠0:=by simpa using h4
   rw[hall,if_neg this]; rfl
  ·conv=>whnf
   refine .mk (by simp only[okI] at *; omega) ?_
   conv=>whnf
   have:l.getD i 0=0:=by simpa using h4
   rw[if_pos this] at hall
   refine⟨i+1,⟨by omega,hall⟩,by omega,⟨⟨_,rfl,rfl⟩,trivial⟩,?_,rfl⟩
   repeat' (first|exact trivial|exact⟨_,rfl,rfl⟩|constructor)
 ·conv=>whnf
  refine aG.int ?_
  have hi':l.length<=i:=by simpa using h3
  rw[hall,List.drop_eq_nil_of_le hi']; rfl
def NJ:List Int->Bool
 |a::b::r=>decide (a<b)&&NJ (b::r)
 |_=>true
def lI(l:List Int)(n:Int):Int:=bif l.any (fun i=>yc i n) then 5 else bif NJ l then 0 else 1
theorem S.dN(l:List Int)(n:Int)(f:Bool)(hl:l.length<2^40):au Tryz.prog 101 [.row 0 f (.ints l),.int n] (.int (lI l n)):=by
 refine au.of Bd.dN (by simp) rfl rfl ?_
 conv=>whnf
 refine aP.same [0,1,8,9] (fun i:Nat=>[(10,.int i)]) (fun i=>i<=l.length/\(l.take i).any (fun i=>yc i n)=false) (fun i=>l.length-i) 0 rfl (by decide) rfl (fun _=>rfl) ⟨by omega,by simp⟩ ⟨⟨_,rfl,rfl⟩,trivial⟩ ?_
 conv=>whnf
 refine⟨rfl,?_⟩
 rintro i ⟨hi,hall⟩
 conv=>whnf
 refine⟨fun h3=>?_,fun h3=>?_⟩
 ·have hi':i<l.length:=by simpa using h3
  conv=>whnf
  repeat(refine VC.mk (by first|exact fun h=>⟨h,h⟩|(intro h; rw[h]; rfl)|(simp only[Rw.rng] at *; omega)) ?_; conv=>whnf)
  refine⟨fun h4=>?_,fun h4=>?_⟩
  ·conv=>whnf
   refine aG.int ?_
   rw[lI,sH (d:=0) hi' h4]; rfl
  ·conv=>whnf
   refine .mk (by simp only[okI] at *; omega) ?_
   conv=>whnf
   refine⟨i+1,⟨by omega,?_⟩,by omega,⟨⟨_,rfl,rfl⟩,trivial⟩,?_,rfl⟩
   ·rw[xY (d:=0) hi' hall]; exact h4
   ·repeat' (first|exact trivial|exact⟨_,rfl,rfl⟩|constructor)
 ·have hi':l.length<=i:=by simpa using h3
  rw[List.take_of_length_le hi'] at hall
  conv=>whnf
  refine aP.same [0] (fun i:Nat=>[(7,.int (i+1))]) (fun i=>(i<l.length\/i=0)/\NJ l=NJ (l.drop i)) (fun i=>l.length-i) 0 rfl (by decide) rfl (fun _=>rfl) ⟨by omega,by simp⟩ ⟨⟨_,rfl,rfl⟩,trivial⟩ ?_
  conv=>whnf
  refine⟨rfl,?_⟩
  rintro i ⟨hi,hinc⟩
  conv=>whnf
  refine⟨fun h5=>?_,fun h5=>?_⟩
  ·have hi1:i+1<l.length:=by have:=of_decide_eq_true h5; omega
   rw[gQ 0 (show i<l.length by omega),gQ 0 hi1] at hinc
   simp only[NJ] at hinc
   rw[<- gQ 0 hi1] at hinc
   conv=>whnf
   repeat(refine VC.mk (by simp only[okI,Rw.rng] at *; omega) ?_; conv=>whnf)
   refine⟨fun h6=>?_,fun h6=>?_⟩
   ·conv=>whnf
    refine aG.int ?_
    have e1:((i:Int)+1).toNat=i+1:=by omega
    have e2:((i:Int)+1-1).toNat=i:=by omega
    rw[e1,e2] at h6
    have h6':l.getD (i+1) 0<=l.getD i 0:=of_decide_eq_true h6
    rw[lI,hall,hinc,decide_eq_false (by omega)]; rfl
   ·conv=>whnf
    refine .mk (by simp only[okI] at *; omega) ?_
    conv=>whnf
    have e1:((i:Int)+1).toNat=i+1:=by omega
    have e2:((i:Int)+1-1).toNat=i:=by omega
    rw[e1,e2] at h6
    have h6': ¬ l.getD (i+1) 0<=l.getD i 0:=of_decide_eq_false h6
    rw[decide_eq_true (by omega),Bool.true_and] at hinc
    refine⟨i+1,⟨by omega,hinc⟩,by omega,⟨⟨_,rfl,rfl⟩,trivial⟩,?_,rfl⟩
    repeat' (first|exact trivial|exact⟨_,rfl,rfl⟩|constructor)
  ·conv=>whnf
   refine aG.int ?_
   have h5': ¬ ((i:Int)+1<l.length):=of_decide_eq_false h5
   have:NJ l=true:=by
    rw[hinc]
    rcases hd:l.drop i with _|⟨a,_|⟨b,r⟩⟩
    ·rfl
    ·rfl
    ·have:=congrArg List.length hd
     simp only[List.length_drop,List.length_cons] at this
     omega
   rw[lI,hall,this]; rfl
def Yl(n:Int):Bool:=decide (n>= -100)&&decide (n<=100)
theorem S.fZ(n:Int):au Tryz.prog 150 [.int n] (.bool (Yl n)):=by
 refine au.of Bd.fZ (by simp) rfl rfl ?_
 conv=>whnf
 repeat(refine VC.mk id ?_; conv=>whnf)
 exact aG.bool rfl
def Vg(l:Lin):Bool:=Yl l.c&&Yl l.n&&Yl l.t&&Yl l.f
theorem S.jc(l:Lin):au Tryz.prog 126 [.dat (.lin l)] (.bool (Vg l)):=by
 refine au.of Bd.jc (by simp) rfl rfl ?_
 conv=>whnf
 refine ah.pure (S.fZ l.c) rfl ?_
 conv=>whnf
 repeat(refine VC.mk id ?_; conv=>whnf)
 refine ah.jC (fun _=>S.fZ l.n) rfl ?_
 conv=>whnf
 repeat(refine VC.mk id ?_; conv=>whnf)
 refine ah.jC (fun _=>S.fZ l.t) rfl ?_
 conv=>whnf
 repeat(refine VC.mk id ?_; conv=>whnf)
 refine ah.jC (fun _=>S.fZ l.f) rfl ?_
 conv=>whnf
 refine VC.mk id ?_
 conv=>whnf
 exact aG.bool rfl
def jI(p:aH)(v:Int):Int:=iq (decide (v< -1)||decide (v>=p.values.length)) 5
theorem S.fC(p:aH)(v:Int):au Tryz.prog 156 [.dat (.mJ p),.int v] (.int (jI p v)):=by
 refine au.of Bd.fC (by simp) rfl rfl ?_
 conv=>whnf
 repeat(refine VC.mk (by first|exact id|exact fun h=>⟨h,h⟩|(intro h; rw[h]; rfl)) ?_; conv=>whnf)
 refine ah.pure (S.bP _ 5) rfl ?_
 conv=>whnf
 exact aG.int rfl
theorem nez{a:Int}(h:(a !=0)=true):a≠0:=by simpa using h
theorem eqz{a:Int}(h:(a !=0)=false):a=0:=by simpa using h
def xF(k t:Int):Bool:=bif k==1||k==2||k==3 then t==1 else bif k==4||k==5 then !(t==1) else false
theorem S.mY(k t:Int):au Tryz.prog 153 [.int k,.int t] (.bool (xF k t)):=by
 refine au.of Bd.mY (by simp) rfl rfl ?_
 conv=>whnf
 refine⟨fun h1=>?_,fun h1=>?_⟩
 ·conv=>whnf
  refine Fork.mk (fun _=>?_) (fun q=>absurd (q.symm.trans (h1)) Bool.false_ne_true)
  conv=>whnf
  exact aG.bool (by simp[xF,h1])
 ·conv=>whnf
  refine⟨fun h2=>?_,fun h2=>?_⟩
  ·conv=>whnf
   refine Fork.mk (fun _=>?_) (fun q=>absurd (q.symm.trans (h2)) Bool.false_ne_true)
   conv=>whnf
   exact aG.bool (by simp[xF,h1,h2])
  ·conv=>whnf
   refine⟨fun h3=>?_,fun h3=>?_⟩
   ·conv=>whnf
    exact aG.bool (by simp[xF,h1,h2,h3])
   ·conv=>whnf
    refine⟨fun h4=>?_,fun h4=>?_⟩
    ·conv=>whnf
     refine Fork.mk (fun _=>?_) (fun q=>absurd (q.symm.trans (h4)) Bool.false_ne_true)
     conv=>whnf
     exact aG.bool (by simp[xF,h1,h2,h3,h4,bne])
    ·conv=>whnf
     refine⟨fun h5=>?_,fun h5=>?_⟩
     ·conv=>whnf
      exact aG.bool (by simp[xF,h1,h2,h3,h4,h5,bne])
     ·conv=>whnf
      exact aG.bool (by simp[xF,h1,h2,h3,h4,h5])
def Ad:List Int->Int->Int
 |[],_=>0
 |x::r,n=>if fA x n=0 then Ad r n else fA x n
def Eb(l:List Int)(n:Int):Int:=bif (l.length:Int) !=n then 1 else Ad l n
theorem S.jm(l:List Int)(n:Int)(f:Bool)(hl:l.length<2^40):au Tryz.prog 157 [.row 0 f (.ints l),.int n] (.int (Eb l n)):=by
 refine au.of Bd.jm (by simp) rfl rfl ?_
 conv=>whnf
 refine⟨fun h=>?_,fun h=>?_⟩
 ·conv=>whnf
  exact aG.int (by rw[Eb,h]; rfl)
 ·conv=>whnf
  refine aP.same [0,1,12,13] (fun i:Nat=>[(14,.int i)]) (fun i=>i<=l.length/\Ad l n=Ad (l.drop i) n) (fun i=>l.length-i) 0 rfl (by decide) rfl (fun _=>rfl) ⟨by omega,by simp⟩ ⟨⟨_,rfl,rfl⟩,trivial⟩ ?_
  conv=>whnf
  refine⟨rfl,?_⟩
  rintro i ⟨hi,hall⟩
  conv=>whnf
  refine⟨fun h3=>?_,fun h3=>?_⟩
  ·have hi':i<l.length:=by simpa using h3
   rw[gQ 0 hi'] at hall
   simp only[Ad] at hall
   conv=>whnf
   refine .mk (by simp only[Rw.rng] at *; omega) ?_
   conv=>whnf
   refine ah.pure (S.bV (l.getD i 0) n) rfl ?_
   conv=>whnf
   refine⟨fun h4=>?_,fun h4=>?_⟩
   ·conv=>whnf
    refine aG.int ?_
    have:fA (l.getD i 0) n≠0:=by simpa using h4
    rw[Eb,h,cond_false,hall,if_neg this]
   ·conv=>whnf
    refine .mk (by simp only[okI] at *; omega) ?_
    conv=>whnf
    have:fA (l.getD i 0) n=0:=by simpa using h4
    rw[if_pos this] at hall
    refine⟨i+1,⟨by omega,hall⟩,by omega,⟨⟨_,rfl,rfl⟩,trivial⟩,?_,rfl⟩
    repeat' (first|exact trivial|exact⟨_,rfl,rfl⟩|constructor)
  ·conv=>whnf
   refine aG.int ?_
   have hi':l.length<=i:=by simpa using h3
   rw[Eb,h,cond_false,hall,List.drop_eq_nil_of_le hi']; rfl
def guardE(p:aH)(g:Cc):Int:=gK [fA g.message p.messages.length,iq (decide (g.Ik<1)||decide (g.Ik>100)) 1,iq (!(Vg g.bound)) 4]
def zn(p:aH):List Cc->Int
 |[]=>0
 |g::r=>if guardE p g=0 then zn p r else guardE p g
def CS(p:aH)(l:List Cc):Int:=if zn p l=0 then iq (decide ((l.length:Int)>2)) 4 else zn p l
theorem S.kR(p:aH)(l:List Cc)(f:Bool)(hl:l.length<2^40):au Tryz.prog 155 [.dat (.mJ p),.row 7 f (.oZ l)] (.int (CS p l)):=by
 refine au.of Bd.kR (by simp) rfl rfl ?_
 conv=>whnf
 refine aP.same [1,2,8,9] (fun i:Nat=>[(10,.int i)]) (fun i=>i<=l.length/\zn p l=zn p (l.drop i)) (fun i=>l.length-i) 0 rfl (by decide) rfl (fun _=>rfl) ⟨by omega,by simp⟩ ⟨⟨_,rfl,rfl⟩,trivial⟩ ?_
 conv=>whnf
 refine⟨rfl,?_⟩
 rintro i ⟨hi,hall⟩
 conv=>whnf
 refine⟨fun h3=>?_,fun h3=>?_⟩
 ·have hi':i<l.length:=by simpa using h3
  rw[gQ default hi'] at hall
  simp only[zn] at hall
  conv=>whnf
  refine .mk (by simp only[Rw.rng] at *; omega) ?_
  conv=>whnf
  refine ah.pure (S.bV (l.getD i default).message p.messages.length) rfl ?_
  conv=>whnf
  repeat(refine VC.mk (by first|exact id|(intro h; rw[h]; rfl)) ?_; conv=>whnf)
  refine ah.pure (S.bP (decide ((l.getD i default).Ik<1)||decide ((l.getD i default).Ik>100)) 1) rfl ?_
  conv=>whnf
  refine ah.pure (S.jc (l.getD i default).bound) rfl ?_
  conv=>whnf
  refine ah.pure (S.bP (!(Vg (l.getD i default).bound)) 4) rfl ?_
  conv=>whnf
  refine ah.pure (S.bH [fA (l.getD i default).message p.messages.length,iq (decide ((l.getD i default).Ik<1)||decide ((l.getD i default).Ik>100)) 1,iq (!(Vg (l.getD i default).bound)) 4] true (show 3<2^40 by decide)) rfl ?_
  conv=>whnf
  refine⟨fun h4=>?_,fun h4=>?_⟩
  ·conv=>whnf
   refine aG.int ?_
   have h4':guardE p (l.getD i default)≠0:=nez h4
   rw[if_neg h4'] at hall
   rw[CS,hall,if_neg h4']; rfl
  ·conv=>whnf
   refine .mk (by simp only[okI] at *; omega) ?_
   conv=>whnf
   have h4':guardE p (l.getD i default)=0:=eqz h4
   rw[if_pos h4'] at hall
   refine⟨i+1,⟨by omega,hall⟩,by omega,⟨⟨_,rfl,rfl⟩,trivial⟩,?_,rfl⟩
   repeat' (first|exact trivial|exact⟨_,rfl,rfl⟩|constructor)
 ·have hi':l.length<=i:=by simpa using h3
  rw[List.drop_eq_nil_of_le hi'] at hall
  conv=>whnf
  refine ah.pure (S.bP (decide ((l.length:Int)>2)) 4) rfl ?_
  conv=>whnf
  exact aG.int (by rw[CS,hall]; rfl)
structure wI(r:Rule):Prop where
 response:r.response.length<2^30
 guards:r.guards.length<2^30
 ex:r.ex.length<2^30
 all:r.all.length<2^30
 send:r.send.length<2^30
 left:r.left.length<2^30
 right:r.right.length<2^30
 parent:r.parent.length<2^30
def AP(r:Rule):Bool :=
 decide ((r.response.length:Int)+r.guards.length+r.ex.length+r.all.length+r.send.length+r.left.length+r.right.length+r.parent.length>0)||r.iw !=0||r.Dc !=0||r.pos !=0||r.direction !=0||r.read != -1||r.write != -1
def kS(r:Rule)(t:Int):Bool :=
 bif r.kind==1 then AP {r with guards:=[],ex:=[],all:=[],send:=[],read:= -1,write:= -1} else
 bif r.kind==2 then(bif decide ((r.response.length:Int)>0) then true else AP {r with iw:=0,Dc:=0,response:=[],read:= -1,write:= -1}) else
 bif r.kind==3 then AP {r with response:=[],read:= -1,write:= -1} else
 bif r.kind==4 then(bif t==4 then AP {r with pos:=0,left:=[],right:=[],parent:=[]} else AP {r with pos:=0,left:=[],right:=[]}) else
 bif r.kind==5 then AP {r with iw:=0,Dc:=0,direction:=0} else AP r
theorem S.jX(r:Rule)(t:Int)(hs:wI r):au Tryz.prog 154 [.dat (.rule r),.int t] (.bool (kS r t)):=by
 obtain⟨g1,g2,g3,g4,g5,g6,g7,g8⟩:=hs
 refine au.of Bd.jX (by simp) rfl rfl ?_
 conv=>whnf
 refine⟨fun h1=>?_,fun h1=>?_⟩
 ·conv=>whnf
  repeat(refine VC.mk (by first|exact id|(intro h; rw[h]; rfl)|(simp only[okI] at *; omega)) ?_; conv=>whnf)
  exact aG.bool (by simp[kS,AP,h1])
 ·conv=>whnf
  refine⟨fun h2=>?_,fun h2=>?_⟩
  ·conv=>whnf
   refine⟨fun h6=>?_,fun h6=>?_⟩
   ·conv=>whnf
    exact aG.bool (by rw[kS,h1,h2,show decide ((r.response.length:Int)>0)=true from h6]; rfl)
   ·conv=>whnf
    repeat(refine VC.mk (by first|exact id|(intro h; rw[h]; rfl)|(simp only[okI] at *; omega)) ?_; conv=>whnf)
    exact aG.bool (by rw[kS,h1,h2,show decide ((r.response.length:Int)>0)=false from h6]; simp[AP])
  ·conv=>whnf
   refine⟨fun h3=>?_,fun h3=>?_⟩
   ·conv=>whnf
    repeat(refine VC.mk (by first|exact id|(intro h; rw[h]; rfl)|(simp only[okI] at *; omega)) ?_; conv=>whnf)
    exact aG.bool (by simp[kS,AP,h1,h2,h3])
   ·conv=>whnf
    refine⟨fun h4=>?_,fun h4=>?_⟩
    ·conv=>whnf
     refine⟨fun h7=>?_,fun h7=>?_⟩
     ·conv=>whnf
      repeat(refine VC.mk (by first|exact id|(intro h; rw[h]; rfl)|(simp only[okI] at *; omega)) ?_; conv=>whnf)
      exact aG.bool (by simp[kS,AP,h1,h2,h3,h4,h7])
     ·conv=>whnf
      repeat(refine VC.mk (by first|exact id|(intro h; rw[h]; rfl)|(simp only[okI] at *; omega)) ?_; conv=>whnf)
      exact aG.bool (by simp[kS,AP,h1,h2,h3,h4,h7])
    ·conv=>whnf
     refine⟨fun h5=>?_,fun h5=>?_⟩
     ·conv=>whnf
      repeat(refine VC.mk (by first|exact id|(intro h; rw[h]; rfl)|(simp only[okI] at *; omega)) ?_; conv=>whnf)
      exact aG.bool (by simp[kS,AP,h1,h2,h3,h4,h5])
     ·conv=>whnf
      repeat(refine VC.mk (by first|exact id|(intro h; rw[h]; rfl)|(simp only[okI] at *; omega)) ?_; conv=>whnf)
      exact aG.bool (by simp[kS,AP,h1,h2,h3,h4,h5])
def Ym(h:Hz):Hz->Prop
 |[]=>True
 |(i,o)::r=>h.get i=o/\Ym h r
theorem Vh{h:Hz}: ∀ {h0:Hz},Ym h h0-> ∀ {i:Nat} {o:OV},h0.get i=some o->h.get i=some o:=by
 intro h0
 induction h0 with
 |nil=>intro _ i o e; cases e
 |cons p r ih =>
  obtain⟨j,u⟩:=p
  intro hs i o e
  simp only[Hz.get] at e
  cases hb:Nat.beq j i with
  |true=>rw[hb] at e; simp only[cond_true] at e; rw[<- Nat.eq_of_beq_eq_true hb,hs.1,e]
  |false=>rw[hb] at e; exact ih hs.2 e
def Vj:Hz->Bool
 |[]=>true
 |(_,some o)::r=>o.EL&&Vj r
 |(_,none)::r=>Vj r
theorem OW: ∀ {h0:Hz},Vj h0=true-> ∀ {i:Nat} {o:OV},h0.get i=some o->o.EL=true:=by
 intro h0
 induction h0 with
 |nil=>intro _ i o e; cases e
 |cons p r ih =>
  obtain⟨j,u⟩:=p
  intro hs i o e
  simp only[Hz.get] at e
  cases hb:Nat.beq j i with
  |true =>
   rw[hb] at e; simp only[cond_true] at e; subst e
   simp only[Vj,Bool.and_eq_true] at hs; exact hs.1
  |false =>
   rw[hb] at e
   refine ih ?_ e
   cases u with
   |none=>exact hs
   |some o=>simp only[Vj,Bool.and_eq_true] at hs; exact hs.2
theorem OV.OX{o:OV}(h:o.EL=true):T.aN (fun _=>False) o.ay.l:=OV.Fe h
theorem mO.same{nx:Nat}{h0 h:Hz}{n:Nat}{post:T->Hp->Prop}{v:V}(hf:v.free=true)(hs:Ym h h0)(hg:Eu nx h0=true)(hfr:Vj h0=true)(hp:post v.aF h0.aj):mO h0 n post v h:=by
 have hG:=Cj hg
 have get: ∀ i ob,h0.aj i=some ob-> ∃ o,h0.get i=some o/\ob=o.ay:=fun i ob e=>by
  simp only[Hz.aj,Option.map_eq_some_iff] at e
  obtain⟨o,e1,e2⟩:=e
  exact⟨o,e1,e2.symm⟩
 have hfree:=V.kL v hf
 refine⟨fun _=>False,id,v.aF,h0.aj,hp,?_,fun i ob hi=>?_,fun i j _ _ e=>e,T.aX (fun _ h=>h.elim) _ (dY hfree),fun i ob hi=>?_,fun i _ _=>rfl⟩
 ·rw[Qp]; exact aB _
 ·obtain⟨o,e1,rfl⟩:=get i ob hi
  refine⟨o.ay,aO (Vh hs e1),fun h=>h,rfl,rfl,?_,zV (hG i _ hi).2.2⟩
  rw[uD _ (OV.OX (OW hfr e1))]; exact aW _
 ·obtain⟨o,e1,rfl⟩:=get i ob hi
  exact⟨.inl (by rw[hi]; rfl),T.aA (fun _ h=>h.elim) _ (OV.OX (OW hfr e1))⟩
abbrev hRP(p:aH)(r:Rule):Hz:=[(7,some (.box 85 19 (.dat (.rule r)))),(0,some (.box 27 11 (.dat (.mJ p))))]
theorem S.LU(p:aH)(r x:Rule)(n:Nat):aT Tryz.prog 152 (V.aS [.dat (.rule x),.ptr 7 0 0]) (hRP p r).aj n (fun t hp=>t= .bool (x.name==r.name)/\hp=(hRP p r).aj):=by
 refine o7.of (nx:=8) Bd.kX (by simp) ⟨_,_,rfl,rfl⟩ rfl rfl ?_
 conv=>whnf
 exact mO.same (nx:=8) rfl ⟨rfl,rfl,trivial⟩ rfl rfl ⟨rfl,rfl⟩
def CU(s:Str):List Rule->Nat->Int
 |[],_=> -1
 |x::r,i=>bif x.name==s then(i:Int) else CU s r (i+1)
theorem S.Vk(p:aH)(r:Rule)(l:List Rule)(f:Bool)(hl:l.length<2^30)(n:Nat):aT Tryz.prog 169 (V.aS [.row 19 f (.rules l),.fn 152 [.ptr 7 0 0]]) (hRP p r).aj n (fun t hp=>t= .int (CU r.name l 0)/\hp=(hRP p r).aj):=by
 refine o7.of (nx:=8) Bd.fD (by simp) ⟨_,_,rfl,rfl⟩ rfl rfl ?_
 conv=>whnf
 refine aP.same [0,1,6,7] (fun i:Nat=>[(8,.int i)]) (fun i=>i<=l.length/\CU r.name l 0=CU r.name (l.drop i) i) (fun i=>l.length-i) 0 rfl (by decide) rfl (fun _=>rfl) ⟨by omega,by simp⟩ ⟨⟨_,rfl,rfl⟩,trivial⟩ ?_
 conv=>whnf
 refine⟨rfl,?_⟩
 rintro i ⟨hi,hall⟩
 conv=>whnf
 refine⟨fun h3=>?_,fun h3=>?_⟩
 ·have hi':i<l.length:=by simpa using h3
  rw[gQ default hi'] at hall
  simp only[CU] at hall
  conv=>whnf
  refine .mk (by simp only[Rw.rng] at *; omega) ?_
  conv=>whnf
  refine ah.heap (S.LU p r (l.getD i default) _) ?_
  rintro t hp ⟨rfl,rfl⟩
  refine⟨.bool _,hRP p r,rfl,rfl,?_⟩
  conv=>whnf
  refine⟨fun h4=>?_,fun h4=>?_⟩
  ·conv=>whnf
   rw[h4] at hall
   exact mO.same (nx:=8) rfl ⟨rfl,rfl,trivial⟩ rfl rfl ⟨by rw[hall]; rfl,rfl⟩
  ·conv=>whnf
   refine .mk (by simp only[okI] at *; omega) ?_
   conv=>whnf
   rw[h4] at hall
   refine⟨i+1,⟨by omega,hall⟩,by omega,⟨⟨_,rfl,rfl⟩,trivial⟩,?_,rfl⟩
   repeat' (first|exact trivial|exact⟨_,rfl,rfl⟩|constructor)
 ·conv=>whnf
  have hi':l.length<=i:=by simpa using h3
  rw[List.drop_eq_nil_of_le hi'] at hall
  exact mO.same (nx:=8) rfl ⟨rfl,rfl,trivial⟩ rfl rfl ⟨by rw[hall]; rfl,rfl⟩
theorem Yn{s:Str}{l:List Rule}{i:Nat}:decide (0<=CU s l i)=l.any fun x=>x.name==s:=by
 have: ∀ {l:List Rule} {i:Nat},0<=CU s l i↔(l.any fun x=>x.name==s)=true:=by
  intro l
  induction l with
  |nil=>intro i; simp[CU]
  |cons x r ih =>
   intro i
   rw[List.any_cons,Bool.or_eq_true,<- ih (i:=i+1)]
   show(0:Int)<=(bif x.name==s then(i:Int) else CU s r (i+1))↔_
   generalize (x.name==s)=b
   cases b<;>simp
 rw[Bool.eq_iff_iff,decide_eq_true_eq]; exact this
theorem S.LV(p:aH)(r:Rule)(l:List Rule)(f:Bool)(hl:l.length<2^30)(n:Nat):aT Tryz.prog 151 (V.aS [.row 19 f (.rules l),.fn 152 [.ptr 7 0 0]]) (hRP p r).aj n (fun t hp=>t= .bool (l.any fun x=>x.name==r.name)/\hp=(hRP p r).aj):=by
 refine o7.of (nx:=8) Bd.eu (by simp) ⟨_,_,rfl,rfl⟩ rfl rfl ?_
 conv=>whnf
 refine ah.heap (S.Vk p r l f hl _) ?_
 rintro t hp ⟨rfl,rfl⟩
 refine⟨.int _,hRP p r,rfl,rfl,?_⟩
 conv=>whnf
 exact mO.same (nx:=8) rfl ⟨rfl,rfl,trivial⟩ rfl rfl ⟨by rw[<- Yn (i:=0)]; rfl,rfl⟩
theorem ah.mkRow{P:Program}{f:FuncId}{args:List V}{h:Hz}{n ty k:Nat}{r:Rw}{K:V->Hz->Prop}{KW:Nat->V->Hz->Prop}(H:uT P f (V.aS args) (fun n=>.own n) (some ⟨ty,k,r.aS⟩))(hK:K (.own n) ((n,some (.row ty k r []))::h)):ah P false none f args h n K KW :=
 ah.heap (uT.frame H _ _) (by rintro t hp ⟨rfl,rfl⟩; exact⟨.own n,_,rfl,by rw[bn]; simp[gG,OV.ay,V.aS],hK⟩)
theorem S.Concat(a b c:List Str)(n:Nat)(h0:0<a.length)(ha:a.length<2^20)(hb:b.length<2^20)(hc:c.length<2^20) :
  aT Tryz.prog 148 (V.aS [.EG 0 false [.row 0 false (.strs a),.row 0 false (.strs b),.row 0 false (.strs c)]]) no n (fun t hp=>t= .own n/\hp=Hz.aj [(n,some (.row 9 0 (.strs (a++b++c)) []))]):=by
 refine o7.of (nx:=0) (h0:=[]) Bd.iJ (by simp) ⟨_,_,rfl,rfl⟩ rfl rfl ?_
 conv=>whnf
 refine aP.times 4 rfl ?_
 conv=>whnf
 refine Fork.mk (fun _=>?_) (fun q=>absurd (q.symm.trans (rfl)) Bool.false_ne_true)
 conv=>whnf
 repeat(refine VC.mk (by first|(omega)|(simp only[okI] at *; omega)) ?_; conv=>whnf)
 refine Fork.mk (fun q=>absurd (q.symm.trans (decide_eq_false (by omega))).symm Bool.false_ne_true) (fun _=>?_)
 conv=>whnf
 refine .mk (by simp only[okI] at *; omega) ?_
 conv=>whnf
 refine Fork.mk (fun _=>?_) (fun q=>absurd (q.symm.trans (rfl)) Bool.false_ne_true)
 conv=>whnf
 repeat(refine VC.mk (by first|(omega)|(simp only[okI] at *; omega)) ?_; conv=>whnf)
 refine Fork.mk (fun q=>absurd (q.symm.trans (decide_eq_false (by omega))).symm Bool.false_ne_true) (fun _=>?_)
 conv=>whnf
 refine .mk (by simp only[okI] at *; omega) ?_
 conv=>whnf
 refine Fork.mk (fun _=>?_) (fun q=>absurd (q.symm.trans (rfl)) Bool.false_ne_true)
 conv=>whnf
 repeat(refine VC.mk (by first|(omega)|(simp only[okI] at *; omega)) ?_; conv=>whnf)
 refine Fork.mk (fun q=>absurd (q.symm.trans (decide_eq_false (by omega))).symm Bool.false_ne_true) (fun _=>?_)
 conv=>whnf
 refine .mk (by simp only[okI] at *; omega) ?_
 conv=>whnf
 refine Fork.mk (fun q=>absurd (q.symm.trans (rfl)).symm Bool.false_ne_true) (fun _=>?_)
 conv=>whnf
 have e:(0+(a.length:Int)+b.length+c.length)=((a.length+b.length+c.length:Nat):Int):=by omega
 rw[e]
 refine ah.mkRow (r:=.strs []) (S.Grow (a.length+b.length+c.length) (by omega) (by omega)) ?_
 conv=>whnf
 refine aP.times 4 rfl ?_
 conv=>whnf
 refine Fork.mk (fun _=>?_) (fun q=>absurd (q.symm.trans (rfl)) Bool.false_ne_true)
 conv=>whnf
 repeat(refine VC.mk (by first|(omega)|(simp only[o8,qF,Rw.len,List.length_nil]; omega)|(simp only[okI] at *; omega)) ?_; conv=>whnf)
 refine Fork.mk (fun _=>?_) (fun q=>absurd (q.symm.trans (rfl)) Bool.false_ne_true)
 conv=>whnf
 repeat(refine VC.mk (by first|(omega)|(simp only[o8,qF,Rw.len,List.length_append,List.length_nil]; omega)|(simp only[okI] at *; omega)) ?_; conv=>whnf)
 refine Fork.mk (fun _=>?_) (fun q=>absurd (q.symm.trans (rfl)) Bool.false_ne_true)
 conv=>whnf
 repeat(refine VC.mk (by first|(omega)|(simp only[o8,qF,Rw.len,List.length_append,List.length_nil]; omega)|(simp only[okI] at *; omega)) ?_; conv=>whnf)
 refine Fork.mk (fun q=>absurd (q.symm.trans (rfl)).symm Bool.false_ne_true) (fun _=>?_)
 conv=>whnf
 refine mO.one (c:=n) (o:=.row 9 0 (.strs (a++b++c)) []) (t:=.own n) rfl rfl rfl nofun (.inr rfl) rfl (.eq rfl) ⟨rfl,rfl⟩
theorem S.aaJ(a b c:List Str)(h0:0<a.length)(ha:a.length<2^20)(hb:b.length<2^20)(hc:c.length<2^20) :
  uT Tryz.prog 148 (V.aS [.EG 0 false [.row 0 false (.strs a),.row 0 false (.strs b),.row 0 false (.strs c)]]) (fun n=>.own n) (some ⟨9,0,(Rw.strs (a++b++c)).aS⟩):=by
 refine⟨rfl,fun _=>rfl,(fun ob h=>by cases h; rw[eG]; intro t ht; obtain⟨x,_,rfl⟩:=List.mem_map.1 ht; rfl),(fun ob h=>by cases h; exact fun e=>absurd e (by decide:(0:Nat)≠eP)),fun n=>(S.Concat a b c n h0 ha hb hc).mono ?_⟩
 rintro t hp ⟨rfl,rfl⟩
 refine⟨rfl,?_⟩
 rw[bn]; simp[gG,OV.ay,V.aS]; rfl
theorem ah.aaK{P:Program}{f:FuncId}{args:List V}{ts:List T}{h:Hz}{n ty k:Nat}{r:Rw}{K:V->Hz->Prop}{KW:Nat->V->Hz->Prop}(H:uT P f ts (fun n=>.own n) (some ⟨ty,k,r.aS⟩))(hs:T.dG (fun _=>True) h.aj ts (V.aS args))(hh:T.tY r.aS=true)(hK:K (.own n) ((n,some (.row ty k r []))::h)):ah P false none f args h n K KW :=
 ⟨.inl (uT.lend H hs rfl (fun _ e=>by cases e; exact hh) ⟨.own n,_,rfl,by rw[bn]; simp[gG,OV.ay,V.aS],(fun e=>by cases e),hK⟩)⟩
theorem ad2{h:Hz}{j ty:Nat}{Z:Nat->Prop}{l:List V}(hz:Z j)(q:h.get j=some (.row ty 0 .nil l))(hf:V.cZ l=true):T.sub Z h.aj (V.EG 0 false l).aF (V.own j).aF:=by
 show T.sub Z h.aj (.sl 0 false (V.aS l)) (.own j)
 simp only[T.sub]
 exact⟨trivial,hz,V.jB l hf,by decide,ty,by rw[aO q]; rfl⟩
theorem Vl{l:List Str}:T.tY (Rw.strs l).aS=true:=by
 show T.tY (l.map eS)=true
 induction l with
 |nil=>rfl
 |cons s r ih=>simp only[List.map_cons,T.tY,ih]; rfl
theorem ad3{h:Hz}{j i ty:Nat}{Z:Nat->Prop}{l:List Str}(hz:Z j)(q:h.get j=some (.row ty 0 (.strs l) []))(hi:i<=l.length):T.sub Z h.aj (V.row 0 false (.strs (l.take i))).aF (V.nO j 0 i).aF:=by
 show T.sub Z h.aj (.sl 0 false ((l.take i).map eS)) (.nO j 0 i)
 simp only[T.sub]
 refine⟨trivial,hz,?_,by decide,ty,l.map eS,?_,by simpa using hi,by simp[List.map_take]⟩
 ·rw[eG]; intro t ht; obtain⟨x,_,rfl⟩:=List.mem_map.1 ht; rfl
 ·rw[aO q]; simp[OV.ay,Rw.aS,V.aS]
def allNames(p:aH):List Str:=p.states++p.messages++p.values
def SN(l:List Str)(i:Nat):Bool:= !(validName (l.getD i []))||(l.take i).any fun x=>l.getD i []==x
def Hq(p:aH):Int:=bif (List.range (allNames p).length).any (SN (allNames p)) then 2 else 0
theorem uZ{n:Nat}{f:Nat->Bool}:(List.range n).any f=true↔ ∃ i,i<n/\f i=true:=by
 simp[List.any_eq_true]
theorem S.lT(p:aH)(h0:0<p.states.length)(h1:p.states.length<2^20)(h2:p.messages.length<2^20)(h3:p.values.length<2^20):au Tryz.prog 125 [.dat (.mJ p)] (.int (Hq p)):=by
 have hlen:(allNames p).length<2^30:=by simp only[allNames,List.length_append]; omega
 refine au.of Bd.lT (by simp) rfl rfl ?_
 conv=>whnf
 refine ah.aaK (r:=.strs (allNames p)) (S.aaJ p.states p.messages p.values h0 h1 h2 h3) (And.intro (ad2 (ty:=22) trivial rfl rfl) trivial) Vl ?_
 conv=>whnf
 refine aP.same [3,14,15] (fun i:Nat=>[(16,.int i)]) (fun i=>i<=(allNames p).length/\(List.range i).any (SN (allNames p))=false) (fun i=>(allNames p).length-i) 0 rfl (by decide) rfl (fun _=>rfl) ⟨Nat.zero_le _,rfl⟩ ⟨⟨_,rfl,rfl⟩,trivial⟩ ?_
 conv=>whnf
 refine⟨rfl,?_⟩
 rintro i ⟨hi,hall⟩
 conv=>whnf
 refine⟨fun h4=>?_,fun h4=>?_⟩
 ·have hi':i<(allNames p).length:=by simpa using h4
  conv=>whnf
  repeat(refine VC.mk (by simp only[Rw.rng] at *; omega) ?_; conv=>whnf)
  refine ah.pure (S.fH ((allNames p).getD i [])) rfl ?_
  conv=>whnf
  repeat(refine VC.mk (by first|exact fun h=>⟨h,h⟩|(intro h; (repeat' apply And.intro)<;>first|exact h|omega|(simp only[Rw.xW]; omega)|(simp only[Rw.rng]; omega))) ?_; conv=>whnf)
  refine ah.ada (fun _=>S.slices_Contains_string ((allNames p).take i) ((allNames p).getD i []) false (by rw[List.length_take]; omega)) (fun _=>And.intro (ad3 (ty:=9) trivial rfl (by omega)) (And.intro (aB _) trivial)) rfl rfl ?_
  conv=>whnf
  refine .mk (by intro h; rw[h]; rfl) ?_
  conv=>whnf
  refine⟨fun h5=>?_,fun h5=>?_⟩
  ·conv=>whnf
   refine aG.int ?_
   rw[Hq,uZ.2 ⟨i,hi',h5⟩]; rfl
  ·conv=>whnf
   refine .mk (by simp only[okI] at *; omega) ?_
   conv=>whnf
   refine⟨i+1,⟨by omega,?_⟩,by omega,⟨⟨_,rfl,rfl⟩,trivial⟩,?_,rfl⟩
   ·rw[List.range_succ,List.any_append,hall]
    simp only[List.any_cons,List.any_nil,Bool.or_false,Bool.false_or]; exact h5
   ·repeat' (first|exact trivial|exact⟨_,rfl,rfl⟩|constructor)
 ·have hi':(allNames p).length<=i:=by simpa using h4
  have e:i=(allNames p).length:=Nat.le_antisymm hi hi'
  subst e
  conv=>whnf
  exact aG.int (by rw[Hq,hall]; rfl)
theorem ah.ad4{P:Program}{f:FuncId}{args:List V}{h:Hz}{hp0:Hp}{n:Nat}{K:V->Hz->Prop}{KW:Nat->V->Hz->Prop}{post:T->Hp->Prop}(S:aT P f (V.aS args) hp0 n post)(e:h.aj=hp0)(hK: ∀ t hp,post t hp-> ∃ v h',t=v.aF/\hp=Hz.aj h'/\K v h'):ah P false none f args h n K KW:=by
 subst e; exact ah.heap S hK
theorem OY{i:Nat}{a b:Option OV}{r:Hz}:Hz.aj ((i,a)::(i,b)::r)=Hz.aj ((i,a)::r):=funext fun j=>by
 simp only[Hz.aj,Hz.get]; cases Nat.beq i j<;>rfl
structure gq(p:aH):Prop where
 states:p.states.length<2^20
 messages:p.messages.length<2^20
 values:p.values.length<2^20
 dM:p.dM.length<2^30
 initial:p.initial.length<2^30
 leader:p.leader.length<2^30
 rules:p.rules.length<2^30
 rule: ∀ i,wI (p.rules.getD i default)
 oZ:(p.rules.flatMap Rule.guards).length<2^30
def qE(p:aH)(i:Nat):Bool:= !(validName (p.rules.getD i default).name)||(p.rules.take i).any fun x=>x.name==(p.rules.getD i default).name
def oz(p:aH)(i:Nat):Bool:= !(xF (p.rules.getD i default).kind p.topology)||kS (p.rules.getD i default) p.topology
def yQ(p:aH)(r:Rule):Int:=gK [fA r.fr p.states.length,fA r.to p.states.length]
def acL(p:aH)(r:Rule):Bool:=decide (r.pos<0)||decide (r.pos>2)||(r.pos !=0&&p.topology==3)
def jE(p:aH)(i:Nat):Int :=
 let r:=p.rules.getD i default
 let n:Int:=p.states.length
 bif qE p i then 2 else bif oz p i then 6 else bif yQ p r !=0 then yQ p r else
 bif r.kind==1 then gK [CS p r.guards,lI r.ex n,lI r.all n,jI p r.read,jI p r.write,lI r.send p.messages.length] else
 bif r.kind==2 then gK [fA r.iw n,fA r.Dc n,jI p r.read,jI p r.write] else
 bif r.kind==3 then gK [Eb r.response n,jI p r.read,jI p r.write] else
 bif r.kind==4 then gK [lI r.left n,lI r.right n,lI r.parent n,iq (acL p r) 1] else
 bif p.topology==4 then gK [fA r.iw n,fA r.Dc n,iq (decide (r.direction<3)||decide (r.direction>4)) 1]
 else gK [fA r.iw n,fA r.Dc n,iq (decide (r.direction<1)||decide (r.direction>2)) 1]
theorem S.jl(p:aH)(i:Nat)(hi:i<p.rules.length)(hp:gq p):au Tryz.prog 127 [.dat (.mJ p),.int i] (.int (jE p i)):=by
 have hr:=hp.rule i
 have hp1:=hp.rules
 have hp2:=hp.states
 have hp3:=hp.messages
 refine au.of Bd.jl (by simp) rfl rfl ?_
 conv=>whnf
 repeat(refine VC.mk (by first|(simp only[Rw.xW]; omega)|(simp only[Rw.rng] at *; omega)) ?_; conv=>whnf)
 refine ah.ad4 (S.LV p (p.rules.getD i default) (p.rules.take i) false (by rw[List.length_take]; omega) _) OY ?_
 rintro t hp' ⟨rfl,rfl⟩
 refine⟨.bool _,hRP p (p.rules.getD i default),rfl,rfl,?_⟩
 conv=>whnf
 refine ah.pure (S.fH (p.rules.getD i default).name) rfl ?_
 conv=>whnf
 refine .mk (by intro h; rw[h]; rfl) ?_
 conv=>whnf
 refine⟨fun h1=>?_,fun h1=>?_⟩
 ·conv=>whnf
  exact aG.int (by rw[jE,show qE p i=true from h1]; rfl)
 ·conv=>whnf
  refine ah.pure (S.mY (p.rules.getD i default).kind p.topology) rfl ?_
  conv=>whnf
  repeat(refine VC.mk (by first|exact id|exact fun h=>⟨h,h⟩) ?_; conv=>whnf)
  refine ah.jC (fun _=>S.jX (p.rules.getD i default) p.topology hr) rfl ?_
  conv=>whnf
  refine .mk (by intro h; rw[h]; rfl) ?_
  conv=>whnf
  refine⟨fun h2=>?_,fun h2=>?_⟩
  ·conv=>whnf
   exact aG.int (by rw[jE,show qE p i=false from h1,show oz p i=true from h2]; rfl)
  ·conv=>whnf
   refine ah.pure (S.bV (p.rules.getD i default).fr p.states.length) rfl ?_
   conv=>whnf
   refine ah.pure (S.bV (p.rules.getD i default).to p.states.length) rfl ?_
   conv=>whnf
   refine ah.pure (S.bH [fA (p.rules.getD i default).fr p.states.length,fA (p.rules.getD i default).to p.states.length] true (show 2<2^40 by decide)) rfl ?_
   conv=>whnf
   refine⟨fun h3=>?_,fun h3=>?_⟩
   ·conv=>whnf
    exact aG.int (by rw[jE,show qE p i=false from h1,show oz p i=false from h2,show(yQ p (p.rules.getD i default) !=0)=true from h3]; rfl)
   ·conv=>whnf
    refine⟨fun h4=>?_,fun h4=>?_⟩
    ·conv=>whnf
     refine ah.pure (S.kR p (p.rules.getD i default).guards false (by have:=hr.guards; omega)) rfl ?_
     conv=>whnf
     refine ah.pure (S.dN (p.rules.getD i default).ex p.states.length false (by have:=hr.ex; omega)) rfl ?_
     conv=>whnf
     refine ah.pure (S.dN (p.rules.getD i default).all p.states.length false (by have:=hr.all; omega)) rfl ?_
     conv=>whnf
     refine ah.pure (S.fC p (p.rules.getD i default).read) rfl ?_
     conv=>whnf
     refine ah.pure (S.fC p (p.rules.getD i default).write) rfl ?_
     conv=>whnf
     refine ah.pure (S.dN (p.rules.getD i default).send p.messages.length false (by have:=hr.send; omega)) rfl ?_
     conv=>whnf
     refine ah.pure (S.bH [CS p (p.rules.getD i default).guards,lI (p.rules.getD i default).ex p.states.length,lI (p.rules.getD i default).all p.states.length,jI p (p.rules.getD i default).read,jI p (p.rules.getD i default).write,lI (p.rules.getD i default).send p.messages.length] true (show 6<2^40 by decide)) rfl ?_
     conv=>whnf
     exact aG.int (by rw[jE,show qE p i=false from h1,show oz p i=false from h2,show(yQ p (p.rules.getD i default) !=0)=false from h3,h4]; rfl)
    ·conv=>whnf
     refine⟨fun h5=>?_,fun h5=>?_⟩
     ·conv=>whnf
      refine ah.pure (S.bV (p.rules.getD i default).iw p.states.length) rfl ?_
      conv=>whnf
      refine ah.pure (S.bV (p.rules.getD i default).Dc p.states.length) rfl ?_
      conv=>whnf
      refine ah.pure (S.fC p (p.rules.getD i default).read) rfl ?_
      conv=>whnf
      refine ah.pure (S.fC p (p.rules.getD i default).write) rfl ?_
      conv=>whnf
      refine ah.pure (S.bH [fA (p.rules.getD i default).iw p.states.length,fA (p.rules.getD i default).Dc p.states.length,jI p (p.rules.getD i default).read,jI p (p.rules.getD i default).write] true (show 4<2^40 by decide)) rfl ?_
      conv=>whnf
      exact aG.int (by rw[jE,show qE p i=false from h1,show oz p i=false from h2,show(yQ p (p.rules.getD i default) !=0)=false from h3,h4,h5]; rfl)
     ·conv=>whnf
      refine⟨fun h6=>?_,fun h6=>?_⟩
      ·conv=>whnf
       refine ah.pure (S.jm (p.rules.getD i default).response p.states.length false (by have:=hr.response; omega)) rfl ?_
       conv=>whnf
       refine ah.pure (S.fC p (p.rules.getD i default).read) rfl ?_
       conv=>whnf
       refine ah.pure (S.fC p (p.rules.getD i default).write) rfl ?_
       conv=>whnf
       refine ah.pure (S.bH [Eb (p.rules.getD i default).response p.states.length,jI p (p.rules.getD i default).read,jI p (p.rules.getD i default).write] true (show 3<2^40 by decide)) rfl ?_
       conv=>whnf
       exact aG.int (by rw[jE,show qE p i=false from h1,show oz p i=false from h2,show(yQ p (p.rules.getD i default) !=0)=false from h3,h4,h5,h6]; rfl)
      ·conv=>whnf
       refine⟨fun h7=>?_,fun h7=>?_⟩
       ·conv=>whnf
        repeat(refine VC.mk (by first|exact id|(intro h; rw[h]; rfl)|(intro h; simp_all; done)) ?_; conv=>whnf)
        refine ah.pure (S.dN (p.rules.getD i default).left p.states.length false (by have:=hr.left; omega)) rfl ?_
        conv=>whnf
        refine ah.pure (S.dN (p.rules.getD i default).right p.states.length false (by have:=hr.right; omega)) rfl ?_
        conv=>whnf
        refine ah.pure (S.dN (p.rules.getD i default).parent p.states.length false (by have:=hr.parent; omega)) rfl ?_
        conv=>whnf
        refine ah.pure (S.bP (acL p (p.rules.getD i default)) 1) rfl ?_
        conv=>whnf
        refine ah.pure (S.bH [lI (p.rules.getD i default).left p.states.length,lI (p.rules.getD i default).right p.states.length,lI (p.rules.getD i default).parent p.states.length,iq (acL p (p.rules.getD i default)) 1] true (show 4<2^40 by decide)) rfl ?_
        conv=>whnf
        exact aG.int (by rw[jE,show qE p i=false from h1,show oz p i=false from h2,show(yQ p (p.rules.getD i default) !=0)=false from h3,h4,h5,h6,h7]; rfl)
       ·conv=>whnf
        refine⟨fun h8=>?_,fun h8=>?_⟩
        ·conv=>whnf
         refine ah.pure (S.bV (p.rules.getD i default).iw p.states.length) rfl ?_
         conv=>whnf
         refine ah.pure (S.bV (p.rules.getD i default).Dc p.states.length) rfl ?_
         conv=>whnf
         repeat(refine VC.mk (by first|exact id|exact fun h=>⟨h,h⟩|(intro h; rw[h]; rfl)) ?_; conv=>whnf)
         refine ah.pure (S.bP (decide ((p.rules.getD i default).direction<3)||decide ((p.rules.getD i default).direction>4)) 1) rfl ?_
         conv=>whnf
         refine ah.pure (S.bH [fA (p.rules.getD i default).iw p.states.length,fA (p.rules.getD i default).Dc p.states.length,iq (decide ((p.rules.getD i default).direction<3)||decide ((p.rules.getD i default).direction>4)) 1] true (show 3<2^40 by decide)) rfl ?_
         conv=>whnf
         exact aG.int (by rw[jE,show qE p i=false from h1,show oz p i=false from h2,show(yQ p (p.rules.getD i default) !=0)=false from h3,h4,h5,h6,h7,h8]; rfl)
        ·conv=>whnf
         refine ah.pure (S.bV (p.rules.getD i default).iw p.states.length) rfl ?_
         conv=>whnf
         refine ah.pure (S.bV (p.rules.getD i default).Dc p.states.length) rfl ?_
         conv=>whnf
         repeat(refine VC.mk (by first|exact id|exact fun h=>⟨h,h⟩|(intro h; rw[h]; rfl)) ?_; conv=>whnf)
         refine ah.pure (S.bP (decide ((p.rules.getD i default).direction<1)||decide ((p.rules.getD i default).direction>2)) 1) rfl ?_
         conv=>whnf
         refine ah.pure (S.bH [fA (p.rules.getD i default).iw p.states.length,fA (p.rules.getD i default).Dc p.states.length,iq (decide ((p.rules.getD i default).direction<1)||decide ((p.rules.getD i default).direction>2)) 1] true (show 3<2^40 by decide)) rfl ?_
         conv=>whnf
         exact aG.int (by rw[jE,show qE p i=false from h1,show oz p i=false from h2,show(yQ p (p.rules.getD i default) !=0)=false from h3,h4,h5,h6,h7,h8]; rfl)
def CV(g:Cc):List Cc->Nat->Int
 |[],_=> -1
 |x::r,i=>bif g==x then(i:Int) else CV g r (i+1)
theorem Yo{g:Cc}{l:List Cc}{i:Nat}:decide (0<=CV g l i)=l.any fun x=>g==x:=by
 have: ∀ {l:List Cc} {i:Nat},0<=CV g l i↔(l.any fun x=>g==x)=true:=by
  intro l
  induction l with
  |nil=>intro i; simp[CV]
  |cons x r ih =>
   intro i
   rw[List.any_cons,Bool.or_eq_true,<- ih (i:=i+1)]
   show(0:Int)<=(bif g==x then(i:Int) else CV g r (i+1))↔_
   generalize (g==x)=b
   cases b<;>simp
 rw[Bool.eq_iff_iff,decide_eq_true_eq]; exact this
theorem S.Yp(l:List Cc)(g:Cc)(f:Bool)(hl:l.length<2^40):au Tryz.prog 170 [.row 7 f (.oZ l),.dat (.UH g)] (.int (CV g l 0)):=by
 refine au.of Bd.dO (by simp) rfl rfl ?_
 conv=>whnf
 refine aP.same [0,3,6,7] (fun i:Nat=>[(8,.int i)]) (fun i=>i<=l.length/\CV g l 0=CV g (l.drop i) i) (fun i=>l.length-i) 0 rfl (by decide) rfl (fun _=>rfl) ⟨by omega,by simp⟩ ⟨⟨_,rfl,rfl⟩,trivial⟩ ?_
 conv=>whnf
 refine⟨rfl,?_⟩
 rintro i ⟨hi,hall⟩
 conv=>whnf
 refine⟨fun h3=>?_,fun h3=>?_⟩
 ·have hi':i<l.length:=by simpa using h3
  rw[gQ default hi'] at hall
  simp only[CV] at hall
  conv=>whnf
  refine .mk (by simp only[Rw.rng] at *; first|omega|(simp_all; done)|(simp_all; omega)) ?_
  conv=>whnf
  refine⟨fun h4=>?_,fun h4=>?_⟩
  ·conv=>whnf
   refine aG.int ?_
   have h4':(g==l.getD i default)=true:=h4
   rw[hall,h4']; rfl
  ·conv=>whnf
   refine .mk (by simp only[okI] at *; first|omega|(simp_all; done)|(simp_all; omega)) ?_
   conv=>whnf
   refine⟨i+1,⟨by omega,?_⟩,by omega,⟨⟨_,rfl,rfl⟩,trivial⟩,?_,rfl⟩
   ·have h4':(g==l.getD i default)=false:=h4
    rw[hall,h4']; rfl
   ·repeat' (first|exact trivial|exact⟨_,rfl,rfl⟩|constructor)
 ·conv=>whnf
  refine aG.int ?_
  have hi':l.length<=i:=by simpa using h3
  rw[hall,List.drop_eq_nil_of_le hi']; rfl
theorem S.OZ(l:List Cc)(g:Cc)(f:Bool)(hl:l.length<2^40):au Tryz.prog 158 [.row 7 f (.oZ l),.dat (.UH g)] (.bool (l.any fun x=>g==x)):=by
 refine au.of Bd.dJ (by simp) rfl rfl ?_
 conv=>whnf
 refine ah.pure (S.Yp l g f hl) rfl ?_
 conv=>whnf
 exact aG.bool Yo.symm
theorem aa3{h:Hz}{j:Nat}{Z:Nat->Prop}{l:List Cc}(hz:Z j)(q:h.get j=some (.row 164 7 (.oZ l) [])):T.sub Z h.aj (V.row 7 false (.oZ l)).aF (V.own j).aF:=by
 show T.sub Z h.aj (.sl 7 false (l.map Oq)) (.own j)
 simp only[T.sub]
 refine⟨trivial,hz,?_,by decide,164,?_⟩
 ·rw[eG]; intro t ht; obtain⟨x,_,rfl⟩:=List.mem_map.1 ht; rfl
 ·have:=aO q
  rw[this]; simp[OV.ay,Rw.aS,V.aS]
theorem Hr{α β:Type}{f:β->α->β}{b:β}{l:List α}{i:Nat}{d:α}(h:i<l.length):(l.take (i+1)).foldl f b=f ((l.take i).foldl f b) (l.getD i d):=by
 rw[List.take_add_one,List.foldl_append]
 simp[List.getElem?_eq_getElem h]
theorem aG.aeO{h:Hz}{j:Nat}{l:List Cc}(q:h.get j=some (.row 164 7 (.oZ l) [])):aG (.row 7 false (.oZ l)) (.own j) h:=⟨aa3 trivial q⟩
def LW(acc:List Cc)(g:Cc):List Cc:=bif acc.any (fun x=>g==x) then acc else acc++[g]
def CW(l:List Rule):List Cc:=(l.flatMap Rule.guards).foldl LW []
theorem Yq{acc:List Cc}{g:Cc}:(LW acc g).length<=acc.length+1:=by
 unfold LW; cases acc.any (fun x=>g==x)<;>simp
theorem O1: ∀ {l acc:List Cc},(l.foldl LW acc).length<=acc.length+l.length:=by
 intro l
 induction l with
 |nil=>intro acc; simp
 |cons g r ih =>
  intro acc
  have:=ih (acc:=LW acc g)
  have h2:=Yq (acc:=acc) (g:=g)
  simp only[List.foldl_cons,List.length_cons]; omega
abbrev rowT(l:List Cc):OV:=.row 164 7 (.oZ l) []
def EI(p:aH)(i k:Nat):List Cc:=((p.rules.getD i default).guards.take k).foldl LW (CW (p.rules.take i))
theorem Yr(p:aH)(hp:gq p)(i k:Nat)(_hi:i<p.rules.length):(EI p i k).length<2^31:=by
 have h1:=O1 (l:=(p.rules.getD i default).guards.take k) (acc:=CW (p.rules.take i))
 have h2:=O1 (l:=(p.rules.take i).flatMap Rule.guards) (acc:=[])
 have h3:=(hp.rule i).guards
 have h4:((p.rules.take i).flatMap Rule.guards).length<=(p.rules.flatMap Rule.guards).length:=by
  conv=>rhs; rw[<- List.take_append_drop i p.rules,List.flatMap_append,List.length_append]
  omega
 have h5:=hp.oZ
 have h6:((p.rules.getD i default).guards.take k).length<=(p.rules.getD i default).guards.length:=by simp[List.length_take]; omega
 unfold EI
 unfold CW at h1 ⊢
 simp only[List.length_nil,Nat.zero_add] at h2
 omega
theorem Vm(p:aH){i:Nat}(hi:i<p.rules.length):CW (p.rules.take (i+1))=EI p i (p.rules.getD i default).guards.length:=by
 unfold EI
 rw[List.take_of_length_le (Nat.le_refl _)]
 unfold CW
 rw[List.take_add_one,List.flatMap_append,List.foldl_append]
 simp[List.getElem?_eq_getElem hi]
theorem S.iO(p:aH)(hp:gq p):au Tryz.prog 128 [.dat (.mJ p)] (.row 7 false (.oZ (CW p.rules))):=by
 have hp1:=hp.rules
 refine au.of Bd.iO (by simp) rfl rfl ?_
 conv=>whnf
 refine aP.nil 3 164 7 (by rfl) rfl rfl rfl ?_
 refine aP.objs 1 [9,10] (fun i:Nat=>[(11,.int i),(3,.own 0)]) (fun i=>[(0,rowT (CW (p.rules.take i)))]) (fun i=>i<=p.rules.length) (fun i=>p.rules.length-i) 0 [7] rfl (by decide) (fun _=>rfl) (Nat.zero_le _) ?_ ?_ ?_
 ·exact(sR rfl)
 ·exact⟨⟨rfl,nofun,rfl,rfl,rfl,_,rfl,rfl,rfl,dL.of_eq rfl⟩,trivial⟩
 conv=>whnf
 refine⟨(sR rfl),rfl,?_⟩
 rintro i hi
 conv=>whnf
 refine⟨fun h3=>?_,fun h3=>?_⟩
 ·have hi':i<p.rules.length:=by simpa using h3
  conv=>whnf
  refine .mk (by simp only[Rw.rng] at *; first|omega|(simp_all; done)|(simp_all; omega)) ?_
  conv=>whnf
  refine aP.objs 1 [9,10,11,16,17] (fun k:Nat=>[(18,.int k),(3,.own 0)]) (fun k=>[(0,rowT (EI p i k))]) (fun k=>k<=(p.rules.getD i default).guards.length) (fun k=>(p.rules.getD i default).guards.length-k) 0 [0] rfl (by decide) (fun _=>rfl) (Nat.zero_le _) ?_ ?_ ?_
  ·exact(sR rfl)
  ·exact⟨⟨rfl,nofun,rfl,rfl,rfl,_,rfl,rfl,rfl,dL.of_eq rfl⟩,trivial⟩
  conv=>whnf
  refine⟨(sR rfl),rfl,?_⟩
  rintro k hk
  have hacc:=Yr p hp i k hi'
  have hg:=(hp.rule i).guards
  conv=>whnf
  refine⟨fun h4=>?_,fun h4=>?_⟩
  ·have hk':k<(p.rules.getD i default).guards.length:=by simpa using h4
   have hst:EI p i (k+1)=LW (EI p i k) ((p.rules.getD i default).guards.getD k default):=Hr hk'
   conv=>whnf
   refine .mk (by simp only[Rw.rng] at *; first|omega|(simp_all; done)|(simp_all; omega)) ?_
   conv=>whnf
   refine ah.lend (S.OZ (EI p i k) ((p.rules.getD i default).guards.getD k default) false (by omega)) (And.intro (aa3 trivial rfl) (And.intro (aB _) trivial)) rfl rfl ?_
   conv=>whnf
   refine⟨fun h5=>?_,fun h5=>?_⟩
   ·conv=>whnf
    repeat(refine VC.mk (by first|(show((EI p i k).length+(0+1))*48<=140737488355328/\(EI p i k).length+(0+1)<=1152921504606846976; omega)|(simp only[okI] at *; first|omega|(simp_all; done)|(simp_all; omega))) ?_; conv=>whnf)
    have h5':((EI p i k).any fun x=>(p.rules.getD i default).guards.getD k default==x)=false:=by simpa using h5
    refine⟨k+1,[13],by omega,by omega,(sR rfl),(sR rfl),⟨rfl,nofun,rfl,rfl,rfl,_,rfl,rfl,rfl,dL.of_eq ?_⟩,trivial⟩
    rw[hst,LW,h5']
    rfl
   ·conv=>whnf
    refine .mk (by simp only[okI] at *; first|omega|(simp_all; done)|(simp_all; omega)) ?_
    conv=>whnf
    have h5':((EI p i k).any fun x=>(p.rules.getD i default).guards.getD k default==x)=true:=by simpa using h5
    refine⟨k+1,[0],by omega,by omega,(sR rfl),(sR rfl),⟨rfl,nofun,rfl,rfl,rfl,_,rfl,rfl,rfl,dL.of_eq ?_⟩,trivial⟩
    rw[hst,LW,h5']; rfl
  ·have hk':(p.rules.getD i default).guards.length<=k:=by simpa using h4
   have e:k=(p.rules.getD i default).guards.length:=Nat.le_antisymm hk hk'
   subst e
   conv=>whnf
   refine .mk (by simp only[okI] at *; first|omega|(simp_all; done)|(simp_all; omega)) ?_
   conv=>whnf
   refine⟨i+1,[0],by omega,by omega,(sR rfl),(sR rfl),⟨rfl,nofun,rfl,rfl,rfl,_,rfl,rfl,rfl,dL.of_eq ?_⟩,trivial⟩
   rw[Vm p hi']
 ·have hi':p.rules.length<=i:=by simpa using h3
  rw[List.take_of_length_le hi']
  conv=>whnf
  exact aG.aeO rfl
def uS(p:aH):Bool:=decide (p.topology<1)||decide (p.topology>4)||decide (p.fault<0)||decide (p.fault>3)
def wR(p:aH):Bool:=decide ((p.states.length:Int)>6)||decide ((p.messages.length:Int)>3)||decide ((p.values.length:Int)>3)||decide ((p.dM.length:Int)>4)||decide ((p.rules.length:Int)>8)
def Vo(p:aH):Bool:=(!(p.topology==1)&&(decide ((p.messages.length:Int)>0)||decide ((p.values.length:Int)>0)||decide ((p.dM.length:Int)>0)||p.fault !=0))||((p.topology==1)&&decide ((p.leader.length:Int)>0))
def Ja(p:aH):Int:=gK [lI p.initial p.states.length,iq ((p.initial.length:Int)==0) 1,lI p.leader p.states.length]
def F5(p:aH):Int:=gK ((List.range p.rules.length).map (jE p))
def dW(p:aH):Int :=
 bif !(validName p.name) then 2 else bif uS p then 1 else bif (p.states.length:Int)==0 then 1 else bif wR p then 4 else
 bif Hq p !=0 then Hq p else bif Vo p then 1 else
 bif p.dM.any (fun l=> !(Vg l)) then 4 else
 bif Ja p !=0 then Ja p else
 bif F5 p !=0 then F5 p else iq (decide (((CW p.rules).length:Int)>3)) 4
theorem QS{n i:Nat}{f:Nat->Int}(h:i<n):((List.range n).drop i).map f=f i::((List.range n).drop (i+1)).map f:=by
 rw[List.drop_eq_getElem_cons (by simpa using h)]; simp
theorem S.iE(p:aH)(hp:gq p):au Tryz.prog 99 [.dat (.mJ p)] (.int (dW p)):=by
 have g1:=hp.states; have g2:=hp.messages; have g3:=hp.values; have g4:=hp.dM; have g5:=hp.initial; have g6:=hp.leader; have g7:=hp.rules
 refine au.of Bd.iE (by simp) rfl rfl ?_
 conv=>whnf
 refine ah.pure (S.fH p.name) rfl ?_
 conv=>whnf
 refine⟨fun h1=>?_,fun h1=>?_⟩
 ·conv=>whnf
  exact aG.int (by rw[dW,h1]; rfl)
 conv=>whnf
 repeat(refine VC.mk (by first|exact id|(intro h; rw[h]; rfl)) ?_; conv=>whnf)
 refine⟨fun h2=>?_,fun h2=>?_⟩
 ·conv=>whnf
  exact aG.int (by rw[dW,h1,show uS p=true from h2]; rfl)
 conv=>whnf
 refine⟨fun h3=>?_,fun h3=>?_⟩
 ·conv=>whnf
  exact aG.int (by rw[dW,h1,show uS p=false from h2,h3]; rfl)
 conv=>whnf
 repeat(refine VC.mk (by first|exact id|(intro h; rw[h]; rfl)) ?_; conv=>whnf)
 refine⟨fun h4=>?_,fun h4=>?_⟩
 ·conv=>whnf
  exact aG.int (by rw[dW,h1,show uS p=false from h2,h3,show wR p=true from h4]; rfl)
 conv=>whnf
 have h0:0<p.states.length:=by
  rcases Nat.eq_zero_or_pos p.states.length with e|e
  ·rw[e] at h3; exact absurd h3 (by decide)
  ·exact e
 refine ah.pure (S.lT p h0 g1 g2 g3) rfl ?_
 conv=>whnf
 refine⟨fun h5=>?_,fun h5=>?_⟩
 ·conv=>whnf
  exact aG.int (by rw[dW,h1,show uS p=false from h2,h3,show wR p=false from h4,h5]; rfl)
 conv=>whnf
 repeat(refine VC.mk (by first|exact id|(intro h; rw[h]; rfl)|(intro h; simp_all; done)) ?_; conv=>whnf)
 refine⟨fun h6=>?_,fun h6=>?_⟩
 ·conv=>whnf
  exact aG.int (by rw[dW,h1,show uS p=false from h2,h3,show wR p=false from h4,h5,show Vo p=true from h6]; rfl)
 conv=>whnf
 refine aP.same [1,4,111,112] (fun i:Nat=>[(113,.int i)]) (fun i=>i<=p.dM.length/\(p.dM.take i).any (fun l=> !(Vg l))=false) (fun i=>p.dM.length-i) 0 rfl (by decide) rfl (fun _=>rfl) ⟨by omega,by simp⟩ ⟨⟨_,rfl,rfl⟩,trivial⟩ ?_
 conv=>whnf
 refine⟨rfl,?_⟩
 rintro i ⟨hi,hall⟩
 conv=>whnf
 refine⟨fun h7=>?_,fun h7=>?_⟩
 ·have hi':i<p.dM.length:=by simpa using h7
  conv=>whnf
  refine .mk (by simp only[Rw.rng] at *; omega) ?_
  conv=>whnf
  refine ah.pure (S.jc (p.dM.getD i default)) rfl ?_
  conv=>whnf
  refine⟨fun h8=>?_,fun h8=>?_⟩
  ·conv=>whnf
   exact aG.int (by rw[dW,h1,show uS p=false from h2,h3,show wR p=false from h4,h5,show Vo p=false from h6,sH (d:=default) hi' h8]; rfl)
  ·conv=>whnf
   refine .mk (by simp only[okI] at *; omega) ?_
   conv=>whnf
   refine⟨i+1,⟨by omega,?_⟩,by omega,⟨⟨_,rfl,rfl⟩,trivial⟩,?_,rfl⟩
   ·rw[xY (d:=default) hi' hall]; exact h8
   ·repeat' (first|exact trivial|exact⟨_,rfl,rfl⟩|constructor)
 have hi':p.dM.length<=i:=by simpa using h7
 rw[List.take_of_length_le hi'] at hall
 conv=>whnf
 refine ah.pure (S.dN p.initial p.states.length false (by omega)) rfl ?_
 conv=>whnf
 refine ah.pure (S.bP ((p.initial.length:Int)==0) 1) rfl ?_
 conv=>whnf
 refine ah.pure (S.dN p.leader p.states.length false (by omega)) rfl ?_
 conv=>whnf
 refine ah.pure (S.bH [lI p.initial p.states.length,iq ((p.initial.length:Int)==0) 1,lI p.leader p.states.length] true (show 3<2^40 by decide)) rfl ?_
 conv=>whnf
 refine⟨fun h9=>?_,fun h9=>?_⟩
 ·conv=>whnf
  exact aG.int (by rw[dW,h1,show uS p=false from h2,h3,show wR p=false from h4,h5,show Vo p=false from h6,hall,show(Ja p !=0)=true from h9]; rfl)
 conv=>whnf
 refine aP.same [1,140,141] (fun i:Nat=>[(142,.int i)]) (fun i=>i<=p.rules.length/\F5 p=gK (((List.range p.rules.length).drop i).map (jE p))) (fun i=>p.rules.length-i) 0 rfl (by decide) rfl (fun _=>rfl) ⟨by omega,by simp[F5]⟩ ⟨⟨_,rfl,rfl⟩,trivial⟩ ?_
 conv=>whnf
 refine⟨rfl,?_⟩
 rintro i ⟨hi,hr⟩
 conv=>whnf
 refine⟨fun h10=>?_,fun h10=>?_⟩
 ·have hi':i<p.rules.length:=by simpa using h10
  rw[QS hi'] at hr
  simp only[gK] at hr
  conv=>whnf
  refine ah.pure (S.jl p i hi' hp) rfl ?_
  conv=>whnf
  refine⟨fun h11=>?_,fun h11=>?_⟩
  ·conv=>whnf
   have acM:jE p i≠0:=nez h11
   rw[if_neg acM] at hr
   exact aG.int (by rw[dW,h1,show uS p=false from h2,h3,show wR p=false from h4,h5,show Vo p=false from h6,hall,show(Ja p !=0)=false from h9,hr,h11]; rfl)
  ·conv=>whnf
   refine .mk (by simp only[okI] at *; omega) ?_
   conv=>whnf
   have acM:jE p i=0:=eqz h11
   rw[if_pos acM] at hr
   refine⟨i+1,⟨by omega,hr⟩,by omega,⟨⟨_,rfl,rfl⟩,trivial⟩,?_,rfl⟩
   repeat' (first|exact trivial|exact⟨_,rfl,rfl⟩|constructor)
 have hi':p.rules.length<=i:=by simpa using h10
 rw[List.drop_eq_nil_of_le (by simpa using hi')] at hr
 conv=>whnf
 refine ah.pure (S.iO p hp) rfl ?_
 conv=>whnf
 refine ah.pure (S.bP (decide (((CW p.rules).length:Int)>3)) 4) rfl ?_
 conv=>whnf
 exact aG.int (by rw[dW,h1,show uS p=false from h2,h3,show wR p=false from h4,h5,show Vo p=false from h6,hall,show(Ja p !=0)=false from h9,hr]; rfl)
theorem aG.eqv{a b:V}{h:Hz}(e:a.aF=b.aF):aG a b h:=⟨by rw[e]; exact aB _⟩
def ad5(acc:Bool)(r:Rule):Bool:=acc&&(r.kind==1)&&decide (r.fr<r.to)&&((r.ex.length:Int)==0)&&((r.all.length:Int)==0)
def ad6(acc:Bool)(r:Rule):Bool:=acc||decide ((r.all.length:Int)>0)
def Ae(p:aH):Bool:=(p.topology==1)&&(p.fault==0)&&((p.messages.length:Int)==0)&&((p.dM.length:Int)==0)
structure Cls where
 UH:Bool
 cover:Bool
 word:Bool
 tree:Bool
 monadic:Bool
def qp(p:aH):Cls :=
 ⟨(p.topology==1)&&((p.values.length:Int)==0)&&p.rules.foldl ad5 true,Ae p&& !(p.rules.foldl ad6 false),(p.topology==2)||(p.topology==3),p.topology==4,Ae p&&decide ((p.states.length:Int)<=4)⟩
def aeP(c:Cls):V:=.agg [.bool c.UH,.bool c.cover,.bool c.word,.bool c.tree,.bool c.monadic]
def QU:Cls:=⟨false,false,false,false,false⟩
def QT(p:aH):V:=.fU [aeP (bif dW p !=0 then QU else qp p),.int (dW p)]
theorem S.ig(p:aH)(hp:gq p):au Tryz.prog 106 [.dat (.mJ p)] (QT p):=by
 have g1:=hp.states; have g2:=hp.messages; have g3:=hp.values; have g4:=hp.dM; have g7:=hp.rules
 refine au.of Bd.ig (by simp) rfl rfl ?_
 conv=>whnf
 refine ah.pure (S.iE p hp) rfl ?_
 conv=>whnf
 refine⟨fun h1=>?_,fun h1=>?_⟩
 ·conv=>whnf
  refine aG.eqv ?_
  rw[QT,h1]; rfl
 have h1':dW p=0:=eqz h1
 conv=>whnf
 refine aP.same [1,2,3,18,19] (fun i:Nat=>[(20,.int i),(5,.bool ((p.rules.take i).foldl ad5 true)),(6,.bool ((p.rules.take i).foldl ad6 false))]) (fun i=>i<=p.rules.length) (fun i=>p.rules.length-i) 0 rfl (by decide) rfl (fun _=>rfl) (Nat.zero_le _) ⟨⟨_,rfl,rfl⟩,⟨_,rfl,rfl⟩,⟨_,rfl,rfl⟩,trivial⟩ ?_
 conv=>whnf
 refine⟨rfl,?_⟩
 rintro i hi
 have g8:=hp.rule i
 have g9:=g8.ex; have g10:=g8.all
 conv=>whnf
 refine⟨fun h7=>?_,fun h7=>?_⟩
 ·have hi':i<p.rules.length:=by simpa using h7
  conv=>whnf
  repeat(refine VC.mk (by first|exact id|exact fun h=>⟨h,h⟩|(intro h; rw[h]; rfl)|(simp only[okI,Rw.rng] at *; omega)) ?_; conv=>whnf)
  refine⟨i+1,by omega,by omega,⟨⟨_,rfl,rfl⟩,⟨_,rfl,?_⟩,⟨_,rfl,?_⟩,trivial⟩,?_,rfl⟩
  ·rw[Hr (d:=default) hi']; rfl
  ·rw[Hr (d:=default) hi']; rfl
  ·repeat' (first|exact trivial|exact⟨_,rfl,rfl⟩|constructor)
 have hi':p.rules.length<=i:=by simpa using h7
 rw[List.take_of_length_le hi']
 conv=>whnf
 repeat(refine VC.mk (by first|exact id|(intro h; rw[h]; rfl)) ?_; conv=>whnf)
 refine aG.eqv ?_
 rw[QT,h1']
 rfl
def uh(r:Rule)(t:Int):Bool :=
 bif !(r.kind==1)&&(decide ((r.guards.length:Int)>0)||decide ((r.ex.length:Int)>0)||decide ((r.all.length:Int)>0)||decide ((r.send.length:Int)>0)) then true else
 bif !(r.kind==1)&& !(r.kind==2)&& !(r.kind==3)&&(r.read != -1||r.write != -1) then true else
 bif !(r.kind==2)&& !(r.kind==5)&&(r.iw !=0||r.Dc !=0) then true else
 bif (!(r.kind==3)&&decide ((r.response.length:Int)>0))||(!(r.kind==5)&&r.direction !=0) then true else
 bif !(r.kind==4)&&(r.pos !=0||decide ((r.left.length:Int)>0)||decide ((r.right.length:Int)>0)) then true else
 decide ((r.parent.length:Int)>0)&& !((r.kind==4)&&(t==4))
theorem gt0{n:Nat}:decide ((n:Int)>0)= !(n==0):=by
 cases n with
 |zero=>rfl
 |succ n=>rw[decide_eq_true (by omega)]; rfl
theorem aeQ(a b c d e f g h:Nat):decide ((a:Int)+b+c+d+e+f+g+h>0)=(!(a==0)|| !(b==0)|| !(c==0)|| !(d==0)|| !(e==0)|| !(f==0)|| !(g==0)|| !(h==0)):=by
 rw[Bool.eq_iff_iff]
 simp only[decide_eq_true_eq,Bool.or_eq_true,Bool.not_eq_true',beq_eq_false_iff_ne,ne_eq]
 omega
theorem xR{r:Rule}{t:Int}(h:1<=r.kind/\r.kind<=5):uh r t=kS r t:=by
 have hk:r.kind=1\/r.kind=2\/r.kind=3\/r.kind=4\/r.kind=5:=by omega
 simp only[uh,kS,AP,gt0,aeQ,bne]
 generalize (r.guards.length==0)=g1
 generalize (r.ex.length==0)=g2
 generalize (r.all.length==0)=g3
 generalize (r.send.length==0)=g4
 generalize (r.response.length==0)=g5
 generalize (r.left.length==0)=g6
 generalize (r.right.length==0)=g7
 generalize (r.parent.length==0)=g8
 generalize (r.read== -1)=g9
 generalize (r.write== -1)=g10
 generalize (r.iw==0)=g11
 generalize (r.Dc==0)=g12
 generalize (r.direction==0)=g13
 generalize (r.pos==0)=g14
 rcases hk with hk|hk|hk|hk|hk<;>rw[hk] <;>
  (first
   |(simp; done)
   |(cases (t==4)<;>simp<;>grind)
   |(simp; grind))
end Go.Proofs.YtajmbgljnaljiaaGreatDoor
