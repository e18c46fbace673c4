/-
 A part of the proof. No condition.
-/
import Derived.Test.YtiakcepnlcpanaaGreatDoorNb
import Derived.Test.YtiakcepnlcpanaaGreatDoorLf
namespace Go.Proofs.YtiakcepnlcpanaaGreatDoor
open Go.Ab Go.Proofs
set_option maxRecDepth 100000
def fQ(b:Bool)(e:Int):Int:=bif b then e else 0
theorem S.bK(b:Bool)(e:Int):au Tryz.prog 79 [.bool b,.int e] (.int (fQ b e)):=by
 refine au.of Bd.bK (by simp) rfl rfl ?_
 conv=>whnf
 refine⟨fun h=>?_,fun h=>?_⟩
 ·conv=>whnf
  exact aA.int (by rw[h]; rfl)
 ·conv=>whnf
  exact aA.int (by rw[h]; rfl)
def yg(i n:Int):Bool:=decide (i<0)||decide (i>=n)
def fC(i n:Int):Int:=fQ (yg i n) 5
theorem S.bM(i n:Int):au Tryz.prog 105 [.int i,.int n] (.int (fC i n)):=by
 refine au.of Bd.bM (by simp) rfl rfl ?_
 conv=>whnf
 repeat(refine VC.mk (by first|exact fun h=>⟨h,h⟩|(intro h; rw[h]; rfl)) ?_; conv=>whnf)
 refine ah.pure (S.bK (yg i n) 5) rfl ?_
 conv=>whnf
 exact aA.int rfl
def bW:List Int->Int
 |[]=>0
 |e::r=>if e=0 then bW r else e
theorem S.bH(l:List Int)(f:Bool)(hl:l.length<2^40):au Tryz.prog 78 [.row 0 f (.ints l)] (.int (bW l)):=by
 refine au.of Bd.bH (by simp) rfl rfl ?_
 conv=>whnf
 refine aU.same [5,6] (fun i:Nat=>[(7,.int i)]) (fun i=>i<=l.length/\bW l=bW (l.drop i)) (fun i=>l.length-i) 0 rfl (by decide) rfl (fun _=>rfl) ⟨by omega,by simp⟩ ⟨⟨_,rfl,rfl⟩,trivial⟩ ?_
 conv=>whnf
 refine⟨rfl,?_⟩
 rintro i ⟨hi,hall⟩
 conv=>whnf
 refine⟨fun h3=>?_,fun h3=>?_⟩
 ·have hi':i<l.length:=by simpa using h3
  rw[cO 0 hi'] at hall
  simp only[bW] at hall
  conv=>whnf
  refine .mk (by simp only[Rw.rng] at *; omega) ?_
  conv=>whnf
  refine⟨fun h4=>?_,fun h4=>?_⟩
  ·conv=>whnf
   refine aA.int ?_
   have:l.getD i 0≠0:=by simpa using h4
   rw[hall,if_neg this]; rfl
  ·conv=>whnf
   refine .mk (by simp only[okI] at *; omega) ?_
   conv=>whnf
   have:l.getD i 0=0:=by simpa using h4
   rw[if_pos this] at hall
   refine⟨i+1,⟨by omega,hall⟩,by omega,⟨⟨_,rfl,rfl⟩,trivial⟩,?_,rfl⟩
   repeat' (first|exact trivial|exact⟨_,rfl,rfl⟩|constructor)
 ·conv=>whnf
  refine aA.int ?_
  have hi':l.length<=i:=by simpa using h3
  rw[hall,List.drop_eq_nil_of_le hi']; rfl
def Dw:List Int->Bool
 |a::b::r=>decide (a<b)&&Dw (b::r)
 |_=>true
def iP(l:List Int)(n:Int):Int:=bif l.any (fun i=>yg i n) then 5 else bif Dw l then 0 else 1
theorem S.dJ(l:List Int)(n:Int)(f:Bool)(hl:l.length<2^40):au Tryz.prog 77 [.row 0 f (.ints l),.int n] (.int (iP l n)):=by
 refine au.of Bd.dJ (by simp) rfl rfl ?_
 conv=>whnf
 refine aU.same [0,1,8,9] (fun i:Nat=>[(10,.int i)]) (fun i=>i<=l.length/\(l.take i).any (fun i=>yg i n)=false) (fun i=>l.length-i) 0 rfl (by decide) rfl (fun _=>rfl) ⟨by omega,by simp⟩ ⟨⟨_,rfl,rfl⟩,trivial⟩ ?_
 conv=>whnf
 refine⟨rfl,?_⟩
 rintro i ⟨hi,hall⟩
 conv=>whnf
 refine⟨fun h3=>?_,fun h3=>?_⟩
 ·have hi':i<l.length:=by simpa using h3
  conv=>whnf
  repeat(refine VC.mk (by first|exact fun h=>⟨h,h⟩|(intro h; rw[h]; rfl)|(simp only[Rw.rng] at *; omega)) ?_; conv=>whnf)
  refine⟨fun h4=>?_,fun h4=>?_⟩
  ·conv=>whnf
   refine aA.int ?_
   rw[iP,wV (d:=0) hi' h4]; rfl
  ·conv=>whnf
   refine .mk (by simp only[okI] at *; omega) ?_
   conv=>whnf
   refine⟨i+1,⟨by omega,?_⟩,by omega,⟨⟨_,rfl,rfl⟩,trivial⟩,?_,rfl⟩
   ·rw[Bq (d:=0) hi' hall]; exact h4
   ·repeat' (first|exact trivial|exact⟨_,rfl,rfl⟩|constructor)
 ·have hi':l.length<=i:=by simpa using h3
  rw[List.take_of_length_le hi'] at hall
  conv=>whnf
  refine aU.same [0] (fun i:Nat=>[(7,.int (i+1))]) (fun i=>(i<l.length\/i=0)/\Dw l=Dw (l.drop i)) (fun i=>l.length-i) 0 rfl (by decide) rfl (fun _=>rfl) ⟨by omega,by simp⟩ ⟨⟨_,rfl,rfl⟩,trivial⟩ ?_
  conv=>whnf
  refine⟨rfl,?_⟩
  rintro i ⟨hi,hinc⟩
  conv=>whnf
  refine⟨fun h5=>?_,fun h5=>?_⟩
  ·have hi1:i+1<l.length:=by have:=of_decide_eq_true h5; omega
   rw[cO 0 (show i<l.length by omega),cO 0 hi1] at hinc
   simp only[Dw] at hinc
   rw[<- cO 0 hi1] at hinc
   conv=>whnf
   repeat(refine VC.mk (by simp only[okI,Rw.rng] at *; omega) ?_; conv=>whnf)
   refine⟨fun h6=>?_,fun h6=>?_⟩
   ·conv=>whnf
    refine aA.int ?_
    have e1:((i:Int)+1).toNat=i+1:=by omega
    have e2:((i:Int)+1-1).toNat=i:=by omega
    rw[e1,e2] at h6
    have h6':l.getD (i+1) 0<=l.getD i 0:=of_decide_eq_true h6
    rw[iP,hall,hinc,decide_eq_false (by omega)]; rfl
   ·conv=>whnf
    refine .mk (by simp only[okI] at *; omega) ?_
    conv=>whnf
    have e1:((i:Int)+1).toNat=i+1:=by omega
    have e2:((i:Int)+1-1).toNat=i:=by omega
    rw[e1,e2] at h6
    have h6': ¬ l.getD (i+1) 0<=l.getD i 0:=of_decide_eq_false h6
    rw[decide_eq_true (by omega),Bool.true_and] at hinc
    refine⟨i+1,⟨by omega,hinc⟩,by omega,⟨⟨_,rfl,rfl⟩,trivial⟩,?_,rfl⟩
    repeat' (first|exact trivial|exact⟨_,rfl,rfl⟩|constructor)
  ·conv=>whnf
   refine aA.int ?_
   have h5': ¬ ((i:Int)+1<l.length):=of_decide_eq_false h5
   have:Dw l=true:=by
    rw[hinc]
    rcases hd:l.drop i with _|⟨a,_|⟨b,r⟩⟩
    ·rfl
    ·rfl
    ·have:=congrArg List.length hd
     simp only[List.length_drop,List.length_cons] at this
     omega
   rw[iP,hall,this]; rfl
def Xm(n:Int):Bool:=decide (n>= -100)&&decide (n<=100)
theorem S.gG(n:Int):au Tryz.prog 111 [.int n] (.bool (Xm n)):=by
 refine au.of Bd.gG (by simp) rfl rfl ?_
 conv=>whnf
 repeat(refine VC.mk id ?_; conv=>whnf)
 exact aA.bool rfl
def UA(l:Zx):Bool:=Xm l.c&&Xm l.n&&Xm l.t&&Xm l.f
theorem S.jc(l:Zx):au Tryz.prog 89 [.dat (.lin l)] (.bool (UA l)):=by
 refine au.of Bd.jc (by simp) rfl rfl ?_
 conv=>whnf
 refine ah.pure (S.gG l.c) rfl ?_
 conv=>whnf
 repeat(refine VC.mk id ?_; conv=>whnf)
 refine ah.nY (fun _=>S.gG l.n) rfl ?_
 conv=>whnf
 repeat(refine VC.mk id ?_; conv=>whnf)
 refine ah.nY (fun _=>S.gG l.t) rfl ?_
 conv=>whnf
 repeat(refine VC.mk id ?_; conv=>whnf)
 refine ah.nY (fun _=>S.gG l.f) rfl ?_
 conv=>whnf
 refine VC.mk id ?_
 conv=>whnf
 exact aA.bool rfl
def jT(p:aW)(v:Int):Int:=fQ (decide (v< -1)||decide (v>=p.values.length)) 5
theorem S.fD(p:aW)(v:Int):au Tryz.prog 117 [.dat (.eU p),.int v] (.int (jT p v)):=by
 refine au.of Bd.fD (by simp) rfl rfl ?_
 conv=>whnf
 repeat(refine VC.mk (by first|exact id|exact fun h=>⟨h,h⟩|(intro h; rw[h]; rfl)) ?_; conv=>whnf)
 refine ah.pure (S.bK _ 5) rfl ?_
 conv=>whnf
 exact aA.int rfl
theorem Zl{a:Int}(h:(a !=0)=true):a≠0:=by simpa using h
theorem FQ{a:Int}(h:(a !=0)=false):a=0:=by simpa using h
def yh(k t:Int):Bool:=bif k==1||k==2||k==3 then t==1 else bif k==4||k==5 then !(t==1) else false
theorem S.nN(k t:Int):au Tryz.prog 114 [.int k,.int t] (.bool (yh k t)):=by
 refine au.of Bd.nN (by simp) rfl rfl ?_
 conv=>whnf
 refine⟨fun h1=>?_,fun h1=>?_⟩
 ·conv=>whnf
  refine Fork.mk (fun _=>?_) (fun q=>absurd (q.symm.trans (h1)) Bool.false_ne_true)
  conv=>whnf
  exact aA.bool (by simp[yh,h1])
 ·conv=>whnf
  refine⟨fun h2=>?_,fun h2=>?_⟩
  ·conv=>whnf
   refine Fork.mk (fun _=>?_) (fun q=>absurd (q.symm.trans (h2)) Bool.false_ne_true)
   conv=>whnf
   exact aA.bool (by simp[yh,h1,h2])
  ·conv=>whnf
   refine⟨fun h3=>?_,fun h3=>?_⟩
   ·conv=>whnf
    exact aA.bool (by simp[yh,h1,h2,h3])
   ·conv=>whnf
    refine⟨fun h4=>?_,fun h4=>?_⟩
    ·conv=>whnf
     refine Fork.mk (fun _=>?_) (fun q=>absurd (q.symm.trans (h4)) Bool.false_ne_true)
     conv=>whnf
     exact aA.bool (by simp[yh,h1,h2,h3,h4,bne])
    ·conv=>whnf
     refine⟨fun h5=>?_,fun h5=>?_⟩
     ·conv=>whnf
      exact aA.bool (by simp[yh,h1,h2,h3,h4,h5,bne])
     ·conv=>whnf
      exact aA.bool (by simp[yh,h1,h2,h3,h4,h5])
def Ag:List Int->Int->Int
 |[],_=>0
 |x::r,n=>if fC x n=0 then Ag r n else fC x n
def Em(l:List Int)(n:Int):Int:=bif (l.length:Int) !=n then 1 else Ag l n
theorem S.jv(l:List Int)(n:Int)(f:Bool)(hl:l.length<2^40):au Tryz.prog 118 [.row 0 f (.ints l),.int n] (.int (Em l n)):=by
 refine au.of Bd.jv (by simp) rfl rfl ?_
 conv=>whnf
 refine⟨fun h=>?_,fun h=>?_⟩
 ·conv=>whnf
  exact aA.int (by rw[Em,h]; rfl)
 ·conv=>whnf
  refine aU.same [0,1,12,13] (fun i:Nat=>[(14,.int i)]) (fun i=>i<=l.length/\Ag l n=Ag (l.drop i) n) (fun i=>l.length-i) 0 rfl (by decide) rfl (fun _=>rfl) ⟨by omega,by simp⟩ ⟨⟨_,rfl,rfl⟩,trivial⟩ ?_
  conv=>whnf
  refine⟨rfl,?_⟩
  rintro i ⟨hi,hall⟩
  conv=>whnf
  refine⟨fun h3=>?_,fun h3=>?_⟩
  ·have hi':i<l.length:=by simpa using h3
   rw[cO 0 hi'] at hall
   simp only[Ag] at hall
   conv=>whnf
   refine .mk (by simp only[Rw.rng] at *; omega) ?_
   conv=>whnf
   refine ah.pure (S.bM (l.getD i 0) n) rfl ?_
   conv=>whnf
   refine⟨fun h4=>?_,fun h4=>?_⟩
   ·conv=>whnf
    refine aA.int ?_
    have:fC (l.getD i 0) n≠0:=by simpa using h4
    rw[Em,h,cond_false,hall,if_neg this]
   ·conv=>whnf
    refine .mk (by simp only[okI] at *; omega) ?_
    conv=>whnf
    have:fC (l.getD i 0) n=0:=by simpa using h4
    rw[if_pos this] at hall
    refine⟨i+1,⟨by omega,hall⟩,by omega,⟨⟨_,rfl,rfl⟩,trivial⟩,?_,rfl⟩
    repeat' (first|exact trivial|exact⟨_,rfl,rfl⟩|constructor)
  ·conv=>whnf
   refine aA.int ?_
   have hi':l.length<=i:=by simpa using h3
   rw[Em,h,cond_false,hall,List.drop_eq_nil_of_le hi']; rfl
def guardE(p:aW)(g:Ci):Int:=bW [fC g.message p.messages.length,fQ (decide (g.IL<1)||decide (g.IL>100)) 1,fQ (!(UA g.bound)) 4]
def zA(p:aW):List Ci->Int
 |[]=>0
 |g::r=>if guardE p g=0 then zA p r else guardE p g
def CX(p:aW)(l:List Ci):Int:=if zA p l=0 then fQ (decide ((l.length:Int)>2)) 4 else zA p l
theorem S.lI(p:aW)(l:List Ci)(f:Bool)(hl:l.length<2^40):au Tryz.prog 116 [.dat (.eU p),.row 7 f (.qw l)] (.int (CX p l)):=by
 refine au.of Bd.lI (by simp) rfl rfl ?_
 conv=>whnf
 refine aU.same [1,2,8,9] (fun i:Nat=>[(10,.int i)]) (fun i=>i<=l.length/\zA p l=zA p (l.drop i)) (fun i=>l.length-i) 0 rfl (by decide) rfl (fun _=>rfl) ⟨by omega,by simp⟩ ⟨⟨_,rfl,rfl⟩,trivial⟩ ?_
 conv=>whnf
 refine⟨rfl,?_⟩
 rintro i ⟨hi,hall⟩
 conv=>whnf
 refine⟨fun h3=>?_,fun h3=>?_⟩
 ·have hi':i<l.length:=by simpa using h3
  rw[cO default hi'] at hall
  simp only[zA] at hall
  conv=>whnf
  refine .mk (by simp only[Rw.rng] at *; omega) ?_
  conv=>whnf
  refine ah.pure (S.bM (l.getD i default).message p.messages.length) rfl ?_
  conv=>whnf
  repeat(refine VC.mk (by first|exact id|(intro h; rw[h]; rfl)) ?_; conv=>whnf)
  refine ah.pure (S.bK (decide ((l.getD i default).IL<1)||decide ((l.getD i default).IL>100)) 1) rfl ?_
  conv=>whnf
  refine ah.pure (S.jc (l.getD i default).bound) rfl ?_
  conv=>whnf
  refine ah.pure (S.bK (!(UA (l.getD i default).bound)) 4) rfl ?_
  conv=>whnf
  refine ah.pure (S.bH [fC (l.getD i default).message p.messages.length,fQ (decide ((l.getD i default).IL<1)||decide ((l.getD i default).IL>100)) 1,fQ (!(UA (l.getD i default).bound)) 4] true (show 3<2^40 by decide)) rfl ?_
  conv=>whnf
  refine⟨fun h4=>?_,fun h4=>?_⟩
  ·conv=>whnf
   refine aA.int ?_
   have h4':guardE p (l.getD i default)≠0:=Zl h4
   rw[if_neg h4'] at hall
   rw[CX,hall,if_neg h4']; rfl
  ·conv=>whnf
   refine .mk (by simp only[okI] at *; omega) ?_
   conv=>whnf
   have h4':guardE p (l.getD i default)=0:=FQ h4
   rw[if_pos h4'] at hall
   refine⟨i+1,⟨by omega,hall⟩,by omega,⟨⟨_,rfl,rfl⟩,trivial⟩,?_,rfl⟩
   repeat' (first|exact trivial|exact⟨_,rfl,rfl⟩|constructor)
 ·have hi':l.length<=i:=by simpa using h3
  rw[List.drop_eq_nil_of_le hi'] at hall
  conv=>whnf
  refine ah.pure (S.bK (decide ((l.length:Int)>2)) 4) rfl ?_
  conv=>whnf
  exact aA.int (by rw[CX,hall]; rfl)
structure ru(r:Rule):Prop where
 response:r.response.length<2^30
 guards:r.guards.length<2^30
 ex:r.ex.length<2^30
 all:r.all.length<2^30
 send:r.send.length<2^30
 left:r.left.length<2^30
 right:r.right.length<2^30
 parent:r.parent.length<2^30
def AZ(r:Rule):Bool :=
 decide ((r.response.length:Int)+r.guards.length+r.ex.length+r.all.length+r.send.length+r.left.length+r.right.length+r.parent.length>0)||r.gU !=0||r.Bl !=0||r.pos !=0||r.direction !=0||r.read != -1||r.write != -1
def lJ(r:Rule)(t:Int):Bool :=
 bif r.kind==1 then AZ {r with guards:=[],ex:=[],all:=[],send:=[],read:= -1,write:= -1} else
 bif r.kind==2 then(bif decide ((r.response.length:Int)>0) then true else AZ {r with gU:=0,Bl:=0,response:=[],read:= -1,write:= -1}) else
 bif r.kind==3 then AZ {r with response:=[],read:= -1,write:= -1} else
 bif r.kind==4 then(bif t==4 then AZ {r with pos:=0,left:=[],right:=[],parent:=[]} else AZ {r with pos:=0,left:=[],right:=[]}) else
 bif r.kind==5 then AZ {r with gU:=0,Bl:=0,direction:=0} else AZ r
theorem S.kR(r:Rule)(t:Int)(hs:ru r):au Tryz.prog 115 [.dat (.rule r),.int t] (.bool (lJ r t)):=by
 obtain⟨g1,g2,g3,g4,g5,g6,g7,g8⟩:=hs
 refine au.of Bd.kR (by simp) rfl rfl ?_
 conv=>whnf
 refine⟨fun h1=>?_,fun h1=>?_⟩
 ·conv=>whnf
  repeat(refine VC.mk (by first|exact id|(intro h; rw[h]; rfl)|(simp only[okI] at *; omega)) ?_; conv=>whnf)
  exact aA.bool (by simp[lJ,AZ,h1])
 ·conv=>whnf
  refine⟨fun h2=>?_,fun h2=>?_⟩
  ·conv=>whnf
   refine⟨fun h6=>?_,fun h6=>?_⟩
   ·conv=>whnf
    exact aA.bool (by rw[lJ,h1,h2,show decide ((r.response.length:Int)>0)=true from h6]; rfl)
   ·conv=>whnf
    repeat(refine VC.mk (by first|exact id|(intro h; rw[h]; rfl)|(simp only[okI] at *; omega)) ?_; conv=>whnf)
    exact aA.bool (by rw[lJ,h1,h2,show decide ((r.response.length:Int)>0)=false from h6]; simp[AZ])
  ·conv=>whnf
   refine⟨fun h3=>?_,fun h3=>?_⟩
   ·conv=>whnf
    repeat(refine VC.mk (by first|exact id|(intro h; rw[h]; rfl)|(simp only[okI] at *; omega)) ?_; conv=>whnf)
    exact aA.bool (by simp[lJ,AZ,h1,h2,h3])
   ·conv=>whnf
    refine⟨fun h4=>?_,fun h4=>?_⟩
    ·conv=>whnf
     refine⟨fun h7=>?_,fun h7=>?_⟩
     ·conv=>whnf
      repeat(refine VC.mk (by first|exact id|(intro h; rw[h]; rfl)|(simp only[okI] at *; omega)) ?_; conv=>whnf)
      exact aA.bool (by simp[lJ,AZ,h1,h2,h3,h4,h7])
     ·conv=>whnf
      repeat(refine VC.mk (by first|exact id|(intro h; rw[h]; rfl)|(simp only[okI] at *; omega)) ?_; conv=>whnf)
      exact aA.bool (by simp[lJ,AZ,h1,h2,h3,h4,h7])
    ·conv=>whnf
     refine⟨fun h5=>?_,fun h5=>?_⟩
     ·conv=>whnf
      repeat(refine VC.mk (by first|exact id|(intro h; rw[h]; rfl)|(simp only[okI] at *; omega)) ?_; conv=>whnf)
      exact aA.bool (by simp[lJ,AZ,h1,h2,h3,h4,h5])
     ·conv=>whnf
      repeat(refine VC.mk (by first|exact id|(intro h; rw[h]; rfl)|(simp only[okI] at *; omega)) ?_; conv=>whnf)
      exact aA.bool (by simp[lJ,AZ,h1,h2,h3,h4,h5])
def Xn(h:Hz):Hz->Prop
 |[]=>True
 |(i,o)::r=>h.get i=o/\Xn h r
theorem UC{h:Hz}: ∀ {h0:Hz},Xn h h0-> ∀ {i:Nat} {o:OV},h0.get i=some o->h.get i=some o:=by
 intro h0
 induction h0 with
 |nil=>intro _ i o e; cases e
 |cons p r ih =>
  obtain⟨j,u⟩:=p
  intro hs i o e
  simp only[Hz.get] at e
  cases hb:Nat.beq j i with
  |true=>rw[hb] at e; simp only[cond_true] at e; rw[<- Nat.eq_of_beq_eq_true hb,hs.1,e]
  |false=>rw[hb] at e; exact ih hs.2 e
def UD:Hz->Bool
 |[]=>true
 |(_,some o)::r=>o.Io&&UD r
 |(_,none)::r=>UD r
theorem Oh: ∀ {h0:Hz},UD h0=true-> ∀ {i:Nat} {o:OV},h0.get i=some o->o.Io=true:=by
 intro h0
 induction h0 with
 |nil=>intro _ i o e; cases e
 |cons p r ih =>
  obtain⟨j,u⟩:=p
  intro hs i o e
  simp only[Hz.get] at e
  cases hb:Nat.beq j i with
  |true =>
   rw[hb] at e; simp only[cond_true] at e; subst e
   simp only[UD,Bool.and_eq_true] at hs; exact hs.1
  |false =>
   rw[hb] at e
   refine ih ?_ e
   cases u with
   |none=>exact hs
   |some o=>simp only[UD,Bool.and_eq_true] at hs; exact hs.2
theorem OV.Oi{o:OV}(h:o.Io=true):T.aN (fun _=>False) o.aG.l:=OV.Fq h
theorem fV.same{nx:Nat}{h0 h:Hz}{n:Nat}{post:T->Hp->Prop}{v:V}(hf:v.free=true)(hs:Xn h h0)(hg:qP nx h0=true)(hfr:UD h0=true)(hp:post v.aH h0.aj):fV h0 n post v h:=by
 have hG:=kG hg
 have get: ∀ i ob,h0.aj i=some ob-> ∃ o,h0.get i=some o/\ob=o.aG:=fun i ob e=>by
  simp only[Hz.aj,Option.map_eq_some_iff] at e
  obtain⟨o,e1,e2⟩:=e
  exact⟨o,e1,e2.symm⟩
 have hfree:=V.lX v hf
 refine⟨fun _=>False,id,v.aH,h0.aj,hp,?_,fun i ob hi=>?_,fun i j _ _ e=>e,T.bI (fun _ h=>h.elim) _ (fM hfree),fun i ob hi=>?_,fun i _ _=>rfl⟩
 ·rw[Hy]; exact aC _
 ·obtain⟨o,e1,rfl⟩:=get i ob hi
  refine⟨o.aG,aJ (UC hs e1),fun h=>h,rfl,rfl,?_,yM (hG i _ hi).2.2⟩
  rw[rV _ (OV.Oi (Oh hfr e1))]; exact bP _
 ·obtain⟨o,e1,rfl⟩:=get i ob hi
  exact⟨.inl (by rw[hi]; rfl),T.ak (fun _ h=>h.elim) _ (OV.Oi (Oh hfr e1))⟩
abbrev Zg(p:aW)(r:Rule):Hz:=[(7,some (.box 78 19 (.dat (.rule r)))),(0,some (.box 27 11 (.dat (.eU p))))]
theorem S.Lj(p:aW)(r x:Rule)(n:Nat):aF Tryz.prog 113 (V.aS [.dat (.rule x),.ptr 7 0 0]) (Zg p r).aj n (fun t hp=>t= .bool (x.name==r.name)/\hp=(Zg p r).aj):=by
 refine lV.of (nx:=8) Bd.lU (by simp) ⟨_,_,rfl,rfl⟩ rfl rfl ?_
 conv=>whnf
 exact fV.same (nx:=8) rfl ⟨rfl,rfl,trivial⟩ rfl rfl ⟨rfl,rfl⟩
def CY(s:Str):List Rule->Nat->Int
 |[],_=> -1
 |x::r,i=>bif x.name==s then(i:Int) else CY s r (i+1)
theorem S.UE(p:aW)(r:Rule)(l:List Rule)(f:Bool)(hl:l.length<2^30)(n:Nat):aF Tryz.prog 129 (V.aS [.row 19 f (.rules l),.fn 113 [.ptr 7 0 0]]) (Zg p r).aj n (fun t hp=>t= .int (CY r.name l 0)/\hp=(Zg p r).aj):=by
 refine lV.of (nx:=8) Bd.fE (by simp) ⟨_,_,rfl,rfl⟩ rfl rfl ?_
 conv=>whnf
 refine aU.same [0,1,6,7] (fun i:Nat=>[(8,.int i)]) (fun i=>i<=l.length/\CY r.name l 0=CY r.name (l.drop i) i) (fun i=>l.length-i) 0 rfl (by decide) rfl (fun _=>rfl) ⟨by omega,by simp⟩ ⟨⟨_,rfl,rfl⟩,trivial⟩ ?_
 conv=>whnf
 refine⟨rfl,?_⟩
 rintro i ⟨hi,hall⟩
 conv=>whnf
 refine⟨fun h3=>?_,fun h3=>?_⟩
 ·have hi':i<l.length:=by simpa using h3
  rw[cO default hi'] at hall
  simp only[CY] at hall
  conv=>whnf
  refine .mk (by simp only[Rw.rng] at *; omega) ?_
  conv=>whnf
  refine ah.heap (S.Lj p r (l.getD i default) _) ?_
  rintro t hp ⟨rfl,rfl⟩
  refine⟨.bool _,Zg p r,rfl,rfl,?_⟩
  conv=>whnf
  refine⟨fun h4=>?_,fun h4=>?_⟩
  ·conv=>whnf
   rw[h4] at hall
   exact fV.same (nx:=8) rfl ⟨rfl,rfl,trivial⟩ rfl rfl ⟨by rw[hall]; rfl,rfl⟩
  ·conv=>whnf
   refine .mk (by simp only[okI] at *; omega) ?_
   conv=>whnf
   rw[h4] at hall
   refine⟨i+1,⟨by omega,hall⟩,by omega,⟨⟨_,rfl,rfl⟩,trivial⟩,?_,rfl⟩
   repeat' (first|exact trivial|exact⟨_,rfl,rfl⟩|constructor)
 ·conv=>whnf
  have hi':l.length<=i:=by simpa using h3
  rw[List.drop_eq_nil_of_le hi'] at hall
  exact fV.same (nx:=8) rfl ⟨rfl,rfl,trivial⟩ rfl rfl ⟨by rw[hall]; rfl,rfl⟩
theorem Xo{s:Str}{l:List Rule}{i:Nat}:decide (0<=CY s l i)=l.any fun x=>x.name==s:=by
 have: ∀ {l:List Rule} {i:Nat},0<=CY s l i↔(l.any fun x=>x.name==s)=true:=by
  intro l
  induction l with
  |nil=>intro i; simp[CY]
  |cons x r ih =>
   intro i
   rw[List.any_cons,Bool.or_eq_true,<- ih (i:=i+1)]
   show(0:Int)<=(bif x.name==s then(i:Int) else CY s r (i+1))↔_
   generalize (x.name==s)=b
   cases b<;>simp
 rw[Bool.eq_iff_iff,decide_eq_true_eq]; exact this
theorem S.Ll(p:aW)(r:Rule)(l:List Rule)(f:Bool)(hl:l.length<2^30)(n:Nat):aF Tryz.prog 112 (V.aS [.row 19 f (.rules l),.fn 113 [.ptr 7 0 0]]) (Zg p r).aj n (fun t hp=>t= .bool (l.any fun x=>x.name==r.name)/\hp=(Zg p r).aj):=by
 refine lV.of (nx:=8) Bd.dZ (by simp) ⟨_,_,rfl,rfl⟩ rfl rfl ?_
 conv=>whnf
 refine ah.heap (S.UE p r l f hl _) ?_
 rintro t hp ⟨rfl,rfl⟩
 refine⟨.int _,Zg p r,rfl,rfl,?_⟩
 conv=>whnf
 exact fV.same (nx:=8) rfl ⟨rfl,rfl,trivial⟩ rfl rfl ⟨by rw[<- Xo (i:=0)]; rfl,rfl⟩
theorem ah.mkRow{P:Program}{f:FuncId}{args:List V}{h:Hz}{n ty k:Nat}{r:Rw}{K:V->Hz->Prop}{KW:Nat->V->Hz->Prop}(H:uy P f (V.aS args) (fun n=>.own n) (some ⟨ty,k,r.aS⟩))(hK:K (.own n) ((n,some (.row ty k r []))::h)):ah P false none f args h n K KW :=
 ah.heap (uy.frame H _ _) (by rintro t hp ⟨rfl,rfl⟩; exact⟨.own n,_,rfl,by rw[aZ]; simp[ng,OV.aG,V.aS],hK⟩)
theorem S.Concat(a b c:List Str)(n:Nat)(h0:0<a.length)(ha:a.length<2^20)(hb:b.length<2^20)(hc:c.length<2^20) :
  aF Tryz.prog 109 (V.aS [.xO 0 false [.row 0 false (.strs a),.row 0 false (.strs b),.row 0 false (.strs c)]]) no n (fun t hp=>t= .own n/\hp=Hz.aj [(n,some (.row 9 0 (.strs (a++b++c)) []))]):=by
 refine lV.of (nx:=0) (h0:=[]) Bd.iO (by simp) ⟨_,_,rfl,rfl⟩ rfl rfl ?_
 conv=>whnf
 refine aU.times 4 rfl ?_
 conv=>whnf
 refine Fork.mk (fun _=>?_) (fun q=>absurd (q.symm.trans (rfl)) Bool.false_ne_true)
 conv=>whnf
 repeat(refine VC.mk (by first|(omega)|(simp only[okI] at *; omega)) ?_; conv=>whnf)
 refine Fork.mk (fun q=>absurd (q.symm.trans (decide_eq_false (by omega))).symm Bool.false_ne_true) (fun _=>?_)
 conv=>whnf
 refine .mk (by simp only[okI] at *; omega) ?_
 conv=>whnf
 refine Fork.mk (fun _=>?_) (fun q=>absurd (q.symm.trans (rfl)) Bool.false_ne_true)
 conv=>whnf
 repeat(refine VC.mk (by first|(omega)|(simp only[okI] at *; omega)) ?_; conv=>whnf)
 refine Fork.mk (fun q=>absurd (q.symm.trans (decide_eq_false (by omega))).symm Bool.false_ne_true) (fun _=>?_)
 conv=>whnf
 refine .mk (by simp only[okI] at *; omega) ?_
 conv=>whnf
 refine Fork.mk (fun _=>?_) (fun q=>absurd (q.symm.trans (rfl)) Bool.false_ne_true)
 conv=>whnf
 repeat(refine VC.mk (by first|(omega)|(simp only[okI] at *; omega)) ?_; conv=>whnf)
 refine Fork.mk (fun q=>absurd (q.symm.trans (decide_eq_false (by omega))).symm Bool.false_ne_true) (fun _=>?_)
 conv=>whnf
 refine .mk (by simp only[okI] at *; omega) ?_
 conv=>whnf
 refine Fork.mk (fun q=>absurd (q.symm.trans (rfl)).symm Bool.false_ne_true) (fun _=>?_)
 conv=>whnf
 have e:(0+(a.length:Int)+b.length+c.length)=((a.length+b.length+c.length:Nat):Int):=by omega
 rw[e]
 refine ah.mkRow (r:=.strs []) (S.Grow (a.length+b.length+c.length) (by omega) (by omega)) ?_
 conv=>whnf
 refine aU.times 4 rfl ?_
 conv=>whnf
 refine Fork.mk (fun _=>?_) (fun q=>absurd (q.symm.trans (rfl)) Bool.false_ne_true)
 conv=>whnf
 repeat(refine VC.mk (by first|(omega)|(simp only[oQ,og,Rw.len,List.length_nil]; omega)|(simp only[okI] at *; omega)) ?_; conv=>whnf)
 refine Fork.mk (fun _=>?_) (fun q=>absurd (q.symm.trans (rfl)) Bool.false_ne_true)
 conv=>whnf
 repeat(refine VC.mk (by first|(omega)|(simp only[oQ,og,Rw.len,List.length_append,List.length_nil]; omega)|(simp only[okI] at *; omega)) ?_; conv=>whnf)
 refine Fork.mk (fun _=>?_) (fun q=>absurd (q.symm.trans (rfl)) Bool.false_ne_true)
 conv=>whnf
 repeat(refine VC.mk (by first|(omega)|(simp only[oQ,og,Rw.len,List.length_append,List.length_nil]; omega)|(simp only[okI] at *; omega)) ?_; conv=>whnf)
 refine Fork.mk (fun q=>absurd (q.symm.trans (rfl)).symm Bool.false_ne_true) (fun _=>?_)
 conv=>whnf
 refine fV.one (c:=n) (o:=.row 9 0 (.strs (a++b++c)) []) (t:=.own n) rfl rfl rfl nofun (.inr rfl) rfl (.eq rfl) ⟨rfl,rfl⟩
theorem S.Zh(a b c:List Str)(h0:0<a.length)(ha:a.length<2^20)(hb:b.length<2^20)(hc:c.length<2^20) :
  uy Tryz.prog 109 (V.aS [.xO 0 false [.row 0 false (.strs a),.row 0 false (.strs b),.row 0 false (.strs c)]]) (fun n=>.own n) (some ⟨9,0,(Rw.strs (a++b++c)).aS⟩):=by
 refine⟨rfl,fun _=>rfl,(fun ob h=>by cases h; rw[fJ]; intro t ht; obtain⟨x,_,rfl⟩:=List.mem_map.1 ht; rfl),(fun ob h=>by cases h; exact fun e=>absurd e (by decide:(0:Nat)≠fF)),fun n=>(S.Concat a b c n h0 ha hb hc).mono ?_⟩
 rintro t hp ⟨rfl,rfl⟩
 refine⟨rfl,?_⟩
 rw[aZ]; simp[ng,OV.aG,V.aS]; rfl
theorem ah.J3{P:Program}{f:FuncId}{args:List V}{ts:List T}{h:Hz}{n ty k:Nat}{r:Rw}{K:V->Hz->Prop}{KW:Nat->V->Hz->Prop}(H:uy P f ts (fun n=>.own n) (some ⟨ty,k,r.aS⟩))(hs:T.cu (fun _=>True) h.aj ts (V.aS args))(hh:T.pG r.aS=true)(hK:K (.own n) ((n,some (.row ty k r []))::h)):ah P false none f args h n K KW :=
 ⟨.inl (uy.lend H hs rfl (fun _ e=>by cases e; exact hh) ⟨.own n,_,rfl,by rw[aZ]; simp[ng,OV.aG,V.aS],(fun e=>by cases e),hK⟩)⟩
theorem MH{h:Hz}{j ty:Nat}{Z:Nat->Prop}{l:List V}(hz:Z j)(q:h.get j=some (.row ty 0 .nil l))(hf:V.dh l=true):T.sub Z h.aj (V.xO 0 false l).aH (V.own j).aH:=by
 show T.sub Z h.aj (.sl 0 false (V.aS l)) (.own j)
 simp only[T.sub]
 exact⟨trivial,hz,V.gY l hf,by decide,ty,by rw[aJ q]; rfl⟩
theorem UF{l:List Str}:T.pG (Rw.strs l).aS=true:=by
 show T.pG (l.map eS)=true
 induction l with
 |nil=>rfl
 |cons s r ih=>simp only[List.map_cons,T.pG,ih]; rfl
theorem acK{h:Hz}{j i ty:Nat}{Z:Nat->Prop}{l:List Str}(hz:Z j)(q:h.get j=some (.row ty 0 (.strs l) []))(hi:i<=l.length):T.sub Z h.aj (V.row 0 false (.strs (l.take i))).aH (V.nC j 0 i).aH:=by
 show T.sub Z h.aj (.sl 0 false ((l.take i).map eS)) (.nC j 0 i)
 simp only[T.sub]
 refine⟨trivial,hz,?_,by decide,ty,l.map eS,?_,by simpa using hi,by simp[List.map_take]⟩
 ·rw[fJ]; intro t ht; obtain⟨x,_,rfl⟩:=List.mem_map.1 ht; rfl
 ·rw[aJ q]; simp[OV.aG,Rw.aS,V.aS]
def allNames(p:aW):List Str:=p.states++p.messages++p.values
def Ro(l:List Str)(i:Nat):Bool:= !(validName (l.getD i []))||(l.take i).any fun x=>l.getD i []==x
def Ih(p:aW):Int:=bif (List.range (allNames p).length).any (Ro (allNames p)) then 2 else 0
theorem I5{n:Nat}{f:Nat->Bool}:(List.range n).any f=true↔ ∃ i,i<n/\f i=true:=by
 simp[List.any_eq_true]
theorem S.mQ(p:aW)(h0:0<p.states.length)(h1:p.states.length<2^20)(h2:p.messages.length<2^20)(h3:p.values.length<2^20):au Tryz.prog 88 [.dat (.eU p)] (.int (Ih p)):=by
 have hlen:(allNames p).length<2^30:=by simp only[allNames,List.length_append]; omega
 refine au.of Bd.mQ (by simp) rfl rfl ?_
 conv=>whnf
 refine ah.J3 (r:=.strs (allNames p)) (S.Zh p.states p.messages p.values h0 h1 h2 h3) (And.intro (MH (ty:=22) trivial rfl rfl) trivial) UF ?_
 conv=>whnf
 refine aU.same [3,14,15] (fun i:Nat=>[(16,.int i)]) (fun i=>i<=(allNames p).length/\(List.range i).any (Ro (allNames p))=false) (fun i=>(allNames p).length-i) 0 rfl (by decide) rfl (fun _=>rfl) ⟨Nat.zero_le _,rfl⟩ ⟨⟨_,rfl,rfl⟩,trivial⟩ ?_
 conv=>whnf
 refine⟨rfl,?_⟩
 rintro i ⟨hi,hall⟩
 conv=>whnf
 refine⟨fun h4=>?_,fun h4=>?_⟩
 ·have hi':i<(allNames p).length:=by simpa using h4
  conv=>whnf
  repeat(refine VC.mk (by simp only[Rw.rng] at *; omega) ?_; conv=>whnf)
  refine ah.pure (S.fG ((allNames p).getD i [])) rfl ?_
  conv=>whnf
  repeat(refine VC.mk (by first|exact fun h=>⟨h,h⟩|(intro h; (repeat' apply And.intro)<;>first|exact h|omega|(simp only[Rw.qN]; omega)|(simp only[Rw.rng]; omega))) ?_; conv=>whnf)
  refine ah.LJ (fun _=>S.slices_Contains_string ((allNames p).take i) ((allNames p).getD i []) false (by rw[List.length_take]; omega)) (fun _=>And.intro (acK (ty:=9) trivial rfl (by omega)) (And.intro (aC _) trivial)) rfl rfl ?_
  conv=>whnf
  refine .mk (by intro h; rw[h]; rfl) ?_
  conv=>whnf
  refine⟨fun h5=>?_,fun h5=>?_⟩
  ·conv=>whnf
   refine aA.int ?_
   rw[Ih,I5.2 ⟨i,hi',h5⟩]; rfl
  ·conv=>whnf
   refine .mk (by simp only[okI] at *; omega) ?_
   conv=>whnf
   refine⟨i+1,⟨by omega,?_⟩,by omega,⟨⟨_,rfl,rfl⟩,trivial⟩,?_,rfl⟩
   ·rw[List.range_succ,List.any_append,hall]
    simp only[List.any_cons,List.any_nil,Bool.or_false,Bool.false_or]; exact h5
   ·repeat' (first|exact trivial|exact⟨_,rfl,rfl⟩|constructor)
 ·have hi':(allNames p).length<=i:=by simpa using h4
  have e:i=(allNames p).length:=Nat.le_antisymm hi hi'
  subst e
  conv=>whnf
  exact aA.int (by rw[Ih,hall]; rfl)
theorem ah.acL{P:Program}{f:FuncId}{args:List V}{h:Hz}{hp0:Hp}{n:Nat}{K:V->Hz->Prop}{KW:Nat->V->Hz->Prop}{post:T->Hp->Prop}(S:aF P f (V.aS args) hp0 n post)(e:h.aj=hp0)(hK: ∀ t hp,post t hp-> ∃ v h',t=v.aH/\hp=Hz.aj h'/\K v h'):ah P false none f args h n K KW:=by
 subst e; exact ah.heap S hK
theorem Oj{i:Nat}{a b:Option OV}{r:Hz}:Hz.aj ((i,a)::(i,b)::r)=Hz.aj ((i,a)::r):=funext fun j=>by
 simp only[Hz.aj,Hz.get]; cases Nat.beq i j<;>rfl
structure dI(p:aW):Prop where
 states:p.states.length<2^20
 messages:p.messages.length<2^20
 values:p.values.length<2^20
 eX:p.eX.length<2^30
 initial:p.initial.length<2^30
 leader:p.leader.length<2^30
 rules:p.rules.length<2^30
 rule: ∀ i,ru (p.rules.getD i default)
 qw:(p.rules.flatMap Rule.guards).length<2^30
def qH(p:aW)(i:Nat):Bool:= !(validName (p.rules.getD i default).name)||(p.rules.take i).any fun x=>x.name==(p.rules.getD i default).name
def qE(p:aW)(i:Nat):Bool:= !(yh (p.rules.getD i default).kind p.topology)||lJ (p.rules.getD i default) p.topology
def yT(p:aW)(r:Rule):Int:=bW [fC r.fr p.states.length,fC r.to p.states.length]
def abv(p:aW)(r:Rule):Bool:=decide (r.pos<0)||decide (r.pos>2)||(r.pos !=0&&p.topology==3)
def ku(p:aW)(i:Nat):Int :=
 let r:=p.rules.getD i default
 let n:Int:=p.states.length
 bif qH p i then 2 else bif qE p i then 6 else bif yT p r !=0 then yT p r else
 bif r.kind==1 then bW [CX p r.guards,iP r.ex n,iP r.all n,jT p r.read,jT p r.write,iP r.send p.messages.length] else
 bif r.kind==2 then bW [fC r.gU n,fC r.Bl n,jT p r.read,jT p r.write] else
 bif r.kind==3 then bW [Em r.response n,jT p r.read,jT p r.write] else
 bif r.kind==4 then bW [iP r.left n,iP r.right n,iP r.parent n,fQ (abv p r) 1] else
 bif p.topology==4 then bW [fC r.gU n,fC r.Bl n,fQ (decide (r.direction<3)||decide (r.direction>4)) 1]
 else bW [fC r.gU n,fC r.Bl n,fQ (decide (r.direction<1)||decide (r.direction>2)) 1]
theorem S.jr(p:aW)(i:Nat)(hi:i<p.rules.length)(hp:dI p):au Tryz.prog 90 [.dat (.eU p),.int i] (.int (ku p i)):=by
 have hr:=hp.rule i
 have hp1:=hp.rules
 have hp2:=hp.states
 have hp3:=hp.messages
 refine au.of Bd.jr (by simp) rfl rfl ?_
 conv=>whnf
 repeat(refine VC.mk (by first|(simp only[Rw.qN]; omega)|(simp only[Rw.rng] at *; omega)) ?_; conv=>whnf)
 refine ah.acL (S.Ll p (p.rules.getD i default) (p.rules.take i) false (by rw[List.length_take]; omega) _) Oj ?_
 rintro t hp' ⟨rfl,rfl⟩
 refine⟨.bool _,Zg p (p.rules.getD i default),rfl,rfl,?_⟩
 conv=>whnf
 refine ah.pure (S.fG (p.rules.getD i default).name) rfl ?_
 conv=>whnf
 refine .mk (by intro h; rw[h]; rfl) ?_
 conv=>whnf
 refine⟨fun h1=>?_,fun h1=>?_⟩
 ·conv=>whnf
  exact aA.int (by rw[ku,show qH p i=true from h1]; rfl)
 ·conv=>whnf
  refine ah.pure (S.nN (p.rules.getD i default).kind p.topology) rfl ?_
  conv=>whnf
  repeat(refine VC.mk (by first|exact id|exact fun h=>⟨h,h⟩) ?_; conv=>whnf)
  refine ah.nY (fun _=>S.kR (p.rules.getD i default) p.topology hr) rfl ?_
  conv=>whnf
  refine .mk (by intro h; rw[h]; rfl) ?_
  conv=>whnf
  refine⟨fun h2=>?_,fun h2=>?_⟩
  ·conv=>whnf
   exact aA.int (by rw[ku,show qH p i=false from h1,show qE p i=true from h2]; rfl)
  ·conv=>whnf
   refine ah.pure (S.bM (p.rules.getD i default).fr p.states.length) rfl ?_
   conv=>whnf
   refine ah.pure (S.bM (p.rules.getD i default).to p.states.length) rfl ?_
   conv=>whnf
   refine ah.pure (S.bH [fC (p.rules.getD i default).fr p.states.length,fC (p.rules.getD i default).to p.states.length] true (show 2<2^40 by decide)) rfl ?_
   conv=>whnf
   refine⟨fun h3=>?_,fun h3=>?_⟩
   ·conv=>whnf
    exact aA.int (by rw[ku,show qH p i=false from h1,show qE p i=false from h2,show(yT p (p.rules.getD i default) !=0)=true from h3]; rfl)
   ·conv=>whnf
    refine⟨fun h4=>?_,fun h4=>?_⟩
    ·conv=>whnf
     refine ah.pure (S.lI p (p.rules.getD i default).guards false (by have:=hr.guards; omega)) rfl ?_
     conv=>whnf
     refine ah.pure (S.dJ (p.rules.getD i default).ex p.states.length false (by have:=hr.ex; omega)) rfl ?_
     conv=>whnf
     refine ah.pure (S.dJ (p.rules.getD i default).all p.states.length false (by have:=hr.all; omega)) rfl ?_
     conv=>whnf
     refine ah.pure (S.fD p (p.rules.getD i default).read) rfl ?_
     conv=>whnf
     refine ah.pure (S.fD p (p.rules.getD i default).write) rfl ?_
     conv=>whnf
     refine ah.pure (S.dJ (p.rules.getD i default).send p.messages.length false (by have:=hr.send; omega)) rfl ?_
     conv=>whnf
     refine ah.pure (S.bH [CX p (p.rules.getD i default).guards,iP (p.rules.getD i default).ex p.states.length,iP (p.rules.getD i default).all p.states.length,jT p (p.rules.getD i default).read,jT p (p.rules.getD i default).write,iP (p.rules.getD i default).send p.messages.length] true (show 6<2^40 by decide)) rfl ?_
     conv=>whnf
     exact aA.int (by rw[ku,show qH p i=false from h1,show qE p i=false from h2,show(yT p (p.rules.getD i default) !=0)=false from h3,h4]; rfl)
    ·conv=>whnf
     refine⟨fun h5=>?_,fun h5=>?_⟩
     ·conv=>whnf
      refine ah.pure (S.bM (p.rules.getD i default).gU p.states.length) rfl ?_
      conv=>whnf
      refine ah.pure (S.bM (p.rules.getD i default).Bl p.states.length) rfl ?_
      conv=>whnf
      refine ah.pure (S.fD p (p.rules.getD i default).read) rfl ?_
      conv=>whnf
      refine ah.pure (S.fD p (p.rules.getD i default).write) rfl ?_
      conv=>whnf
      refine ah.pure (S.bH [fC (p.rules.getD i default).gU p.states.length,fC (p.rules.getD i default).Bl p.states.length,jT p (p.rules.getD i default).read,jT p (p.rules.getD i default).write] true (show 4<2^40 by decide)) rfl ?_
      conv=>whnf
      exact aA.int (by rw[ku,show qH p i=false from h1,show qE p i=false from h2,show(yT p (p.rules.getD i default) !=0)=false from h3,h4,h5]; rfl)
     ·conv=>whnf
      refine⟨fun h6=>?_,fun h6=>?_⟩
      ·conv=>whnf
       refine ah.pure (S.jv (p.rules.getD i default).response p.states.length false (by have:=hr.response; omega)) rfl ?_
       conv=>whnf
       refine ah.pure (S.fD p (p.rules.getD i default).read) rfl ?_
       conv=>whnf
       refine ah.pure (S.fD p (p.rules.getD i default).write) rfl ?_
       conv=>whnf
       refine ah.pure (S.bH [Em (p.rules.getD i default).response p.states.length,jT p (p.rules.getD i default).read,jT p (p.rules.getD i default).write] true (show 3<2^40 by decide)) rfl ?_
       conv=>whnf
       exact aA.int (by rw[ku,show qH p i=false from h1,show qE p i=false from h2,show(yT p (p.rules.getD i default) !=0)=false from h3,h4,h5,h6]; rfl)
      ·conv=>whnf
       refine⟨fun h7=>?_,fun h7=>?_⟩
       ·conv=>whnf
        repeat(refine VC.mk (by first|exact id|(intro h; rw[h]; rfl)|(intro h; simp_all; done)) ?_; conv=>whnf)
        refine ah.pure (S.dJ (p.rules.getD i default).left p.states.length false (by have:=hr.left; omega)) rfl ?_
        conv=>whnf
        refine ah.pure (S.dJ (p.rules.getD i default).right p.states.length false (by have:=hr.right; omega)) rfl ?_
        conv=>whnf
        refine ah.pure (S.dJ (p.rules.getD i default).parent p.states.length false (by have:=hr.parent; omega)) rfl ?_
        conv=>whnf
        refine ah.pure (S.bK (abv p (p.rules.getD i default)) 1) rfl ?_
        conv=>whnf
        refine ah.pure (S.bH [iP (p.rules.getD i default).left p.states.length,iP (p.rules.getD i default).right p.states.length,iP (p.rules.getD i default).parent p.states.length,fQ (abv p (p.rules.getD i default)) 1] true (show 4<2^40 by decide)) rfl ?_
        conv=>whnf
        exact aA.int (by rw[ku,show qH p i=false from h1,show qE p i=false from h2,show(yT p (p.rules.getD i default) !=0)=false from h3,h4,h5,h6,h7]; rfl)
       ·conv=>whnf
        refine⟨fun h8=>?_,fun h8=>?_⟩
        ·conv=>whnf
         refine ah.pure (S.bM (p.rules.getD i default).gU p.states.length) rfl ?_
         conv=>whnf
         refine ah.pure (S.bM (p.rules.getD i default).Bl p.states.length) rfl ?_
         conv=>whnf
         repeat(refine VC.mk (by first|exact id|exact fun h=>⟨h,h⟩|(intro h; rw[h]; rfl)) ?_; conv=>whnf)
         refine ah.pure (S.bK (decide ((p.rules.getD i default).direction<3)||decide ((p.rules.getD i default).direction>4)) 1) rfl ?_
         conv=>whnf
         refine ah.pure (S.bH [fC (p.rules.getD i default).gU p.states.length,fC (p.rules.getD i default).Bl p.states.length,fQ (decide ((p.rules.getD i default).direction<3)||decide ((p.rules.getD i default).direction>4)) 1] true (show 3<2^40 by decide)) rfl ?_
         conv=>whnf
         exact aA.int (by rw[ku,show qH p i=false from h1,show qE p i=false from h2,show(yT p (p.rules.getD i default) !=0)=false from h3,h4,h5,h6,h7,h8]; rfl)
        ·conv=>whnf
         refine ah.pure (S.bM (p.rules.getD i default).gU p.states.length) rfl ?_
         conv=>whnf
         refine ah.pure (S.bM (p.rules.getD i default).Bl p.states.length) rfl ?_
         conv=>whnf
         repeat(refine VC.mk (by first|exact id|exact fun h=>⟨h,h⟩|(intro h; rw[h]; rfl)) ?_; conv=>whnf)
         refine ah.pure (S.bK (decide ((p.rules.getD i default).direction<1)||decide ((p.rules.getD i default).direction>2)) 1) rfl ?_
         conv=>whnf
         refine ah.pure (S.bH [fC (p.rules.getD i default).gU p.states.length,fC (p.rules.getD i default).Bl p.states.length,fQ (decide ((p.rules.getD i default).direction<1)||decide ((p.rules.getD i default).direction>2)) 1] true (show 3<2^40 by decide)) rfl ?_
         conv=>whnf
         exact aA.int (by rw[ku,show qH p i=false from h1,show qE p i=false from h2,show(yT p (p.rules.getD i default) !=0)=false from h3,h4,h5,h6,h7,h8]; rfl)
def CZ(g:Ci):List Ci->Nat->Int
 |[],_=> -1
 |x::r,i=>bif g==x then(i:Int) else CZ g r (i+1)
theorem Xp{g:Ci}{l:List Ci}{i:Nat}:decide (0<=CZ g l i)=l.any fun x=>g==x:=by
 have: ∀ {l:List Ci} {i:Nat},0<=CZ g l i↔(l.any fun x=>g==x)=true:=by
  intro l
  induction l with
  |nil=>intro i; simp[CZ]
  |cons x r ih =>
   intro i
   rw[List.any_cons,Bool.or_eq_true,<- ih (i:=i+1)]
   show(0:Int)<=(bif g==x then(i:Int) else CZ g r (i+1))↔_
   generalize (g==x)=b
   cases b<;>simp
 rw[Bool.eq_iff_iff,decide_eq_true_eq]; exact this
theorem S.Xq(l:List Ci)(g:Ci)(f:Bool)(hl:l.length<2^40):au Tryz.prog 130 [.row 7 f (.qw l),.dat (.UL g)] (.int (CZ g l 0)):=by
 refine au.of Bd.dO (by simp) rfl rfl ?_
 conv=>whnf
 refine aU.same [0,3,6,7] (fun i:Nat=>[(8,.int i)]) (fun i=>i<=l.length/\CZ g l 0=CZ g (l.drop i) i) (fun i=>l.length-i) 0 rfl (by decide) rfl (fun _=>rfl) ⟨by omega,by simp⟩ ⟨⟨_,rfl,rfl⟩,trivial⟩ ?_
 conv=>whnf
 refine⟨rfl,?_⟩
 rintro i ⟨hi,hall⟩
 conv=>whnf
 refine⟨fun h3=>?_,fun h3=>?_⟩
 ·have hi':i<l.length:=by simpa using h3
  rw[cO default hi'] at hall
  simp only[CZ] at hall
  conv=>whnf
  refine .mk (by simp only[Rw.rng] at *; first|omega|(simp_all; done)|(simp_all; omega)) ?_
  conv=>whnf
  refine⟨fun h4=>?_,fun h4=>?_⟩
  ·conv=>whnf
   refine aA.int ?_
   have h4':(g==l.getD i default)=true:=h4
   rw[hall,h4']; rfl
  ·conv=>whnf
   refine .mk (by simp only[okI] at *; first|omega|(simp_all; done)|(simp_all; omega)) ?_
   conv=>whnf
   refine⟨i+1,⟨by omega,?_⟩,by omega,⟨⟨_,rfl,rfl⟩,trivial⟩,?_,rfl⟩
   ·have h4':(g==l.getD i default)=false:=h4
    rw[hall,h4']; rfl
   ·repeat' (first|exact trivial|exact⟨_,rfl,rfl⟩|constructor)
 ·conv=>whnf
  refine aA.int ?_
  have hi':l.length<=i:=by simpa using h3
  rw[hall,List.drop_eq_nil_of_le hi']; rfl
theorem S.Ol(l:List Ci)(g:Ci)(f:Bool)(hl:l.length<2^40):au Tryz.prog 119 [.row 7 f (.qw l),.dat (.UL g)] (.bool (l.any fun x=>g==x)):=by
 refine au.of Bd.dD (by simp) rfl rfl ?_
 conv=>whnf
 refine ah.pure (S.Xq l g f hl) rfl ?_
 conv=>whnf
 exact aA.bool Xp.symm
theorem ZJ{h:Hz}{j:Nat}{Z:Nat->Prop}{l:List Ci}(hz:Z j)(q:h.get j=some (.row 180 7 (.qw l) [])):T.sub Z h.aj (V.row 7 false (.qw l)).aH (V.own j).aH:=by
 show T.sub Z h.aj (.sl 7 false (l.map NH)) (.own j)
 simp only[T.sub]
 refine⟨trivial,hz,?_,by decide,180,?_⟩
 ·rw[fJ]; intro t ht; obtain⟨x,_,rfl⟩:=List.mem_map.1 ht; rfl
 ·have:=aJ q
  rw[this]; simp[OV.aG,Rw.aS,V.aS]
theorem Ii{α β:Type}{f:β->α->β}{b:β}{l:List α}{i:Nat}{d:α}(h:i<l.length):(l.take (i+1)).foldl f b=f ((l.take i).foldl f b) (l.getD i d):=by
 rw[List.take_add_one,List.foldl_append]
 simp[List.getElem?_eq_getElem h]
theorem aA.adC{h:Hz}{j:Nat}{l:List Ci}(q:h.get j=some (.row 180 7 (.qw l) [])):aA (.row 7 false (.qw l)) (.own j) h:=⟨ZJ trivial q⟩
def Lm(acc:List Ci)(g:Ci):List Ci:=bif acc.any (fun x=>g==x) then acc else acc++[g]
def C9(l:List Rule):List Ci:=(l.flatMap Rule.guards).foldl Lm []
theorem Xr{acc:List Ci}{g:Ci}:(Lm acc g).length<=acc.length+1:=by
 unfold Lm; cases acc.any (fun x=>g==x)<;>simp
theorem Om: ∀ {l acc:List Ci},(l.foldl Lm acc).length<=acc.length+l.length:=by
 intro l
 induction l with
 |nil=>intro acc; simp
 |cons g r ih =>
  intro acc
  have:=ih (acc:=Lm acc g)
  have h2:=Xr (acc:=acc) (g:=g)
  simp only[List.foldl_cons,List.length_cons]; omega
abbrev rowT(l:List Ci):OV:=.row 180 7 (.qw l) []
def ET(p:aW)(i k:Nat):List Ci:=((p.rules.getD i default).guards.take k).foldl Lm (C9 (p.rules.take i))
theorem Xt(p:aW)(hp:dI p)(i k:Nat)(_hi:i<p.rules.length):(ET p i k).length<2^31:=by
 have h1:=Om (l:=(p.rules.getD i default).guards.take k) (acc:=C9 (p.rules.take i))
 have h2:=Om (l:=(p.rules.take i).flatMap Rule.guards) (acc:=[])
 have h3:=(hp.rule i).guards
 have h4:((p.rules.take i).flatMap Rule.guards).length<=(p.rules.flatMap Rule.guards).length:=by
  conv=>rhs; rw[<- List.take_append_drop i p.rules,List.flatMap_append,List.length_append]
  omega
 have h5:=hp.qw
 have h6:((p.rules.getD i default).guards.take k).length<=(p.rules.getD i default).guards.length:=by simp[List.length_take]; omega
 unfold ET
 unfold C9 at h1 ⊢
 simp only[List.length_nil,Nat.zero_add] at h2
 omega
theorem UG(p:aW){i:Nat}(hi:i<p.rules.length):C9 (p.rules.take (i+1))=ET p i (p.rules.getD i default).guards.length:=by
 unfold ET
 rw[List.take_of_length_le (Nat.le_refl _)]
 unfold C9
 rw[List.take_add_one,List.flatMap_append,List.foldl_append]
 simp[List.getElem?_eq_getElem hi]
theorem S.iR(p:aW)(hp:dI p):au Tryz.prog 91 [.dat (.eU p)] (.row 7 false (.qw (C9 p.rules))):=by
 have hp1:=hp.rules
 refine au.of Bd.iR (by simp) rfl rfl ?_
 conv=>whnf
 refine aU.nil 3 180 7 (by rfl) rfl rfl rfl ?_
 refine aU.objs 1 [9,10] (fun i:Nat=>[(11,.int i),(3,.own 0)]) (fun i=>[(0,rowT (C9 (p.rules.take i)))]) (fun i=>i<=p.rules.length) (fun i=>p.rules.length-i) 0 [7] rfl (by decide) (fun _=>rfl) (Nat.zero_le _) ?_ ?_ ?_
 ·exact⟨⟨_,rfl,.eq rfl⟩,⟨_,rfl,.eq rfl⟩,trivial⟩
 ·exact⟨⟨rfl,nofun,rfl,rfl,rfl,_,rfl,rfl,rfl,bG.of_eq rfl⟩,trivial⟩
 conv=>whnf
 refine⟨⟨⟨_,rfl,.eq rfl⟩,⟨_,rfl,.eq rfl⟩,trivial⟩,rfl,?_⟩
 rintro i hi
 conv=>whnf
 refine⟨fun h3=>?_,fun h3=>?_⟩
 ·have hi':i<p.rules.length:=by simpa using h3
  conv=>whnf
  refine .mk (by simp only[Rw.rng] at *; first|omega|(simp_all; done)|(simp_all; omega)) ?_
  conv=>whnf
  refine aU.objs 1 [9,10,11,16,17] (fun k:Nat=>[(18,.int k),(3,.own 0)]) (fun k=>[(0,rowT (ET p i k))]) (fun k=>k<=(p.rules.getD i default).guards.length) (fun k=>(p.rules.getD i default).guards.length-k) 0 [0] rfl (by decide) (fun _=>rfl) (Nat.zero_le _) ?_ ?_ ?_
  ·exact⟨⟨_,rfl,.eq rfl⟩,⟨_,rfl,.eq rfl⟩,trivial⟩
  ·exact⟨⟨rfl,nofun,rfl,rfl,rfl,_,rfl,rfl,rfl,bG.of_eq rfl⟩,trivial⟩
  conv=>whnf
  refine⟨⟨⟨_,rfl,.eq rfl⟩,⟨_,rfl,.eq rfl⟩,⟨_,rfl,.eq rfl⟩,⟨_,rfl,.eq rfl⟩,⟨_,rfl,.eq rfl⟩,trivial⟩,rfl,?_⟩
  rintro k hk
  have hacc:=Xt p hp i k hi'
  have hg:=(hp.rule i).guards
  conv=>whnf
  refine⟨fun h4=>?_,fun h4=>?_⟩
  ·have hk':k<(p.rules.getD i default).guards.length:=by simpa using h4
   have hst:ET p i (k+1)=Lm (ET p i k) ((p.rules.getD i default).guards.getD k default):=Ii hk'
   conv=>whnf
   refine .mk (by simp only[Rw.rng] at *; first|omega|(simp_all; done)|(simp_all; omega)) ?_
   conv=>whnf
   refine ah.lend (S.Ol (ET p i k) ((p.rules.getD i default).guards.getD k default) false (by omega)) (And.intro (ZJ trivial rfl) (And.intro (aC _) trivial)) rfl rfl ?_
   conv=>whnf
   refine⟨fun h5=>?_,fun h5=>?_⟩
   ·conv=>whnf
    repeat(refine VC.mk (by first|(show((ET p i k).length+(0+1))*48<=140737488355328/\(ET p i k).length+(0+1)<=1152921504606846976; omega)|(simp only[okI] at *; first|omega|(simp_all; done)|(simp_all; omega))) ?_; conv=>whnf)
    have h5':((ET p i k).any fun x=>(p.rules.getD i default).guards.getD k default==x)=false:=by simpa using h5
    refine⟨k+1,[13],by omega,by omega,⟨⟨_,rfl,.eq rfl⟩,⟨_,rfl,.eq rfl⟩,trivial⟩,⟨⟨_,rfl,.eq rfl⟩,⟨_,rfl,.eq rfl⟩,⟨_,rfl,.eq rfl⟩,⟨_,rfl,.eq rfl⟩,⟨_,rfl,.eq rfl⟩,trivial⟩,⟨rfl,nofun,rfl,rfl,rfl,_,rfl,rfl,rfl,bG.of_eq ?_⟩,trivial⟩
    rw[hst,Lm,h5']
    rfl
   ·conv=>whnf
    refine .mk (by simp only[okI] at *; first|omega|(simp_all; done)|(simp_all; omega)) ?_
    conv=>whnf
    have h5':((ET p i k).any fun x=>(p.rules.getD i default).guards.getD k default==x)=true:=by simpa using h5
    refine⟨k+1,[0],by omega,by omega,⟨⟨_,rfl,.eq rfl⟩,⟨_,rfl,.eq rfl⟩,trivial⟩,⟨⟨_,rfl,.eq rfl⟩,⟨_,rfl,.eq rfl⟩,⟨_,rfl,.eq rfl⟩,⟨_,rfl,.eq rfl⟩,⟨_,rfl,.eq rfl⟩,trivial⟩,⟨rfl,nofun,rfl,rfl,rfl,_,rfl,rfl,rfl,bG.of_eq ?_⟩,trivial⟩
    rw[hst,Lm,h5']; rfl
  ·have hk':(p.rules.getD i default).guards.length<=k:=by simpa using h4
   have e:k=(p.rules.getD i default).guards.length:=Nat.le_antisymm hk hk'
   subst e
   conv=>whnf
   refine .mk (by simp only[okI] at *; first|omega|(simp_all; done)|(simp_all; omega)) ?_
   conv=>whnf
   refine⟨i+1,[0],by omega,by omega,⟨⟨_,rfl,.eq rfl⟩,⟨_,rfl,.eq rfl⟩,trivial⟩,⟨⟨_,rfl,.eq rfl⟩,⟨_,rfl,.eq rfl⟩,trivial⟩,⟨rfl,nofun,rfl,rfl,rfl,_,rfl,rfl,rfl,bG.of_eq ?_⟩,trivial⟩
   rw[UG p hi']
 ·have hi':p.rules.length<=i:=by simpa using h3
  rw[List.take_of_length_le hi']
  conv=>whnf
  exact aA.adC rfl
def vI(p:aW):Bool:=decide (p.topology<1)||decide (p.topology>4)||decide (p.fault<0)||decide (p.fault>3)
def wR(p:aW):Bool:=decide ((p.states.length:Int)>6)||decide ((p.messages.length:Int)>3)||decide ((p.values.length:Int)>3)||decide ((p.eX.length:Int)>4)||decide ((p.rules.length:Int)>8)
def UH(p:aW):Bool:=(!(p.topology==1)&&(decide ((p.messages.length:Int)>0)||decide ((p.values.length:Int)>0)||decide ((p.eX.length:Int)>0)||p.fault !=0))||((p.topology==1)&&decide ((p.leader.length:Int)>0))
def I7(p:aW):Int:=bW [iP p.initial p.states.length,fQ ((p.initial.length:Int)==0) 1,iP p.leader p.states.length]
def FW(p:aW):Int:=bW ((List.range p.rules.length).map (ku p))
def eF(p:aW):Int :=
 bif !(validName p.name) then 2 else bif vI p then 1 else bif (p.states.length:Int)==0 then 1 else bif wR p then 4 else
 bif Ih p !=0 then Ih p else bif UH p then 1 else
 bif p.eX.any (fun l=> !(UA l)) then 4 else
 bif I7 p !=0 then I7 p else
 bif FW p !=0 then FW p else fQ (decide (((C9 p.rules).length:Int)>3)) 4
theorem Qj{n i:Nat}{f:Nat->Int}(h:i<n):((List.range n).drop i).map f=f i::((List.range n).drop (i+1)).map f:=by
 rw[List.drop_eq_getElem_cons (by simpa using h)]; simp
theorem S.iG(p:aW)(hp:dI p):au Tryz.prog 66 [.dat (.eU p)] (.int (eF p)):=by
 have g1:=hp.states; have g2:=hp.messages; have g3:=hp.values; have g4:=hp.eX; have g5:=hp.initial; have g6:=hp.leader; have g7:=hp.rules
 refine au.of Bd.iG (by simp) rfl rfl ?_
 conv=>whnf
 refine ah.pure (S.fG p.name) rfl ?_
 conv=>whnf
 refine⟨fun h1=>?_,fun h1=>?_⟩
 ·conv=>whnf
  exact aA.int (by rw[eF,h1]; rfl)
 conv=>whnf
 repeat(refine VC.mk (by first|exact id|(intro h; rw[h]; rfl)) ?_; conv=>whnf)
 refine⟨fun h2=>?_,fun h2=>?_⟩
 ·conv=>whnf
  exact aA.int (by rw[eF,h1,show vI p=true from h2]; rfl)
 conv=>whnf
 refine⟨fun h3=>?_,fun h3=>?_⟩
 ·conv=>whnf
  exact aA.int (by rw[eF,h1,show vI p=false from h2,h3]; rfl)
 conv=>whnf
 repeat(refine VC.mk (by first|exact id|(intro h; rw[h]; rfl)) ?_; conv=>whnf)
 refine⟨fun h4=>?_,fun h4=>?_⟩
 ·conv=>whnf
  exact aA.int (by rw[eF,h1,show vI p=false from h2,h3,show wR p=true from h4]; rfl)
 conv=>whnf
 have h0:0<p.states.length:=by
  rcases Nat.eq_zero_or_pos p.states.length with e|e
  ·rw[e] at h3; exact absurd h3 (by decide)
  ·exact e
 refine ah.pure (S.mQ p h0 g1 g2 g3) rfl ?_
 conv=>whnf
 refine⟨fun h5=>?_,fun h5=>?_⟩
 ·conv=>whnf
  exact aA.int (by rw[eF,h1,show vI p=false from h2,h3,show wR p=false from h4,h5]; rfl)
 conv=>whnf
 repeat(refine VC.mk (by first|exact id|(intro h; rw[h]; rfl)|(intro h; simp_all; done)) ?_; conv=>whnf)
 refine⟨fun h6=>?_,fun h6=>?_⟩
 ·conv=>whnf
  exact aA.int (by rw[eF,h1,show vI p=false from h2,h3,show wR p=false from h4,h5,show UH p=true from h6]; rfl)
 conv=>whnf
 refine aU.same [1,4,111,112] (fun i:Nat=>[(113,.int i)]) (fun i=>i<=p.eX.length/\(p.eX.take i).any (fun l=> !(UA l))=false) (fun i=>p.eX.length-i) 0 rfl (by decide) rfl (fun _=>rfl) ⟨by omega,by simp⟩ ⟨⟨_,rfl,rfl⟩,trivial⟩ ?_
 conv=>whnf
 refine⟨rfl,?_⟩
 rintro i ⟨hi,hall⟩
 conv=>whnf
 refine⟨fun h7=>?_,fun h7=>?_⟩
 ·have hi':i<p.eX.length:=by simpa using h7
  conv=>whnf
  refine .mk (by simp only[Rw.rng] at *; omega) ?_
  conv=>whnf
  refine ah.pure (S.jc (p.eX.getD i default)) rfl ?_
  conv=>whnf
  refine⟨fun h8=>?_,fun h8=>?_⟩
  ·conv=>whnf
   exact aA.int (by rw[eF,h1,show vI p=false from h2,h3,show wR p=false from h4,h5,show UH p=false from h6,wV (d:=default) hi' h8]; rfl)
  ·conv=>whnf
   refine .mk (by simp only[okI] at *; omega) ?_
   conv=>whnf
   refine⟨i+1,⟨by omega,?_⟩,by omega,⟨⟨_,rfl,rfl⟩,trivial⟩,?_,rfl⟩
   ·rw[Bq (d:=default) hi' hall]; exact h8
   ·repeat' (first|exact trivial|exact⟨_,rfl,rfl⟩|constructor)
 have hi':p.eX.length<=i:=by simpa using h7
 rw[List.take_of_length_le hi'] at hall
 conv=>whnf
 refine ah.pure (S.dJ p.initial p.states.length false (by omega)) rfl ?_
 conv=>whnf
 refine ah.pure (S.bK ((p.initial.length:Int)==0) 1) rfl ?_
 conv=>whnf
 refine ah.pure (S.dJ p.leader p.states.length false (by omega)) rfl ?_
 conv=>whnf
 refine ah.pure (S.bH [iP p.initial p.states.length,fQ ((p.initial.length:Int)==0) 1,iP p.leader p.states.length] true (show 3<2^40 by decide)) rfl ?_
 conv=>whnf
 refine⟨fun h9=>?_,fun h9=>?_⟩
 ·conv=>whnf
  exact aA.int (by rw[eF,h1,show vI p=false from h2,h3,show wR p=false from h4,h5,show UH p=false from h6,hall,show(I7 p !=0)=true from h9]; rfl)
 conv=>whnf
 refine aU.same [1,140,141] (fun i:Nat=>[(142,.int i)]) (fun i=>i<=p.rules.length/\FW p=bW (((List.range p.rules.length).drop i).map (ku p))) (fun i=>p.rules.length-i) 0 rfl (by decide) rfl (fun _=>rfl) ⟨by omega,by simp[FW]⟩ ⟨⟨_,rfl,rfl⟩,trivial⟩ ?_
 conv=>whnf
 refine⟨rfl,?_⟩
 rintro i ⟨hi,hr⟩
 conv=>whnf
 refine⟨fun h10=>?_,fun h10=>?_⟩
 ·have hi':i<p.rules.length:=by simpa using h10
  rw[Qj hi'] at hr
  simp only[bW] at hr
  conv=>whnf
  refine ah.pure (S.jr p i hi' hp) rfl ?_
  conv=>whnf
  refine⟨fun h11=>?_,fun h11=>?_⟩
  ·conv=>whnf
   have abw:ku p i≠0:=Zl h11
   rw[if_neg abw] at hr
   exact aA.int (by rw[eF,h1,show vI p=false from h2,h3,show wR p=false from h4,h5,show UH p=false from h6,hall,show(I7 p !=0)=false from h9,hr,h11]; rfl)
  ·conv=>whnf
   refine .mk (by simp only[okI] at *; omega) ?_
   conv=>whnf
   have abw:ku p i=0:=FQ h11
   rw[if_pos abw] at hr
   refine⟨i+1,⟨by omega,hr⟩,by omega,⟨⟨_,rfl,rfl⟩,trivial⟩,?_,rfl⟩
   repeat' (first|exact trivial|exact⟨_,rfl,rfl⟩|constructor)
 have hi':p.rules.length<=i:=by simpa using h10
 rw[List.drop_eq_nil_of_le (by simpa using hi')] at hr
 conv=>whnf
 refine ah.pure (S.iR p hp) rfl ?_
 conv=>whnf
 refine ah.pure (S.bK (decide (((C9 p.rules).length:Int)>3)) 4) rfl ?_
 conv=>whnf
 exact aA.int (by rw[eF,h1,show vI p=false from h2,h3,show wR p=false from h4,h5,show UH p=false from h6,hall,show(I7 p !=0)=false from h9,hr]; rfl)
theorem aA.eqv{a b:V}{h:Hz}(e:a.aH=b.aH):aA a b h:=⟨by rw[e]; exact aC _⟩
def acM(acc:Bool)(r:Rule):Bool:=acc&&(r.kind==1)&&decide (r.fr<r.to)&&((r.ex.length:Int)==0)&&((r.all.length:Int)==0)
def acN(acc:Bool)(r:Rule):Bool:=acc||decide ((r.all.length:Int)>0)
def yj(p:aW):Bool:=(p.topology==1)&&(p.fault==0)&&((p.messages.length:Int)==0)&&((p.eX.length:Int)==0)
structure Cls where
 UL:Bool
 cover:Bool
 word:Bool
 tree:Bool
 monadic:Bool
def kC(p:aW):Cls :=
 ⟨(p.topology==1)&&((p.values.length:Int)==0)&&p.rules.foldl acM true,yj p&& !(p.rules.foldl acN false),(p.topology==2)||(p.topology==3),p.topology==4,yj p&&decide ((p.states.length:Int)<=4)⟩
def adD(c:Cls):V:=.agg [.bool c.UL,.bool c.cover,.bool c.word,.bool c.tree,.bool c.monadic]
def L9:Cls:=⟨false,false,false,false,false⟩
def Qk(p:aW):V:=.dM [adD (bif eF p !=0 then L9 else kC p),.int (eF p)]
theorem S.iH(p:aW)(hp:dI p):au Tryz.prog 41 [.dat (.eU p)] (Qk p):=by
 have g1:=hp.states; have g2:=hp.messages; have g3:=hp.values; have g4:=hp.eX; have g7:=hp.rules
 refine au.of Bd.iH (by simp) rfl rfl ?_
 conv=>whnf
 refine ah.pure (S.iG p hp) rfl ?_
 conv=>whnf
 refine⟨fun h1=>?_,fun h1=>?_⟩
 ·conv=>whnf
  refine aA.eqv ?_
  rw[Qk,h1]; rfl
 have h1':eF p=0:=FQ h1
 conv=>whnf
 refine aU.same [1,2,3,18,19] (fun i:Nat=>[(20,.int i),(5,.bool ((p.rules.take i).foldl acM true)),(6,.bool ((p.rules.take i).foldl acN false))]) (fun i=>i<=p.rules.length) (fun i=>p.rules.length-i) 0 rfl (by decide) rfl (fun _=>rfl) (Nat.zero_le _) ⟨⟨_,rfl,rfl⟩,⟨_,rfl,rfl⟩,⟨_,rfl,rfl⟩,trivial⟩ ?_
 conv=>whnf
 refine⟨rfl,?_⟩
 rintro i hi
 have g8:=hp.rule i
 have g9:=g8.ex; have g10:=g8.all
 conv=>whnf
 refine⟨fun h7=>?_,fun h7=>?_⟩
 ·have hi':i<p.rules.length:=by simpa using h7
  conv=>whnf
  repeat(refine VC.mk (by first|exact id|exact fun h=>⟨h,h⟩|(intro h; rw[h]; rfl)|(simp only[okI,Rw.rng] at *; omega)) ?_; conv=>whnf)
  refine⟨i+1,by omega,by omega,⟨⟨_,rfl,rfl⟩,⟨_,rfl,?_⟩,⟨_,rfl,?_⟩,trivial⟩,?_,rfl⟩
  ·rw[Ii (d:=default) hi']; rfl
  ·rw[Ii (d:=default) hi']; rfl
  ·repeat' (first|exact trivial|exact⟨_,rfl,rfl⟩|constructor)
 have hi':p.rules.length<=i:=by simpa using h7
 rw[List.take_of_length_le hi']
 conv=>whnf
 repeat(refine VC.mk (by first|exact id|(intro h; rw[h]; rfl)) ?_; conv=>whnf)
 refine aA.eqv ?_
 rw[Qk,h1']
 rfl
def y7(r:Rule)(t:Int):Bool :=
 bif !(r.kind==1)&&(decide ((r.guards.length:Int)>0)||decide ((r.ex.length:Int)>0)||decide ((r.all.length:Int)>0)||decide ((r.send.length:Int)>0)) then true else
 bif !(r.kind==1)&& !(r.kind==2)&& !(r.kind==3)&&(r.read != -1||r.write != -1) then true else
 bif !(r.kind==2)&& !(r.kind==5)&&(r.gU !=0||r.Bl !=0) then true else
 bif (!(r.kind==3)&&decide ((r.response.length:Int)>0))||(!(r.kind==5)&&r.direction !=0) then true else
 bif !(r.kind==4)&&(r.pos !=0||decide ((r.left.length:Int)>0)||decide ((r.right.length:Int)>0)) then true else
 decide ((r.parent.length:Int)>0)&& !((r.kind==4)&&(t==4))
theorem gt0{n:Nat}:decide ((n:Int)>0)= !(n==0):=by
 cases n with
 |zero=>rfl
 |succ n=>rw[decide_eq_true (by omega)]; rfl
theorem adE(a b c d e f g h:Nat):decide ((a:Int)+b+c+d+e+f+g+h>0)=(!(a==0)|| !(b==0)|| !(c==0)|| !(d==0)|| !(e==0)|| !(f==0)|| !(g==0)|| !(h==0)):=by
 rw[Bool.eq_iff_iff]
 simp only[decide_eq_true_eq,Bool.or_eq_true,Bool.not_eq_true',beq_eq_false_iff_ne,ne_eq]
 omega
theorem FX{r:Rule}{t:Int}(h:1<=r.kind/\r.kind<=5):y7 r t=lJ r t:=by
 have hk:r.kind=1\/r.kind=2\/r.kind=3\/r.kind=4\/r.kind=5:=by omega
 simp only[y7,lJ,AZ,gt0,adE,bne]
 generalize (r.guards.length==0)=g1
 generalize (r.ex.length==0)=g2
 generalize (r.all.length==0)=g3
 generalize (r.send.length==0)=g4
 generalize (r.response.length==0)=g5
 generalize (r.left.length==0)=g6
 generalize (r.right.length==0)=g7
 generalize (r.parent.length==0)=g8
 generalize (r.read== -1)=g9
 generalize (r.write== -1)=g10
 generalize (r.gU==0)=g11
 generalize (r.Bl==0)=g12
 generalize (r.direction==0)=g13
 generalize (r.pos==0)=g14
 rcases hk with hk|hk|hk|hk|hk<;>rw[hk] <;>
  (first
   |(simp; done)
   |(cases (t==4)<;>simp<;>grind)
   |(simp; grind))
end Go.Proofs.YtiakcepnlcpanaaGreatDoor
