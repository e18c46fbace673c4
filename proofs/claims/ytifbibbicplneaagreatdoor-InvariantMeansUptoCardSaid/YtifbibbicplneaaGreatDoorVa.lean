/-
 A part of the proof. No condition.
-/
import Derived.Test.YtifbibbicplneaaGreatDoorNb
import Derived.Test.YtifbibbicplneaaGreatDoorLf
namespace Go.Proofs.YtifbibbicplneaaGreatDoor
open Go.Ab Go.Proofs
set_option maxRecDepth 100000
def bZ(b:Bool)(e:Int):Int:=bif b then e else 0
theorem S.bT(b:Bool)(e:Int):aj Tryz.prog 130 [.bool b,.int e] (.int (bZ b e)):=by
 refine aj.of Bd.bT (by simp) rfl rfl ?_
 conv=>whnf
 refine⟨fun h=>?_,fun h=>?_⟩
 ·conv=>whnf
  exact ak.int (by rw[h]; rfl)
 ·conv=>whnf
  exact ak.int (by rw[h]; rfl)
def nJ(i n:Int):Bool:=decide (i<0)||decide (i>=n)
def cu(i n:Int):Int:=bZ (nJ i n) 5
theorem S.bV(i n:Int):aj Tryz.prog 158 [.int i,.int n] (.int (cu i n)):=by
 refine aj.of Bd.bV (by simp) rfl rfl ?_
 conv=>whnf
 repeat(refine VC.mk (by first|exact fun h=>⟨h,h⟩|(intro h; rw[h]; rfl)) ?_; conv=>whnf)
 refine ah.pure (S.bT (nJ i n) 5) rfl ?_
 conv=>whnf
 exact ak.int rfl
def aS:List Int->Int
 |[]=>0
 |e::r=>if e=0 then aS r else e
theorem S.bP(l:List Int)(f:Bool)(hl:l.length<2^40):aj Tryz.prog 129 [.row 0 f (.ints l)] (.int (aS l)):=by
 refine aj.of Bd.bP (by simp) rfl rfl ?_
 conv=>whnf
 refine aC.same [5,6] (fun i:Nat=>[(7,.int i)]) (fun i=>i<=l.length/\aS l=aS (l.drop i)) (fun i=>l.length-i) 0 rfl (by decide) rfl (fun _=>rfl) ⟨by omega,by simp⟩ ⟨⟨_,rfl,rfl⟩,trivial⟩ ?_
 conv=>whnf
 refine⟨rfl,?_⟩
 rintro i ⟨hi,hall⟩
 conv=>whnf
 refine⟨fun h3=>?_,fun h3=>?_⟩
 ·have hi':i<l.length:=by simpa using h3
  rw[bg 0 hi'] at hall
  simp only[aS] at hall
  conv=>whnf
  refine .mk (by simp only[Rw.rng] at *; omega) ?_
  conv=>whnf
  refine⟨fun h4=>?_,fun h4=>?_⟩
  ·conv=>whnf
   refine ak.int ?_
   have:l.getD i 0≠0:=by simpa using h4
   rw[hall,if_neg this]; rfl
  ·conv=>whnf
   refine .mk (by simp only[okI] at *; omega) ?_
   conv=>whnf
   have:l.getD i 0=0:=by simpa using h4
   rw[if_pos this] at hall
   refine⟨i+1,⟨by omega,hall⟩,by omega,⟨⟨_,rfl,rfl⟩,trivial⟩,?_,rfl⟩
   repeat' (first|exact trivial|exact⟨_,rfl,rfl⟩|constructor)
 ·conv=>whnf
  refine ak.int ?_
  have hi':l.length<=i:=by simpa using h3
  rw[hall,List.drop_eq_nil_of_le hi']; rfl
def xG:List Int->Bool
 |a::b::r=>decide (a<b)&&xG (b::r)
 |_=>true
def dO(l:List Int)(n:Int):Int:=bif l.any (fun i=>nJ i n) then 5 else bif xG l then 0 else 1
theorem S.dU(l:List Int)(n:Int)(f:Bool)(hl:l.length<2^40):aj Tryz.prog 128 [.row 0 f (.ints l),.int n] (.int (dO l n)):=by
 refine aj.of Bd.dU (by simp) rfl rfl ?_
 conv=>whnf
 refine aC.same [0,1,8,9] (fun i:Nat=>[(10,.int i)]) (fun i=>i<=l.length/\(l.take i).any (fun i=>nJ i n)=false) (fun i=>l.length-i) 0 rfl (by decide) rfl (fun _=>rfl) ⟨by omega,by simp⟩ ⟨⟨_,rfl,rfl⟩,trivial⟩ ?_
 conv=>whnf
 refine⟨rfl,?_⟩
 rintro i ⟨hi,hall⟩
 conv=>whnf
 refine⟨fun h3=>?_,fun h3=>?_⟩
 ·have hi':i<l.length:=by simpa using h3
  conv=>whnf
  repeat(refine VC.mk (by first|exact fun h=>⟨h,h⟩|(intro h; rw[h]; rfl)|(simp only[Rw.rng] at *; omega)) ?_; conv=>whnf)
  refine⟨fun h4=>?_,fun h4=>?_⟩
  ·conv=>whnf
   refine ak.int ?_
   rw[dO,dS (d:=0) hi' h4]; rfl
  ·conv=>whnf
   refine .mk (by simp only[okI] at *; omega) ?_
   conv=>whnf
   refine⟨i+1,⟨by omega,?_⟩,by omega,⟨⟨_,rfl,rfl⟩,trivial⟩,?_,rfl⟩
   ·rw[fU (d:=0) hi' hall]; exact h4
   ·repeat' (first|exact trivial|exact⟨_,rfl,rfl⟩|constructor)
 ·have hi':l.length<=i:=by simpa using h3
  rw[List.take_of_length_le hi'] at hall
  conv=>whnf
  refine aC.same [0] (fun i:Nat=>[(7,.int (i+1))]) (fun i=>(i<l.length\/i=0)/\xG l=xG (l.drop i)) (fun i=>l.length-i) 0 rfl (by decide) rfl (fun _=>rfl) ⟨by omega,by simp⟩ ⟨⟨_,rfl,rfl⟩,trivial⟩ ?_
  conv=>whnf
  refine⟨rfl,?_⟩
  rintro i ⟨hi,hinc⟩
  conv=>whnf
  refine⟨fun h5=>?_,fun h5=>?_⟩
  ·have hi1:i+1<l.length:=by have:=of_decide_eq_true h5; omega
   rw[bg 0 (show i<l.length by omega),bg 0 hi1] at hinc
   simp only[xG] at hinc
   rw[<- bg 0 hi1] at hinc
   conv=>whnf
   repeat(refine VC.mk (by simp only[okI,Rw.rng] at *; omega) ?_; conv=>whnf)
   refine⟨fun h6=>?_,fun h6=>?_⟩
   ·conv=>whnf
    refine ak.int ?_
    have e1:((i:Int)+1).toNat=i+1:=by omega
    have e2:((i:Int)+1-1).toNat=i:=by omega
    rw[e1,e2] at h6
    have h6':l.getD (i+1) 0<=l.getD i 0:=of_decide_eq_true h6
    rw[dO,hall,hinc,decide_eq_false (by omega)]; rfl
   ·conv=>whnf
    refine .mk (by simp only[okI] at *; omega) ?_
    conv=>whnf
    have e1:((i:Int)+1).toNat=i+1:=by omega
    have e2:((i:Int)+1-1).toNat=i:=by omega
    rw[e1,e2] at h6
    have h6': ¬ l.getD (i+1) 0<=l.getD i 0:=of_decide_eq_false h6
    rw[decide_eq_true (by omega),Bool.true_and] at hinc
    refine⟨i+1,⟨by omega,hinc⟩,by omega,⟨⟨_,rfl,rfl⟩,trivial⟩,?_,rfl⟩
    repeat' (first|exact trivial|exact⟨_,rfl,rfl⟩|constructor)
  ·conv=>whnf
   refine ak.int ?_
   have h5': ¬ ((i:Int)+1<l.length):=of_decide_eq_false h5
   have:xG l=true:=by
    rw[hinc]
    rcases hd:l.drop i with _|⟨a,_|⟨b,r⟩⟩
    ·rfl
    ·rfl
    ·have:=congrArg List.length hd
     simp only[List.length_drop,List.length_cons] at this
     omega
   rw[dO,hall,this]; rfl
def Zm(n:Int):Bool:=decide (n>= -100)&&decide (n<=100)
theorem S.gV(n:Int):aj Tryz.prog 173 [.int n] (.bool (Zm n)):=by
 refine aj.of Bd.gV (by simp) rfl rfl ?_
 conv=>whnf
 repeat(refine VC.mk id ?_; conv=>whnf)
 exact ak.bool rfl
def Qo(l:Lin):Bool:=Zm l.c&&Zm l.n&&Zm l.t&&Zm l.f
theorem S.jD(l:Lin):aj Tryz.prog 154 [.dat (.lin l)] (.bool (Qo l)):=by
 refine aj.of Bd.jD (by simp) rfl rfl ?_
 conv=>whnf
 refine ah.pure (S.gV l.c) rfl ?_
 conv=>whnf
 repeat(refine VC.mk id ?_; conv=>whnf)
 refine ah.cO (fun _=>S.gV l.n) rfl ?_
 conv=>whnf
 repeat(refine VC.mk id ?_; conv=>whnf)
 refine ah.cO (fun _=>S.gV l.t) rfl ?_
 conv=>whnf
 repeat(refine VC.mk id ?_; conv=>whnf)
 refine ah.cO (fun _=>S.gV l.f) rfl ?_
 conv=>whnf
 refine VC.mk id ?_
 conv=>whnf
 exact ak.bool rfl
def jI(p:aP)(v:Int):Int:=bZ (decide (v< -1)||decide (v>=p.values.length)) 5
theorem S.fJ(p:aP)(v:Int):aj Tryz.prog 179 [.dat (.bW p),.int v] (.int (jI p v)):=by
 refine aj.of Bd.fJ (by simp) rfl rfl ?_
 conv=>whnf
 repeat(refine VC.mk (by first|exact id|exact fun h=>⟨h,h⟩|(intro h; rw[h]; rfl)) ?_; conv=>whnf)
 refine ah.pure (S.bT _ 5) rfl ?_
 conv=>whnf
 exact ak.int rfl
theorem Gt{a:Int}(h:(a !=0)=true):a≠0:=by simpa using h
theorem uQ{a:Int}(h:(a !=0)=false):a=0:=by simpa using h
def uz(k t:Int):Bool:=bif k==1||k==2||k==3 then t==1 else bif k==4||k==5 then !(t==1) else false
theorem S.o7(k t:Int):aj Tryz.prog 176 [.int k,.int t] (.bool (uz k t)):=by
 refine aj.of Bd.o7 (by simp) rfl rfl ?_
 conv=>whnf
 refine⟨fun h1=>?_,fun h1=>?_⟩
 ·conv=>whnf
  refine Fork.mk (fun _=>?_) (fun q=>absurd (q.symm.trans (h1)) Bool.false_ne_true)
  conv=>whnf
  exact ak.bool (by simp[uz,h1])
 ·conv=>whnf
  refine⟨fun h2=>?_,fun h2=>?_⟩
  ·conv=>whnf
   refine Fork.mk (fun _=>?_) (fun q=>absurd (q.symm.trans (h2)) Bool.false_ne_true)
   conv=>whnf
   exact ak.bool (by simp[uz,h1,h2])
  ·conv=>whnf
   refine⟨fun h3=>?_,fun h3=>?_⟩
   ·conv=>whnf
    exact ak.bool (by simp[uz,h1,h2,h3])
   ·conv=>whnf
    refine⟨fun h4=>?_,fun h4=>?_⟩
    ·conv=>whnf
     refine Fork.mk (fun _=>?_) (fun q=>absurd (q.symm.trans (h4)) Bool.false_ne_true)
     conv=>whnf
     exact ak.bool (by simp[uz,h1,h2,h3,h4,bne])
    ·conv=>whnf
     refine⟨fun h5=>?_,fun h5=>?_⟩
     ·conv=>whnf
      exact ak.bool (by simp[uz,h1,h2,h3,h4,h5,bne])
     ·conv=>whnf
      exact ak.bool (by simp[uz,h1,h2,h3,h4,h5])
def pF:List Int->Int->Int
 |[],_=>0
 |x::r,n=>if cu x n=0 then pF r n else cu x n
def DZ(l:List Int)(n:Int):Int:=bif (l.length:Int) !=n then 1 else pF l n
theorem S.jW(l:List Int)(n:Int)(f:Bool)(hl:l.length<2^40):aj Tryz.prog 180 [.row 0 f (.ints l),.int n] (.int (DZ l n)):=by
 refine aj.of Bd.jW (by simp) rfl rfl ?_
 conv=>whnf
 refine⟨fun h=>?_,fun h=>?_⟩
 ·conv=>whnf
  exact ak.int (by rw[DZ,h]; rfl)
 ·conv=>whnf
  refine aC.same [0,1,12,13] (fun i:Nat=>[(14,.int i)]) (fun i=>i<=l.length/\pF l n=pF (l.drop i) n) (fun i=>l.length-i) 0 rfl (by decide) rfl (fun _=>rfl) ⟨by omega,by simp⟩ ⟨⟨_,rfl,rfl⟩,trivial⟩ ?_
  conv=>whnf
  refine⟨rfl,?_⟩
  rintro i ⟨hi,hall⟩
  conv=>whnf
  refine⟨fun h3=>?_,fun h3=>?_⟩
  ·have hi':i<l.length:=by simpa using h3
   rw[bg 0 hi'] at hall
   simp only[pF] at hall
   conv=>whnf
   refine .mk (by simp only[Rw.rng] at *; omega) ?_
   conv=>whnf
   refine ah.pure (S.bV (l.getD i 0) n) rfl ?_
   conv=>whnf
   refine⟨fun h4=>?_,fun h4=>?_⟩
   ·conv=>whnf
    refine ak.int ?_
    have:cu (l.getD i 0) n≠0:=by simpa using h4
    rw[DZ,h,cond_false,hall,if_neg this]
   ·conv=>whnf
    refine .mk (by simp only[okI] at *; omega) ?_
    conv=>whnf
    have:cu (l.getD i 0) n=0:=by simpa using h4
    rw[if_pos this] at hall
    refine⟨i+1,⟨by omega,hall⟩,by omega,⟨⟨_,rfl,rfl⟩,trivial⟩,?_,rfl⟩
    repeat' (first|exact trivial|exact⟨_,rfl,rfl⟩|constructor)
  ·conv=>whnf
   refine ak.int ?_
   have hi':l.length<=i:=by simpa using h3
   rw[DZ,h,cond_false,hall,List.drop_eq_nil_of_le hi']; rfl
def guardE(p:aP)(g:zJ):Int:=aS [cu g.message p.messages.length,bZ (decide (g.EG<1)||decide (g.EG>100)) 1,bZ (!(Qo g.bound)) 4]
def jZ(p:aP):List zJ->Int
 |[]=>0
 |g::r=>if guardE p g=0 then jZ p r else guardE p g
def xu(p:aP)(l:List zJ):Int:=if jZ p l=0 then bZ (decide ((l.length:Int)>2)) 4 else jZ p l
theorem S.mQ(p:aP)(l:List zJ)(f:Bool)(hl:l.length<2^40):aj Tryz.prog 178 [.dat (.bW p),.row 7 f (.qY l)] (.int (xu p l)):=by
 refine aj.of Bd.mQ (by simp) rfl rfl ?_
 conv=>whnf
 refine aC.same [1,2,8,9] (fun i:Nat=>[(10,.int i)]) (fun i=>i<=l.length/\jZ p l=jZ p (l.drop i)) (fun i=>l.length-i) 0 rfl (by decide) rfl (fun _=>rfl) ⟨by omega,by simp⟩ ⟨⟨_,rfl,rfl⟩,trivial⟩ ?_
 conv=>whnf
 refine⟨rfl,?_⟩
 rintro i ⟨hi,hall⟩
 conv=>whnf
 refine⟨fun h3=>?_,fun h3=>?_⟩
 ·have hi':i<l.length:=by simpa using h3
  rw[bg default hi'] at hall
  simp only[jZ] at hall
  conv=>whnf
  refine .mk (by simp only[Rw.rng] at *; omega) ?_
  conv=>whnf
  refine ah.pure (S.bV (l.getD i default).message p.messages.length) rfl ?_
  conv=>whnf
  repeat(refine VC.mk (by first|exact id|(intro h; rw[h]; rfl)) ?_; conv=>whnf)
  refine ah.pure (S.bT (decide ((l.getD i default).EG<1)||decide ((l.getD i default).EG>100)) 1) rfl ?_
  conv=>whnf
  refine ah.pure (S.jD (l.getD i default).bound) rfl ?_
  conv=>whnf
  refine ah.pure (S.bT (!(Qo (l.getD i default).bound)) 4) rfl ?_
  conv=>whnf
  refine ah.pure (S.bP [cu (l.getD i default).message p.messages.length,bZ (decide ((l.getD i default).EG<1)||decide ((l.getD i default).EG>100)) 1,bZ (!(Qo (l.getD i default).bound)) 4] true (show 3<2^40 by decide)) rfl ?_
  conv=>whnf
  refine⟨fun h4=>?_,fun h4=>?_⟩
  ·conv=>whnf
   refine ak.int ?_
   have h4':guardE p (l.getD i default)≠0:=Gt h4
   rw[if_neg h4'] at hall
   rw[xu,hall,if_neg h4']; rfl
  ·conv=>whnf
   refine .mk (by simp only[okI] at *; omega) ?_
   conv=>whnf
   have h4':guardE p (l.getD i default)=0:=uQ h4
   rw[if_pos h4'] at hall
   refine⟨i+1,⟨by omega,hall⟩,by omega,⟨⟨_,rfl,rfl⟩,trivial⟩,?_,rfl⟩
   repeat' (first|exact trivial|exact⟨_,rfl,rfl⟩|constructor)
 ·have hi':l.length<=i:=by simpa using h3
  rw[List.drop_eq_nil_of_le hi'] at hall
  conv=>whnf
  refine ah.pure (S.bT (decide ((l.length:Int)>2)) 4) rfl ?_
  conv=>whnf
  exact ak.int (by rw[xu,hall]; rfl)
structure vF(r:Rule):Prop where
 response:r.response.length<2^30
 guards:r.guards.length<2^30
 ex:r.ex.length<2^30
 all:r.all.length<2^30
 send:r.send.length<2^30
 left:r.left.length<2^30
 right:r.right.length<2^30
 parent:r.parent.length<2^30
def DJ(r:Rule):Bool :=
 decide ((r.response.length:Int)+r.guards.length+r.ex.length+r.all.length+r.send.length+r.left.length+r.right.length+r.parent.length>0)||r.gQ !=0||r.BL !=0||r.pos !=0||r.direction !=0||r.read != -1||r.write != -1
def kS(r:Rule)(t:Int):Bool :=
 bif r.kind==1 then DJ {r with guards:=[],ex:=[],all:=[],send:=[],read:= -1,write:= -1} else
 bif r.kind==2 then(bif decide ((r.response.length:Int)>0) then true else DJ {r with gQ:=0,BL:=0,response:=[],read:= -1,write:= -1}) else
 bif r.kind==3 then DJ {r with response:=[],read:= -1,write:= -1} else
 bif r.kind==4 then(bif t==4 then DJ {r with pos:=0,left:=[],right:=[],parent:=[]} else DJ {r with pos:=0,left:=[],right:=[]}) else
 bif r.kind==5 then DJ {r with gQ:=0,BL:=0,direction:=0} else DJ r
theorem S.lT(r:Rule)(t:Int)(hs:vF r):aj Tryz.prog 177 [.dat (.rule r),.int t] (.bool (kS r t)):=by
 obtain⟨g1,g2,g3,g4,g5,g6,g7,g8⟩:=hs
 refine aj.of Bd.lT (by simp) rfl rfl ?_
 conv=>whnf
 refine⟨fun h1=>?_,fun h1=>?_⟩
 ·conv=>whnf
  repeat(refine VC.mk (by first|exact id|(intro h; rw[h]; rfl)|(simp only[okI] at *; omega)) ?_; conv=>whnf)
  exact ak.bool (by simp[kS,DJ,h1])
 ·conv=>whnf
  refine⟨fun h2=>?_,fun h2=>?_⟩
  ·conv=>whnf
   refine⟨fun h6=>?_,fun h6=>?_⟩
   ·conv=>whnf
    exact ak.bool (by rw[kS,h1,h2,show decide ((r.response.length:Int)>0)=true from h6]; rfl)
   ·conv=>whnf
    repeat(refine VC.mk (by first|exact id|(intro h; rw[h]; rfl)|(simp only[okI] at *; omega)) ?_; conv=>whnf)
    exact ak.bool (by rw[kS,h1,h2,show decide ((r.response.length:Int)>0)=false from h6]; simp[DJ])
  ·conv=>whnf
   refine⟨fun h3=>?_,fun h3=>?_⟩
   ·conv=>whnf
    repeat(refine VC.mk (by first|exact id|(intro h; rw[h]; rfl)|(simp only[okI] at *; omega)) ?_; conv=>whnf)
    exact ak.bool (by simp[kS,DJ,h1,h2,h3])
   ·conv=>whnf
    refine⟨fun h4=>?_,fun h4=>?_⟩
    ·conv=>whnf
     refine⟨fun h7=>?_,fun h7=>?_⟩
     ·conv=>whnf
      repeat(refine VC.mk (by first|exact id|(intro h; rw[h]; rfl)|(simp only[okI] at *; omega)) ?_; conv=>whnf)
      exact ak.bool (by simp[kS,DJ,h1,h2,h3,h4,h7])
     ·conv=>whnf
      repeat(refine VC.mk (by first|exact id|(intro h; rw[h]; rfl)|(simp only[okI] at *; omega)) ?_; conv=>whnf)
      exact ak.bool (by simp[kS,DJ,h1,h2,h3,h4,h7])
    ·conv=>whnf
     refine⟨fun h5=>?_,fun h5=>?_⟩
     ·conv=>whnf
      repeat(refine VC.mk (by first|exact id|(intro h; rw[h]; rfl)|(simp only[okI] at *; omega)) ?_; conv=>whnf)
      exact ak.bool (by simp[kS,DJ,h1,h2,h3,h4,h5])
     ·conv=>whnf
      repeat(refine VC.mk (by first|exact id|(intro h; rw[h]; rfl)|(simp only[okI] at *; omega)) ?_; conv=>whnf)
      exact ak.bool (by simp[kS,DJ,h1,h2,h3,h4,h5])
def Zn(h:Hz):Hz->Prop
 |[]=>True
 |(i,o)::r=>h.get i=o/\Zn h r
theorem WY{h:Hz}: ∀ {h0:Hz},Zn h h0-> ∀ {i:Nat} {o:OV},h0.get i=some o->h.get i=some o:=by
 intro h0
 induction h0 with
 |nil=>intro _ i o e; cases e
 |cons p r ih =>
  obtain⟨j,u⟩:=p
  intro hs i o e
  simp only[Hz.get] at e
  cases hb:Nat.beq j i with
  |true=>rw[hb] at e; simp only[cond_true] at e; rw[<- Nat.eq_of_beq_eq_true hb,hs.1,e]
  |false=>rw[hb] at e; exact ih hs.2 e
def WZ:Hz->Bool
 |[]=>true
 |(_,some o)::r=>o.MF&&WZ r
 |(_,none)::r=>WZ r
theorem QB: ∀ {h0:Hz},WZ h0=true-> ∀ {i:Nat} {o:OV},h0.get i=some o->o.MF=true:=by
 intro h0
 induction h0 with
 |nil=>intro _ i o e; cases e
 |cons p r ih =>
  obtain⟨j,u⟩:=p
  intro hs i o e
  simp only[Hz.get] at e
  cases hb:Nat.beq j i with
  |true =>
   rw[hb] at e; simp only[cond_true] at e; subst e
   simp only[WZ,Bool.and_eq_true] at hs; exact hs.1
  |false =>
   rw[hb] at e
   refine ih ?_ e
   cases u with
   |none=>exact hs
   |some o=>simp only[WZ,Bool.and_eq_true] at hs; exact hs.2
theorem OV.QC{o:OV}(h:o.MF=true):T.aO (fun _=>False) o.aG.l:=OV.H8 h
theorem kW.same{nx:Nat}{h0 h:Hz}{n:Nat}{post:T->Hp->Prop}{v:V}(hf:v.free=true)(hs:Zn h h0)(hg:xZ nx h0=true)(hfr:WZ h0=true)(hp:post v.aH h0.au):kW h0 n post v h:=by
 have hG:=qM hg
 have get: ∀ i ob,h0.au i=some ob-> ∃ o,h0.get i=some o/\ob=o.aG:=fun i ob e=>by
  simp only[Hz.au,Option.map_eq_some_iff] at e
  obtain⟨o,e1,e2⟩:=e
  exact⟨o,e1,e2.symm⟩
 have hfree:=V.kG v hf
 refine⟨fun _=>False,id,v.aH,h0.au,hp,?_,fun i ob hi=>?_,fun i j _ _ e=>e,T.bU (fun _ h=>h.elim) _ (iF hfree),fun i ob hi=>?_,fun i _ _=>rfl⟩
 ·rw[JF]; exact aB _
 ·obtain⟨o,e1,rfl⟩:=get i ob hi
  refine⟨o.aG,aK (WY hs e1),fun h=>h,rfl,rfl,?_,Ar (hG i _ hi).2.2⟩
  rw[uP _ (OV.QC (QB hfr e1))]; exact dn _
 ·obtain⟨o,e1,rfl⟩:=get i ob hi
  exact⟨.inl (by rw[hi]; rfl),T.ay (fun _ h=>h.elim) _ (OV.QC (QB hfr e1))⟩
abbrev hRP(p:aP)(r:Rule):Hz:=[(7,some (.box 107 19 (.dat (.rule r)))),(0,some (.box 27 11 (.dat (.bW p))))]
theorem S.NW(p:aP)(r x:Rule)(n:Nat):aU Tryz.prog 175 (V.aX [.dat (.rule x),.ptr 7 0 0]) (hRP p r).au n (fun t hp=>t= .bool (x.name==r.name)/\hp=(hRP p r).au):=by
 refine rH.of (nx:=8) Bd.nD (by simp) ⟨_,_,rfl,rfl⟩ rfl rfl ?_
 conv=>whnf
 exact kW.same (nx:=8) rfl ⟨rfl,rfl,trivial⟩ rfl rfl ⟨rfl,rfl⟩
def Fa(s:Str):List Rule->Nat->Int
 |[],_=> -1
 |x::r,i=>bif x.name==s then(i:Int) else Fa s r (i+1)
theorem S.W9(p:aP)(r:Rule)(l:List Rule)(f:Bool)(hl:l.length<2^30)(n:Nat):aU Tryz.prog 188 (V.aX [.row 19 f (.rules l),.fn 175 [.ptr 7 0 0]]) (hRP p r).au n (fun t hp=>t= .int (Fa r.name l 0)/\hp=(hRP p r).au):=by
 refine rH.of (nx:=8) Bd.fK (by simp) ⟨_,_,rfl,rfl⟩ rfl rfl ?_
 conv=>whnf
 refine aC.same [0,1,6,7] (fun i:Nat=>[(8,.int i)]) (fun i=>i<=l.length/\Fa r.name l 0=Fa r.name (l.drop i) i) (fun i=>l.length-i) 0 rfl (by decide) rfl (fun _=>rfl) ⟨by omega,by simp⟩ ⟨⟨_,rfl,rfl⟩,trivial⟩ ?_
 conv=>whnf
 refine⟨rfl,?_⟩
 rintro i ⟨hi,hall⟩
 conv=>whnf
 refine⟨fun h3=>?_,fun h3=>?_⟩
 ·have hi':i<l.length:=by simpa using h3
  rw[bg default hi'] at hall
  simp only[Fa] at hall
  conv=>whnf
  refine .mk (by simp only[Rw.rng] at *; omega) ?_
  conv=>whnf
  refine ah.heap (S.NW p r (l.getD i default) _) ?_
  rintro t hp ⟨rfl,rfl⟩
  refine⟨.bool _,hRP p r,rfl,rfl,?_⟩
  conv=>whnf
  refine⟨fun h4=>?_,fun h4=>?_⟩
  ·conv=>whnf
   rw[h4] at hall
   exact kW.same (nx:=8) rfl ⟨rfl,rfl,trivial⟩ rfl rfl ⟨by rw[hall]; rfl,rfl⟩
  ·conv=>whnf
   refine .mk (by simp only[okI] at *; omega) ?_
   conv=>whnf
   rw[h4] at hall
   refine⟨i+1,⟨by omega,hall⟩,by omega,⟨⟨_,rfl,rfl⟩,trivial⟩,?_,rfl⟩
   repeat' (first|exact trivial|exact⟨_,rfl,rfl⟩|constructor)
 ·conv=>whnf
  have hi':l.length<=i:=by simpa using h3
  rw[List.drop_eq_nil_of_le hi'] at hall
  exact kW.same (nx:=8) rfl ⟨rfl,rfl,trivial⟩ rfl rfl ⟨by rw[hall]; rfl,rfl⟩
theorem Zo{s:Str}{l:List Rule}{i:Nat}:decide (0<=Fa s l i)=l.any fun x=>x.name==s:=by
 have: ∀ {l:List Rule} {i:Nat},0<=Fa s l i↔(l.any fun x=>x.name==s)=true:=by
  intro l
  induction l with
  |nil=>intro i; simp[Fa]
  |cons x r ih =>
   intro i
   rw[List.any_cons,Bool.or_eq_true,<- ih (i:=i+1)]
   show(0:Int)<=(bif x.name==s then(i:Int) else Fa s r (i+1))↔_
   generalize (x.name==s)=b
   cases b<;>simp
 rw[Bool.eq_iff_iff,decide_eq_true_eq]; exact this
theorem S.NY(p:aP)(r:Rule)(l:List Rule)(f:Bool)(hl:l.length<2^30)(n:Nat):aU Tryz.prog 174 (V.aX [.row 19 f (.rules l),.fn 175 [.ptr 7 0 0]]) (hRP p r).au n (fun t hp=>t= .bool (l.any fun x=>x.name==r.name)/\hp=(hRP p r).au):=by
 refine rH.of (nx:=8) Bd.eY (by simp) ⟨_,_,rfl,rfl⟩ rfl rfl ?_
 conv=>whnf
 refine ah.heap (S.W9 p r l f hl _) ?_
 rintro t hp ⟨rfl,rfl⟩
 refine⟨.int _,hRP p r,rfl,rfl,?_⟩
 conv=>whnf
 exact kW.same (nx:=8) rfl ⟨rfl,rfl,trivial⟩ rfl rfl ⟨by rw[<- Zo (i:=0)]; rfl,rfl⟩
theorem ah.mkRow{P:Program}{f:FuncId}{args:List V}{h:Hz}{n ty k:Nat}{r:Rw}{K:V->Hz->Prop}{KW:Nat->V->Hz->Prop}(H:wI P f (V.aX args) (fun n=>.own n) (some ⟨ty,k,r.aX⟩))(hK:K (.own n) ((n,some (.row ty k r []))::h)):ah P false none f args h n K KW :=
 ah.heap (wI.frame H _ _) (by rintro t hp ⟨rfl,rfl⟩; exact⟨.own n,_,rfl,by rw[bD]; simp[ng,OV.aG,V.aX],hK⟩)
theorem S.Concat(a b c:List Str)(n:Nat)(h0:0<a.length)(ha:a.length<2^20)(hb:b.length<2^20)(hc:c.length<2^20) :
  aU Tryz.prog 171 (V.aX [.yQ 0 false [.row 0 false (.strs a),.row 0 false (.strs b),.row 0 false (.strs c)]]) no n (fun t hp=>t= .own n/\hp=Hz.au [(n,some (.row 9 0 (.strs (a++b++c)) []))]):=by
 refine rH.of (nx:=0) (h0:=[]) Bd.je (by simp) ⟨_,_,rfl,rfl⟩ rfl rfl ?_
 conv=>whnf
 refine aC.times 4 rfl ?_
 conv=>whnf
 refine Fork.mk (fun _=>?_) (fun q=>absurd (q.symm.trans (rfl)) Bool.false_ne_true)
 conv=>whnf
 repeat(refine VC.mk (by first|(omega)|(simp only[okI] at *; omega)) ?_; conv=>whnf)
 refine Fork.mk (fun q=>absurd (q.symm.trans (decide_eq_false (by omega))).symm Bool.false_ne_true) (fun _=>?_)
 conv=>whnf
 refine .mk (by simp only[okI] at *; omega) ?_
 conv=>whnf
 refine Fork.mk (fun _=>?_) (fun q=>absurd (q.symm.trans (rfl)) Bool.false_ne_true)
 conv=>whnf
 repeat(refine VC.mk (by first|(omega)|(simp only[okI] at *; omega)) ?_; conv=>whnf)
 refine Fork.mk (fun q=>absurd (q.symm.trans (decide_eq_false (by omega))).symm Bool.false_ne_true) (fun _=>?_)
 conv=>whnf
 refine .mk (by simp only[okI] at *; omega) ?_
 conv=>whnf
 refine Fork.mk (fun _=>?_) (fun q=>absurd (q.symm.trans (rfl)) Bool.false_ne_true)
 conv=>whnf
 repeat(refine VC.mk (by first|(omega)|(simp only[okI] at *; omega)) ?_; conv=>whnf)
 refine Fork.mk (fun q=>absurd (q.symm.trans (decide_eq_false (by omega))).symm Bool.false_ne_true) (fun _=>?_)
 conv=>whnf
 refine .mk (by simp only[okI] at *; omega) ?_
 conv=>whnf
 refine Fork.mk (fun q=>absurd (q.symm.trans (rfl)).symm Bool.false_ne_true) (fun _=>?_)
 conv=>whnf
 have e:(0+(a.length:Int)+b.length+c.length)=((a.length+b.length+c.length:Nat):Int):=by omega
 rw[e]
 refine ah.mkRow (r:=.strs []) (S.Grow (a.length+b.length+c.length) (by omega) (by omega)) ?_
 conv=>whnf
 refine aC.times 4 rfl ?_
 conv=>whnf
 refine Fork.mk (fun _=>?_) (fun q=>absurd (q.symm.trans (rfl)) Bool.false_ne_true)
 conv=>whnf
 repeat(refine VC.mk (by first|(omega)|(simp only[kJ,jG,Rw.len,List.length_nil]; omega)|(simp only[okI] at *; omega)) ?_; conv=>whnf)
 refine Fork.mk (fun _=>?_) (fun q=>absurd (q.symm.trans (rfl)) Bool.false_ne_true)
 conv=>whnf
 repeat(refine VC.mk (by first|(omega)|(simp only[kJ,jG,Rw.len,List.length_append,List.length_nil]; omega)|(simp only[okI] at *; omega)) ?_; conv=>whnf)
 refine Fork.mk (fun _=>?_) (fun q=>absurd (q.symm.trans (rfl)) Bool.false_ne_true)
 conv=>whnf
 repeat(refine VC.mk (by first|(omega)|(simp only[kJ,jG,Rw.len,List.length_append,List.length_nil]; omega)|(simp only[okI] at *; omega)) ?_; conv=>whnf)
 refine Fork.mk (fun q=>absurd (q.symm.trans (rfl)).symm Bool.false_ne_true) (fun _=>?_)
 conv=>whnf
 refine kW.one (c:=n) (o:=.row 9 0 (.strs (a++b++c)) []) (t:=.own n) rfl rfl rfl nofun (.inr rfl) rfl (.eq rfl) ⟨rfl,rfl⟩
theorem S.aa3(a b c:List Str)(h0:0<a.length)(ha:a.length<2^20)(hb:b.length<2^20)(hc:c.length<2^20) :
  wI Tryz.prog 171 (V.aX [.yQ 0 false [.row 0 false (.strs a),.row 0 false (.strs b),.row 0 false (.strs c)]]) (fun n=>.own n) (some ⟨9,0,(Rw.strs (a++b++c)).aX⟩):=by
 refine⟨rfl,fun _=>rfl,(fun ob h=>by cases h; rw[gJ]; intro t ht; obtain⟨x,_,rfl⟩:=List.mem_map.1 ht; rfl),(fun ob h=>by cases h; exact fun e=>absurd e (by decide:(0:Nat)≠fM)),fun n=>(S.Concat a b c n h0 ha hb hc).mono ?_⟩
 rintro t hp ⟨rfl,rfl⟩
 refine⟨rfl,?_⟩
 rw[bD]; simp[ng,OV.aG,V.aX]; rfl
theorem ah.ML{P:Program}{f:FuncId}{args:List V}{ts:List T}{h:Hz}{n ty k:Nat}{r:Rw}{K:V->Hz->Prop}{KW:Nat->V->Hz->Prop}(H:wI P f ts (fun n=>.own n) (some ⟨ty,k,r.aX⟩))(hs:T.dH (fun _=>True) h.au ts (V.aX args))(hh:T.rM r.aX=true)(hK:K (.own n) ((n,some (.row ty k r []))::h)):ah P false none f args h n K KW :=
 ⟨.inl (wI.lend H hs rfl (fun _ e=>by cases e; exact hh) ⟨.own n,_,rfl,by rw[bD]; simp[ng,OV.aG,V.aX],(fun e=>by cases e),hK⟩)⟩
theorem OW{h:Hz}{j ty:Nat}{Z:Nat->Prop}{l:List V}(hz:Z j)(q:h.get j=some (.row ty 0 .nil l))(hf:V.dw l=true):T.sub Z h.au (V.yQ 0 false l).aH (V.own j).aH:=by
 show T.sub Z h.au (.sl 0 false (V.aX l)) (.own j)
 simp only[T.sub]
 exact⟨trivial,hz,V.gK l hf,by decide,ty,by rw[aK q]; rfl⟩
theorem Xa{l:List Str}:T.rM (Rw.strs l).aX=true:=by
 show T.rM (l.map eS)=true
 induction l with
 |nil=>rfl
 |cons s r ih=>simp only[List.map_cons,T.rM,ih]; rfl
theorem ad5{h:Hz}{j i ty:Nat}{Z:Nat->Prop}{l:List Str}(hz:Z j)(q:h.get j=some (.row ty 0 (.strs l) []))(hi:i<=l.length):T.sub Z h.au (V.row 0 false (.strs (l.take i))).aH (V.rY j 0 i).aH:=by
 show T.sub Z h.au (.sl 0 false ((l.take i).map eS)) (.rY j 0 i)
 simp only[T.sub]
 refine⟨trivial,hz,?_,by decide,ty,l.map eS,?_,by simpa using hi,by simp[List.map_take]⟩
 ·rw[gJ]; intro t ht; obtain⟨x,_,rfl⟩:=List.mem_map.1 ht; rfl
 ·rw[aK q]; simp[OV.aG,Rw.aX,V.aX]
def allNames(p:aP):List Str:=p.states++p.messages++p.values
def NR(l:List Str)(i:Nat):Bool:= !(validName (l.getD i []))||(l.take i).any fun x=>l.getD i []==x
def zy(p:aP):Int:=bif (List.range (allNames p).length).any (NR (allNames p)) then 2 else 0
theorem xP{n:Nat}{f:Nat->Bool}:(List.range n).any f=true↔ ∃ i,i<n/\f i=true:=by
 simp[List.any_eq_true]
theorem S.nX(p:aP)(h0:0<p.states.length)(h1:p.states.length<2^20)(h2:p.messages.length<2^20)(h3:p.values.length<2^20):aj Tryz.prog 153 [.dat (.bW p)] (.int (zy p)):=by
 have hlen:(allNames p).length<2^30:=by simp only[allNames,List.length_append]; omega
 refine aj.of Bd.nX (by simp) rfl rfl ?_
 conv=>whnf
 refine ah.ML (r:=.strs (allNames p)) (S.aa3 p.states p.messages p.values h0 h1 h2 h3) (And.intro (OW (ty:=22) trivial rfl rfl) trivial) Xa ?_
 conv=>whnf
 refine aC.same [3,14,15] (fun i:Nat=>[(16,.int i)]) (fun i=>i<=(allNames p).length/\(List.range i).any (NR (allNames p))=false) (fun i=>(allNames p).length-i) 0 rfl (by decide) rfl (fun _=>rfl) ⟨Nat.zero_le _,rfl⟩ ⟨⟨_,rfl,rfl⟩,trivial⟩ ?_
 conv=>whnf
 refine⟨rfl,?_⟩
 rintro i ⟨hi,hall⟩
 conv=>whnf
 refine⟨fun h4=>?_,fun h4=>?_⟩
 ·have hi':i<(allNames p).length:=by simpa using h4
  conv=>whnf
  repeat(refine VC.mk (by simp only[Rw.rng] at *; omega) ?_; conv=>whnf)
  refine ah.pure (S.fO ((allNames p).getD i [])) rfl ?_
  conv=>whnf
  repeat(refine VC.mk (by first|exact fun h=>⟨h,h⟩|(intro h; (repeat' apply And.intro)<;>first|exact h|omega|(simp only[Rw.kK]; omega)|(simp only[Rw.rng]; omega))) ?_; conv=>whnf)
  refine ah.KF (fun _=>S.slices_Contains_string ((allNames p).take i) ((allNames p).getD i []) false (by rw[List.length_take]; omega)) (fun _=>And.intro (ad5 (ty:=9) trivial rfl (by omega)) (And.intro (aB _) trivial)) rfl rfl ?_
  conv=>whnf
  refine .mk (by intro h; rw[h]; rfl) ?_
  conv=>whnf
  refine⟨fun h5=>?_,fun h5=>?_⟩
  ·conv=>whnf
   refine ak.int ?_
   rw[zy,xP.2 ⟨i,hi',h5⟩]; rfl
  ·conv=>whnf
   refine .mk (by simp only[okI] at *; omega) ?_
   conv=>whnf
   refine⟨i+1,⟨by omega,?_⟩,by omega,⟨⟨_,rfl,rfl⟩,trivial⟩,?_,rfl⟩
   ·rw[List.range_succ,List.any_append,hall]
    simp only[List.any_cons,List.any_nil,Bool.or_false,Bool.false_or]; exact h5
   ·repeat' (first|exact trivial|exact⟨_,rfl,rfl⟩|constructor)
 ·have hi':(allNames p).length<=i:=by simpa using h4
  have e:i=(allNames p).length:=Nat.le_antisymm hi hi'
  subst e
  conv=>whnf
  exact ak.int (by rw[zy,hall]; rfl)
theorem ah.ad6{P:Program}{f:FuncId}{args:List V}{h:Hz}{hp0:Hp}{n:Nat}{K:V->Hz->Prop}{KW:Nat->V->Hz->Prop}{post:T->Hp->Prop}(S:aU P f (V.aX args) hp0 n post)(e:h.au=hp0)(hK: ∀ t hp,post t hp-> ∃ v h',t=v.aH/\hp=Hz.au h'/\K v h'):ah P false none f args h n K KW:=by
 subst e; exact ah.heap S hK
theorem QD{i:Nat}{a b:Option OV}{r:Hz}:Hz.au ((i,a)::(i,b)::r)=Hz.au ((i,a)::r):=funext fun j=>by
 simp only[Hz.au,Hz.get]; cases Nat.beq i j<;>rfl
structure bH(p:aP):Prop where
 states:p.states.length<2^20
 messages:p.messages.length<2^20
 values:p.values.length<2^20
 bY:p.bY.length<2^30
 initial:p.initial.length<2^30
 leader:p.leader.length<2^30
 rules:p.rules.length<2^30
 rule: ∀ i,vF (p.rules.getD i default)
 qY:(p.rules.flatMap Rule.guards).length<2^30
def rE(p:aP)(i:Nat):Bool:= !(validName (p.rules.getD i default).name)||(p.rules.take i).any fun x=>x.name==(p.rules.getD i default).name
def qK(p:aP)(i:Nat):Bool:= !(uz (p.rules.getD i default).kind p.topology)||kS (p.rules.getD i default) p.topology
def wE(p:aP)(r:Rule):Int:=aS [cu r.fr p.states.length,cu r.to p.states.length]
def Zh(p:aP)(r:Rule):Bool:=decide (r.pos<0)||decide (r.pos>2)||(r.pos !=0&&p.topology==3)
def gB(p:aP)(i:Nat):Int :=
 let r:=p.rules.getD i default
 let n:Int:=p.states.length
 bif rE p i then 2 else bif qK p i then 6 else bif wE p r !=0 then wE p r else
 bif r.kind==1 then aS [xu p r.guards,dO r.ex n,dO r.all n,jI p r.read,jI p r.write,dO r.send p.messages.length] else
 bif r.kind==2 then aS [cu r.gQ n,cu r.BL n,jI p r.read,jI p r.write] else
 bif r.kind==3 then aS [DZ r.response n,jI p r.read,jI p r.write] else
 bif r.kind==4 then aS [dO r.left n,dO r.right n,dO r.parent n,bZ (Zh p r) 1] else
 bif p.topology==4 then aS [cu r.gQ n,cu r.BL n,bZ (decide (r.direction<3)||decide (r.direction>4)) 1]
 else aS [cu r.gQ n,cu r.BL n,bZ (decide (r.direction<1)||decide (r.direction>2)) 1]
theorem S.jV(p:aP)(i:Nat)(hi:i<p.rules.length)(hp:bH p):aj Tryz.prog 155 [.dat (.bW p),.int i] (.int (gB p i)):=by
 have hr:=hp.rule i
 have hp1:=hp.rules
 have hp2:=hp.states
 have hp3:=hp.messages
 refine aj.of Bd.jV (by simp) rfl rfl ?_
 conv=>whnf
 repeat(refine VC.mk (by first|(simp only[Rw.kK]; omega)|(simp only[Rw.rng] at *; omega)) ?_; conv=>whnf)
 refine ah.ad6 (S.NY p (p.rules.getD i default) (p.rules.take i) false (by rw[List.length_take]; omega) _) QD ?_
 rintro t hp' ⟨rfl,rfl⟩
 refine⟨.bool _,hRP p (p.rules.getD i default),rfl,rfl,?_⟩
 conv=>whnf
 refine ah.pure (S.fO (p.rules.getD i default).name) rfl ?_
 conv=>whnf
 refine .mk (by intro h; rw[h]; rfl) ?_
 conv=>whnf
 refine⟨fun h1=>?_,fun h1=>?_⟩
 ·conv=>whnf
  exact ak.int (by rw[gB,show rE p i=true from h1]; rfl)
 ·conv=>whnf
  refine ah.pure (S.o7 (p.rules.getD i default).kind p.topology) rfl ?_
  conv=>whnf
  repeat(refine VC.mk (by first|exact id|exact fun h=>⟨h,h⟩) ?_; conv=>whnf)
  refine ah.cO (fun _=>S.lT (p.rules.getD i default) p.topology hr) rfl ?_
  conv=>whnf
  refine .mk (by intro h; rw[h]; rfl) ?_
  conv=>whnf
  refine⟨fun h2=>?_,fun h2=>?_⟩
  ·conv=>whnf
   exact ak.int (by rw[gB,show rE p i=false from h1,show qK p i=true from h2]; rfl)
  ·conv=>whnf
   refine ah.pure (S.bV (p.rules.getD i default).fr p.states.length) rfl ?_
   conv=>whnf
   refine ah.pure (S.bV (p.rules.getD i default).to p.states.length) rfl ?_
   conv=>whnf
   refine ah.pure (S.bP [cu (p.rules.getD i default).fr p.states.length,cu (p.rules.getD i default).to p.states.length] true (show 2<2^40 by decide)) rfl ?_
   conv=>whnf
   refine⟨fun h3=>?_,fun h3=>?_⟩
   ·conv=>whnf
    exact ak.int (by rw[gB,show rE p i=false from h1,show qK p i=false from h2,show(wE p (p.rules.getD i default) !=0)=true from h3]; rfl)
   ·conv=>whnf
    refine⟨fun h4=>?_,fun h4=>?_⟩
    ·conv=>whnf
     refine ah.pure (S.mQ p (p.rules.getD i default).guards false (by have:=hr.guards; omega)) rfl ?_
     conv=>whnf
     refine ah.pure (S.dU (p.rules.getD i default).ex p.states.length false (by have:=hr.ex; omega)) rfl ?_
     conv=>whnf
     refine ah.pure (S.dU (p.rules.getD i default).all p.states.length false (by have:=hr.all; omega)) rfl ?_
     conv=>whnf
     refine ah.pure (S.fJ p (p.rules.getD i default).read) rfl ?_
     conv=>whnf
     refine ah.pure (S.fJ p (p.rules.getD i default).write) rfl ?_
     conv=>whnf
     refine ah.pure (S.dU (p.rules.getD i default).send p.messages.length false (by have:=hr.send; omega)) rfl ?_
     conv=>whnf
     refine ah.pure (S.bP [xu p (p.rules.getD i default).guards,dO (p.rules.getD i default).ex p.states.length,dO (p.rules.getD i default).all p.states.length,jI p (p.rules.getD i default).read,jI p (p.rules.getD i default).write,dO (p.rules.getD i default).send p.messages.length] true (show 6<2^40 by decide)) rfl ?_
     conv=>whnf
     exact ak.int (by rw[gB,show rE p i=false from h1,show qK p i=false from h2,show(wE p (p.rules.getD i default) !=0)=false from h3,h4]; rfl)
    ·conv=>whnf
     refine⟨fun h5=>?_,fun h5=>?_⟩
     ·conv=>whnf
      refine ah.pure (S.bV (p.rules.getD i default).gQ p.states.length) rfl ?_
      conv=>whnf
      refine ah.pure (S.bV (p.rules.getD i default).BL p.states.length) rfl ?_
      conv=>whnf
      refine ah.pure (S.fJ p (p.rules.getD i default).read) rfl ?_
      conv=>whnf
      refine ah.pure (S.fJ p (p.rules.getD i default).write) rfl ?_
      conv=>whnf
      refine ah.pure (S.bP [cu (p.rules.getD i default).gQ p.states.length,cu (p.rules.getD i default).BL p.states.length,jI p (p.rules.getD i default).read,jI p (p.rules.getD i default).write] true (show 4<2^40 by decide)) rfl ?_
      conv=>whnf
      exact ak.int (by rw[gB,show rE p i=false from h1,show qK p i=false from h2,show(wE p (p.rules.getD i default) !=0)=false from h3,h4,h5]; rfl)
     ·conv=>whnf
      refine⟨fun h6=>?_,fun h6=>?_⟩
      ·conv=>whnf
       refine ah.pure (S.jW (p.rules.getD i default).response p.states.length false (by have:=hr.response; omega)) rfl ?_
       conv=>whnf
       refine ah.pure (S.fJ p (p.rules.getD i default).read) rfl ?_
       conv=>whnf
       refine ah.pure (S.fJ p (p.rules.getD i default).write) rfl ?_
       conv=>whnf
       refine ah.pure (S.bP [DZ (p.rules.getD i default).response p.states.length,jI p (p.rules.getD i default).read,jI p (p.rules.getD i default).write] true (show 3<2^40 by decide)) rfl ?_
       conv=>whnf
       exact ak.int (by rw[gB,show rE p i=false from h1,show qK p i=false from h2,show(wE p (p.rules.getD i default) !=0)=false from h3,h4,h5,h6]; rfl)
      ·conv=>whnf
       refine⟨fun h7=>?_,fun h7=>?_⟩
       ·conv=>whnf
        repeat(refine VC.mk (by first|exact id|(intro h; rw[h]; rfl)|(intro h; simp_all; done)) ?_; conv=>whnf)
        refine ah.pure (S.dU (p.rules.getD i default).left p.states.length false (by have:=hr.left; omega)) rfl ?_
        conv=>whnf
        refine ah.pure (S.dU (p.rules.getD i default).right p.states.length false (by have:=hr.right; omega)) rfl ?_
        conv=>whnf
        refine ah.pure (S.dU (p.rules.getD i default).parent p.states.length false (by have:=hr.parent; omega)) rfl ?_
        conv=>whnf
        refine ah.pure (S.bT (Zh p (p.rules.getD i default)) 1) rfl ?_
        conv=>whnf
        refine ah.pure (S.bP [dO (p.rules.getD i default).left p.states.length,dO (p.rules.getD i default).right p.states.length,dO (p.rules.getD i default).parent p.states.length,bZ (Zh p (p.rules.getD i default)) 1] true (show 4<2^40 by decide)) rfl ?_
        conv=>whnf
        exact ak.int (by rw[gB,show rE p i=false from h1,show qK p i=false from h2,show(wE p (p.rules.getD i default) !=0)=false from h3,h4,h5,h6,h7]; rfl)
       ·conv=>whnf
        refine⟨fun h8=>?_,fun h8=>?_⟩
        ·conv=>whnf
         refine ah.pure (S.bV (p.rules.getD i default).gQ p.states.length) rfl ?_
         conv=>whnf
         refine ah.pure (S.bV (p.rules.getD i default).BL p.states.length) rfl ?_
         conv=>whnf
         repeat(refine VC.mk (by first|exact id|exact fun h=>⟨h,h⟩|(intro h; rw[h]; rfl)) ?_; conv=>whnf)
         refine ah.pure (S.bT (decide ((p.rules.getD i default).direction<3)||decide ((p.rules.getD i default).direction>4)) 1) rfl ?_
         conv=>whnf
         refine ah.pure (S.bP [cu (p.rules.getD i default).gQ p.states.length,cu (p.rules.getD i default).BL p.states.length,bZ (decide ((p.rules.getD i default).direction<3)||decide ((p.rules.getD i default).direction>4)) 1] true (show 3<2^40 by decide)) rfl ?_
         conv=>whnf
         exact ak.int (by rw[gB,show rE p i=false from h1,show qK p i=false from h2,show(wE p (p.rules.getD i default) !=0)=false from h3,h4,h5,h6,h7,h8]; rfl)
        ·conv=>whnf
         refine ah.pure (S.bV (p.rules.getD i default).gQ p.states.length) rfl ?_
         conv=>whnf
         refine ah.pure (S.bV (p.rules.getD i default).BL p.states.length) rfl ?_
         conv=>whnf
         repeat(refine VC.mk (by first|exact id|exact fun h=>⟨h,h⟩|(intro h; rw[h]; rfl)) ?_; conv=>whnf)
         refine ah.pure (S.bT (decide ((p.rules.getD i default).direction<1)||decide ((p.rules.getD i default).direction>2)) 1) rfl ?_
         conv=>whnf
         refine ah.pure (S.bP [cu (p.rules.getD i default).gQ p.states.length,cu (p.rules.getD i default).BL p.states.length,bZ (decide ((p.rules.getD i default).direction<1)||decide ((p.rules.getD i default).direction>2)) 1] true (show 3<2^40 by decide)) rfl ?_
         conv=>whnf
         exact ak.int (by rw[gB,show rE p i=false from h1,show qK p i=false from h2,show(wE p (p.rules.getD i default) !=0)=false from h3,h4,h5,h6,h7,h8]; rfl)
def xq(g:zJ):List zJ->Nat->Int
 |[],_=> -1
 |x::r,i=>bif g==x then(i:Int) else xq g r (i+1)
theorem Qs{g:zJ}{l:List zJ}{i:Nat}:decide (0<=xq g l i)=l.any fun x=>g==x:=by
 have: ∀ {l:List zJ} {i:Nat},0<=xq g l i↔(l.any fun x=>g==x)=true:=by
  intro l
  induction l with
  |nil=>intro i; simp[xq]
  |cons x r ih =>
   intro i
   rw[List.any_cons,Bool.or_eq_true,<- ih (i:=i+1)]
   show(0:Int)<=(bif g==x then(i:Int) else xq g r (i+1))↔_
   generalize (g==x)=b
   cases b<;>simp
 rw[Bool.eq_iff_iff,decide_eq_true_eq]; exact this
theorem S.Zp(l:List zJ)(g:zJ)(f:Bool)(hl:l.length<2^40):aj Tryz.prog 189 [.row 7 f (.qY l),.dat (.SY g)] (.int (xq g l 0)):=by
 refine aj.of Bd.dZ (by simp) rfl rfl ?_
 conv=>whnf
 refine aC.same [0,3,6,7] (fun i:Nat=>[(8,.int i)]) (fun i=>i<=l.length/\xq g l 0=xq g (l.drop i) i) (fun i=>l.length-i) 0 rfl (by decide) rfl (fun _=>rfl) ⟨by omega,by simp⟩ ⟨⟨_,rfl,rfl⟩,trivial⟩ ?_
 conv=>whnf
 refine⟨rfl,?_⟩
 rintro i ⟨hi,hall⟩
 conv=>whnf
 refine⟨fun h3=>?_,fun h3=>?_⟩
 ·have hi':i<l.length:=by simpa using h3
  rw[bg default hi'] at hall
  simp only[xq] at hall
  conv=>whnf
  refine .mk (by simp only[Rw.rng] at *; first|omega|(simp_all; done)|(simp_all; omega)) ?_
  conv=>whnf
  refine⟨fun h4=>?_,fun h4=>?_⟩
  ·conv=>whnf
   refine ak.int ?_
   have h4':(g==l.getD i default)=true:=h4
   rw[hall,h4']; rfl
  ·conv=>whnf
   refine .mk (by simp only[okI] at *; first|omega|(simp_all; done)|(simp_all; omega)) ?_
   conv=>whnf
   refine⟨i+1,⟨by omega,?_⟩,by omega,⟨⟨_,rfl,rfl⟩,trivial⟩,?_,rfl⟩
   ·have h4':(g==l.getD i default)=false:=h4
    rw[hall,h4']; rfl
   ·repeat' (first|exact trivial|exact⟨_,rfl,rfl⟩|constructor)
 ·conv=>whnf
  refine ak.int ?_
  have hi':l.length<=i:=by simpa using h3
  rw[hall,List.drop_eq_nil_of_le hi']; rfl
theorem S.QE(l:List zJ)(g:zJ)(f:Bool)(hl:l.length<2^40):aj Tryz.prog 181 [.row 7 f (.qY l),.dat (.SY g)] (.bool (l.any fun x=>g==x)):=by
 refine aj.of Bd.dN (by simp) rfl rfl ?_
 conv=>whnf
 refine ah.pure (S.Zp l g f hl) rfl ?_
 conv=>whnf
 exact ak.bool Qs.symm
theorem Ze{h:Hz}{j:Nat}{Z:Nat->Prop}{l:List zJ}(hz:Z j)(q:h.get j=some (.row 208 7 (.qY l) [])):T.sub Z h.au (V.row 7 false (.qY l)).aH (V.own j).aH:=by
 show T.sub Z h.au (.sl 7 false (l.map P5)) (.own j)
 simp only[T.sub]
 refine⟨trivial,hz,?_,by decide,208,?_⟩
 ·rw[gJ]; intro t ht; obtain⟨x,_,rfl⟩:=List.mem_map.1 ht; rfl
 ·have:=aK q
  rw[this]; simp[OV.aG,Rw.aX,V.aX]
theorem AO{α β:Type}{f:β->α->β}{b:β}{l:List α}{i:Nat}{d:α}(h:i<l.length):(l.take (i+1)).foldl f b=f ((l.take i).foldl f b) (l.getD i d):=by
 rw[List.take_add_one,List.foldl_append]
 simp[List.getElem?_eq_getElem h]
theorem ak.ad2{h:Hz}{j:Nat}{l:List zJ}(q:h.get j=some (.row 208 7 (.qY l) [])):ak (.row 7 false (.qY l)) (.own j) h:=⟨Ze trivial q⟩
def He(acc:List zJ)(g:zJ):List zJ:=bif acc.any (fun x=>g==x) then acc else acc++[g]
def yL(l:List Rule):List zJ:=(l.flatMap Rule.guards).foldl He []
theorem Zq{acc:List zJ}{g:zJ}:(He acc g).length<=acc.length+1:=by
 unfold He; cases acc.any (fun x=>g==x)<;>simp
theorem QF: ∀ {l acc:List zJ},(l.foldl He acc).length<=acc.length+l.length:=by
 intro l
 induction l with
 |nil=>intro acc; simp
 |cons g r ih =>
  intro acc
  have:=ih (acc:=He acc g)
  have h2:=Zq (acc:=acc) (g:=g)
  simp only[List.foldl_cons,List.length_cons]; omega
abbrev rowT(l:List zJ):OV:=.row 208 7 (.qY l) []
def yM(p:aP)(i k:Nat):List zJ:=((p.rules.getD i default).guards.take k).foldl He (yL (p.rules.take i))
theorem Qu(p:aP)(hp:bH p)(i k:Nat)(_hi:i<p.rules.length):(yM p i k).length<2^31:=by
 have h1:=QF (l:=(p.rules.getD i default).guards.take k) (acc:=yL (p.rules.take i))
 have h2:=QF (l:=(p.rules.take i).flatMap Rule.guards) (acc:=[])
 have h3:=(hp.rule i).guards
 have h4:((p.rules.take i).flatMap Rule.guards).length<=(p.rules.flatMap Rule.guards).length:=by
  conv=>rhs; rw[<- List.take_append_drop i p.rules,List.flatMap_append,List.length_append]
  omega
 have h5:=hp.qY
 have h6:((p.rules.getD i default).guards.take k).length<=(p.rules.getD i default).guards.length:=by simp[List.length_take]; omega
 unfold yM
 unfold yL at h1 ⊢
 simp only[List.length_nil,Nat.zero_add] at h2
 omega
theorem L8(p:aP){i:Nat}(hi:i<p.rules.length):yL (p.rules.take (i+1))=yM p i (p.rules.getD i default).guards.length:=by
 unfold yM
 rw[List.take_of_length_le (Nat.le_refl _)]
 unfold yL
 rw[List.take_add_one,List.flatMap_append,List.foldl_append]
 simp[List.getElem?_eq_getElem hi]
theorem S.jh(p:aP)(hp:bH p):aj Tryz.prog 156 [.dat (.bW p)] (.row 7 false (.qY (yL p.rules))):=by
 have hp1:=hp.rules
 refine aj.of Bd.jh (by simp) rfl rfl ?_
 conv=>whnf
 refine aC.nil 3 208 7 (by rfl) rfl rfl rfl ?_
 refine aC.objs 1 [9,10] (fun i:Nat=>[(11,.int i),(3,.own 0)]) (fun i=>[(0,rowT (yL (p.rules.take i)))]) (fun i=>i<=p.rules.length) (fun i=>p.rules.length-i) 0 [7] rfl (by decide) (fun _=>rfl) (Nat.zero_le _) ?_ ?_ ?_
 ·exact⟨⟨_,rfl,.eq rfl⟩,⟨_,rfl,.eq rfl⟩,trivial⟩
 ·exact⟨⟨rfl,nofun,rfl,rfl,rfl,_,rfl,rfl,rfl,aV.of_eq rfl⟩,trivial⟩
 conv=>whnf
 refine⟨⟨⟨_,rfl,.eq rfl⟩,⟨_,rfl,.eq rfl⟩,trivial⟩,rfl,?_⟩
 rintro i hi
 conv=>whnf
 refine⟨fun h3=>?_,fun h3=>?_⟩
 ·have hi':i<p.rules.length:=by simpa using h3
  conv=>whnf
  refine .mk (by simp only[Rw.rng] at *; first|omega|(simp_all; done)|(simp_all; omega)) ?_
  conv=>whnf
  refine aC.objs 1 [9,10,11,16,17] (fun k:Nat=>[(18,.int k),(3,.own 0)]) (fun k=>[(0,rowT (yM p i k))]) (fun k=>k<=(p.rules.getD i default).guards.length) (fun k=>(p.rules.getD i default).guards.length-k) 0 [0] rfl (by decide) (fun _=>rfl) (Nat.zero_le _) ?_ ?_ ?_
  ·exact⟨⟨_,rfl,.eq rfl⟩,⟨_,rfl,.eq rfl⟩,trivial⟩
  ·exact⟨⟨rfl,nofun,rfl,rfl,rfl,_,rfl,rfl,rfl,aV.of_eq rfl⟩,trivial⟩
  conv=>whnf
  refine⟨⟨⟨_,rfl,.eq rfl⟩,⟨_,rfl,.eq rfl⟩,⟨_,rfl,.eq rfl⟩,⟨_,rfl,.eq rfl⟩,⟨_,rfl,.eq rfl⟩,trivial⟩,rfl,?_⟩
  rintro k hk
  have hacc:=Qu p hp i k hi'
  have hg:=(hp.rule i).guards
  conv=>whnf
  refine⟨fun h4=>?_,fun h4=>?_⟩
  ·have hk':k<(p.rules.getD i default).guards.length:=by simpa using h4
   have hst:yM p i (k+1)=He (yM p i k) ((p.rules.getD i default).guards.getD k default):=AO hk'
   conv=>whnf
   refine .mk (by simp only[Rw.rng] at *; first|omega|(simp_all; done)|(simp_all; omega)) ?_
   conv=>whnf
   refine ah.lend (S.QE (yM p i k) ((p.rules.getD i default).guards.getD k default) false (by omega)) (And.intro (Ze trivial rfl) (And.intro (aB _) trivial)) rfl rfl ?_
   conv=>whnf
   refine⟨fun h5=>?_,fun h5=>?_⟩
   ·conv=>whnf
    repeat(refine VC.mk (by first|(show((yM p i k).length+(0+1))*48<=140737488355328/\(yM p i k).length+(0+1)<=1152921504606846976; omega)|(simp only[okI] at *; first|omega|(simp_all; done)|(simp_all; omega))) ?_; conv=>whnf)
    have h5':((yM p i k).any fun x=>(p.rules.getD i default).guards.getD k default==x)=false:=by simpa using h5
    refine⟨k+1,[13],by omega,by omega,⟨⟨_,rfl,.eq rfl⟩,⟨_,rfl,.eq rfl⟩,trivial⟩,⟨⟨_,rfl,.eq rfl⟩,⟨_,rfl,.eq rfl⟩,⟨_,rfl,.eq rfl⟩,⟨_,rfl,.eq rfl⟩,⟨_,rfl,.eq rfl⟩,trivial⟩,⟨rfl,nofun,rfl,rfl,rfl,_,rfl,rfl,rfl,aV.of_eq ?_⟩,trivial⟩
    rw[hst,He,h5']
    rfl
   ·conv=>whnf
    refine .mk (by simp only[okI] at *; first|omega|(simp_all; done)|(simp_all; omega)) ?_
    conv=>whnf
    have h5':((yM p i k).any fun x=>(p.rules.getD i default).guards.getD k default==x)=true:=by simpa using h5
    refine⟨k+1,[0],by omega,by omega,⟨⟨_,rfl,.eq rfl⟩,⟨_,rfl,.eq rfl⟩,trivial⟩,⟨⟨_,rfl,.eq rfl⟩,⟨_,rfl,.eq rfl⟩,⟨_,rfl,.eq rfl⟩,⟨_,rfl,.eq rfl⟩,⟨_,rfl,.eq rfl⟩,trivial⟩,⟨rfl,nofun,rfl,rfl,rfl,_,rfl,rfl,rfl,aV.of_eq ?_⟩,trivial⟩
    rw[hst,He,h5']; rfl
  ·have hk':(p.rules.getD i default).guards.length<=k:=by simpa using h4
   have e:k=(p.rules.getD i default).guards.length:=Nat.le_antisymm hk hk'
   subst e
   conv=>whnf
   refine .mk (by simp only[okI] at *; first|omega|(simp_all; done)|(simp_all; omega)) ?_
   conv=>whnf
   refine⟨i+1,[0],by omega,by omega,⟨⟨_,rfl,.eq rfl⟩,⟨_,rfl,.eq rfl⟩,trivial⟩,⟨⟨_,rfl,.eq rfl⟩,⟨_,rfl,.eq rfl⟩,trivial⟩,⟨rfl,nofun,rfl,rfl,rfl,_,rfl,rfl,rfl,aV.of_eq ?_⟩,trivial⟩
   rw[L8 p hi']
 ·have hi':p.rules.length<=i:=by simpa using h3
  rw[List.take_of_length_le hi']
  conv=>whnf
  exact ak.ad2 rfl
def uy(p:aP):Bool:=decide (p.topology<1)||decide (p.topology>4)||decide (p.fault<0)||decide (p.fault>3)
def vI(p:aP):Bool:=decide ((p.states.length:Int)>6)||decide ((p.messages.length:Int)>3)||decide ((p.values.length:Int)>3)||decide ((p.bY.length:Int)>4)||decide ((p.rules.length:Int)>8)
def Qv(p:aP):Bool:=(!(p.topology==1)&&(decide ((p.messages.length:Int)>0)||decide ((p.values.length:Int)>0)||decide ((p.bY.length:Int)>0)||p.fault !=0))||((p.topology==1)&&decide ((p.leader.length:Int)>0))
def xU(p:aP):Int:=aS [dO p.initial p.states.length,bZ ((p.initial.length:Int)==0) 1,dO p.leader p.states.length]
def CO(p:aP):Int:=aS ((List.range p.rules.length).map (gB p))
def bM(p:aP):Int :=
 bif !(validName p.name) then 2 else bif uy p then 1 else bif (p.states.length:Int)==0 then 1 else bif vI p then 4 else
 bif zy p !=0 then zy p else bif Qv p then 1 else
 bif p.bY.any (fun l=> !(Qo l)) then 4 else
 bif xU p !=0 then xU p else
 bif CO p !=0 then CO p else bZ (decide (((yL p.rules).length:Int)>3)) 4
theorem JU{n i:Nat}{f:Nat->Int}(h:i<n):((List.range n).drop i).map f=f i::((List.range n).drop (i+1)).map f:=by
 rw[List.drop_eq_getElem_cons (by simpa using h)]; simp
theorem S.iT(p:aP)(hp:bH p):aj Tryz.prog 126 [.dat (.bW p)] (.int (bM p)):=by
 have g1:=hp.states; have g2:=hp.messages; have g3:=hp.values; have g4:=hp.bY; have g5:=hp.initial; have g6:=hp.leader; have g7:=hp.rules
 refine aj.of Bd.iT (by simp) rfl rfl ?_
 conv=>whnf
 refine ah.pure (S.fO p.name) rfl ?_
 conv=>whnf
 refine⟨fun h1=>?_,fun h1=>?_⟩
 ·conv=>whnf
  exact ak.int (by rw[bM,h1]; rfl)
 conv=>whnf
 repeat(refine VC.mk (by first|exact id|(intro h; rw[h]; rfl)) ?_; conv=>whnf)
 refine⟨fun h2=>?_,fun h2=>?_⟩
 ·conv=>whnf
  exact ak.int (by rw[bM,h1,show uy p=true from h2]; rfl)
 conv=>whnf
 refine⟨fun h3=>?_,fun h3=>?_⟩
 ·conv=>whnf
  exact ak.int (by rw[bM,h1,show uy p=false from h2,h3]; rfl)
 conv=>whnf
 repeat(refine VC.mk (by first|exact id|(intro h; rw[h]; rfl)) ?_; conv=>whnf)
 refine⟨fun h4=>?_,fun h4=>?_⟩
 ·conv=>whnf
  exact ak.int (by rw[bM,h1,show uy p=false from h2,h3,show vI p=true from h4]; rfl)
 conv=>whnf
 have h0:0<p.states.length:=by
  rcases Nat.eq_zero_or_pos p.states.length with e|e
  ·rw[e] at h3; exact absurd h3 (by decide)
  ·exact e
 refine ah.pure (S.nX p h0 g1 g2 g3) rfl ?_
 conv=>whnf
 refine⟨fun h5=>?_,fun h5=>?_⟩
 ·conv=>whnf
  exact ak.int (by rw[bM,h1,show uy p=false from h2,h3,show vI p=false from h4,h5]; rfl)
 conv=>whnf
 repeat(refine VC.mk (by first|exact id|(intro h; rw[h]; rfl)|(intro h; simp_all; done)) ?_; conv=>whnf)
 refine⟨fun h6=>?_,fun h6=>?_⟩
 ·conv=>whnf
  exact ak.int (by rw[bM,h1,show uy p=false from h2,h3,show vI p=false from h4,h5,show Qv p=true from h6]; rfl)
 conv=>whnf
 refine aC.same [1,4,111,112] (fun i:Nat=>[(113,.int i)]) (fun i=>i<=p.bY.length/\(p.bY.take i).any (fun l=> !(Qo l))=false) (fun i=>p.bY.length-i) 0 rfl (by decide) rfl (fun _=>rfl) ⟨by omega,by simp⟩ ⟨⟨_,rfl,rfl⟩,trivial⟩ ?_
 conv=>whnf
 refine⟨rfl,?_⟩
 rintro i ⟨hi,hall⟩
 conv=>whnf
 refine⟨fun h7=>?_,fun h7=>?_⟩
 ·have hi':i<p.bY.length:=by simpa using h7
  conv=>whnf
  refine .mk (by simp only[Rw.rng] at *; omega) ?_
  conv=>whnf
  refine ah.pure (S.jD (p.bY.getD i default)) rfl ?_
  conv=>whnf
  refine⟨fun h8=>?_,fun h8=>?_⟩
  ·conv=>whnf
   exact ak.int (by rw[bM,h1,show uy p=false from h2,h3,show vI p=false from h4,h5,show Qv p=false from h6,dS (d:=default) hi' h8]; rfl)
  ·conv=>whnf
   refine .mk (by simp only[okI] at *; omega) ?_
   conv=>whnf
   refine⟨i+1,⟨by omega,?_⟩,by omega,⟨⟨_,rfl,rfl⟩,trivial⟩,?_,rfl⟩
   ·rw[fU (d:=default) hi' hall]; exact h8
   ·repeat' (first|exact trivial|exact⟨_,rfl,rfl⟩|constructor)
 have hi':p.bY.length<=i:=by simpa using h7
 rw[List.take_of_length_le hi'] at hall
 conv=>whnf
 refine ah.pure (S.dU p.initial p.states.length false (by omega)) rfl ?_
 conv=>whnf
 refine ah.pure (S.bT ((p.initial.length:Int)==0) 1) rfl ?_
 conv=>whnf
 refine ah.pure (S.dU p.leader p.states.length false (by omega)) rfl ?_
 conv=>whnf
 refine ah.pure (S.bP [dO p.initial p.states.length,bZ ((p.initial.length:Int)==0) 1,dO p.leader p.states.length] true (show 3<2^40 by decide)) rfl ?_
 conv=>whnf
 refine⟨fun h9=>?_,fun h9=>?_⟩
 ·conv=>whnf
  exact ak.int (by rw[bM,h1,show uy p=false from h2,h3,show vI p=false from h4,h5,show Qv p=false from h6,hall,show(xU p !=0)=true from h9]; rfl)
 conv=>whnf
 refine aC.same [1,140,141] (fun i:Nat=>[(142,.int i)]) (fun i=>i<=p.rules.length/\CO p=aS (((List.range p.rules.length).drop i).map (gB p))) (fun i=>p.rules.length-i) 0 rfl (by decide) rfl (fun _=>rfl) ⟨by omega,by simp[CO]⟩ ⟨⟨_,rfl,rfl⟩,trivial⟩ ?_
 conv=>whnf
 refine⟨rfl,?_⟩
 rintro i ⟨hi,hr⟩
 conv=>whnf
 refine⟨fun h10=>?_,fun h10=>?_⟩
 ·have hi':i<p.rules.length:=by simpa using h10
  rw[JU hi'] at hr
  simp only[aS] at hr
  conv=>whnf
  refine ah.pure (S.jV p i hi' hp) rfl ?_
  conv=>whnf
  refine⟨fun h11=>?_,fun h11=>?_⟩
  ·conv=>whnf
   have ac4:gB p i≠0:=Gt h11
   rw[if_neg ac4] at hr
   exact ak.int (by rw[bM,h1,show uy p=false from h2,h3,show vI p=false from h4,h5,show Qv p=false from h6,hall,show(xU p !=0)=false from h9,hr,h11]; rfl)
  ·conv=>whnf
   refine .mk (by simp only[okI] at *; omega) ?_
   conv=>whnf
   have ac4:gB p i=0:=uQ h11
   rw[if_pos ac4] at hr
   refine⟨i+1,⟨by omega,hr⟩,by omega,⟨⟨_,rfl,rfl⟩,trivial⟩,?_,rfl⟩
   repeat' (first|exact trivial|exact⟨_,rfl,rfl⟩|constructor)
 have hi':p.rules.length<=i:=by simpa using h10
 rw[List.drop_eq_nil_of_le (by simpa using hi')] at hr
 conv=>whnf
 refine ah.pure (S.jh p hp) rfl ?_
 conv=>whnf
 refine ah.pure (S.bT (decide (((yL p.rules).length:Int)>3)) 4) rfl ?_
 conv=>whnf
 exact ak.int (by rw[bM,h1,show uy p=false from h2,h3,show vI p=false from h4,h5,show Qv p=false from h6,hall,show(xU p !=0)=false from h9,hr]; rfl)
theorem ak.eqv{a b:V}{h:Hz}(e:a.aH=b.aH):ak a b h:=⟨by rw[e]; exact aB _⟩
def Qx(acc:Bool)(r:Rule):Bool:=acc&&(r.kind==1)&&decide (r.fr<r.to)&&((r.ex.length:Int)==0)&&((r.all.length:Int)==0)
def WX(acc:Bool)(r:Rule):Bool:=acc||decide ((r.all.length:Int)>0)
def uj(p:aP):Bool:=(p.topology==1)&&(p.fault==0)&&((p.messages.length:Int)==0)&&((p.bY.length:Int)==0)
structure Cls where
 SY:Bool
 cover:Bool
 word:Bool
 tree:Bool
 monadic:Bool
def eP(p:aP):Cls :=
 ⟨(p.topology==1)&&((p.values.length:Int)==0)&&p.rules.foldl Qx true,uj p&& !(p.rules.foldl WX false),(p.topology==2)||(p.topology==3),p.topology==4,uj p&&decide ((p.states.length:Int)<=4)⟩
def ad3(c:Cls):V:=.agg [.bool c.SY,.bool c.cover,.bool c.word,.bool c.tree,.bool c.monadic]
def D6:Cls:=⟨false,false,false,false,false⟩
def Gm(p:aP):V:=.fA [ad3 (bif bM p !=0 then D6 else eP p),.int (bM p)]
theorem S.iU(p:aP)(hp:bH p):aj Tryz.prog 104 [.dat (.bW p)] (Gm p):=by
 have g1:=hp.states; have g2:=hp.messages; have g3:=hp.values; have g4:=hp.bY; have g7:=hp.rules
 refine aj.of Bd.iU (by simp) rfl rfl ?_
 conv=>whnf
 refine ah.pure (S.iT p hp) rfl ?_
 conv=>whnf
 refine⟨fun h1=>?_,fun h1=>?_⟩
 ·conv=>whnf
  refine ak.eqv ?_
  rw[Gm,h1]; rfl
 have h1':bM p=0:=uQ h1
 conv=>whnf
 refine aC.same [1,2,3,18,19] (fun i:Nat=>[(20,.int i),(5,.bool ((p.rules.take i).foldl Qx true)),(6,.bool ((p.rules.take i).foldl WX false))]) (fun i=>i<=p.rules.length) (fun i=>p.rules.length-i) 0 rfl (by decide) rfl (fun _=>rfl) (Nat.zero_le _) ⟨⟨_,rfl,rfl⟩,⟨_,rfl,rfl⟩,⟨_,rfl,rfl⟩,trivial⟩ ?_
 conv=>whnf
 refine⟨rfl,?_⟩
 rintro i hi
 have g8:=hp.rule i
 have g9:=g8.ex; have g10:=g8.all
 conv=>whnf
 refine⟨fun h7=>?_,fun h7=>?_⟩
 ·have hi':i<p.rules.length:=by simpa using h7
  conv=>whnf
  repeat(refine VC.mk (by first|exact id|exact fun h=>⟨h,h⟩|(intro h; rw[h]; rfl)|(simp only[okI,Rw.rng] at *; omega)) ?_; conv=>whnf)
  refine⟨i+1,by omega,by omega,⟨⟨_,rfl,rfl⟩,⟨_,rfl,?_⟩,⟨_,rfl,?_⟩,trivial⟩,?_,rfl⟩
  ·rw[AO (d:=default) hi']; rfl
  ·rw[AO (d:=default) hi']; rfl
  ·repeat' (first|exact trivial|exact⟨_,rfl,rfl⟩|constructor)
 have hi':p.rules.length<=i:=by simpa using h7
 rw[List.take_of_length_le hi']
 conv=>whnf
 repeat(refine VC.mk (by first|exact id|(intro h; rw[h]; rfl)) ?_; conv=>whnf)
 refine ak.eqv ?_
 rw[Gm,h1']
 rfl
def lX(r:Rule)(t:Int):Bool :=
 bif !(r.kind==1)&&(decide ((r.guards.length:Int)>0)||decide ((r.ex.length:Int)>0)||decide ((r.all.length:Int)>0)||decide ((r.send.length:Int)>0)) then true else
 bif !(r.kind==1)&& !(r.kind==2)&& !(r.kind==3)&&(r.read != -1||r.write != -1) then true else
 bif !(r.kind==2)&& !(r.kind==5)&&(r.gQ !=0||r.BL !=0) then true else
 bif (!(r.kind==3)&&decide ((r.response.length:Int)>0))||(!(r.kind==5)&&r.direction !=0) then true else
 bif !(r.kind==4)&&(r.pos !=0||decide ((r.left.length:Int)>0)||decide ((r.right.length:Int)>0)) then true else
 decide ((r.parent.length:Int)>0)&& !((r.kind==4)&&(t==4))
theorem gt0{n:Nat}:decide ((n:Int)>0)= !(n==0):=by
 cases n with
 |zero=>rfl
 |succ n=>rw[decide_eq_true (by omega)]; rfl
theorem aeI(a b c d e f g h:Nat):decide ((a:Int)+b+c+d+e+f+g+h>0)=(!(a==0)|| !(b==0)|| !(c==0)|| !(d==0)|| !(e==0)|| !(f==0)|| !(g==0)|| !(h==0)):=by
 rw[Bool.eq_iff_iff]
 simp only[decide_eq_true_eq,Bool.or_eq_true,Bool.not_eq_true',beq_eq_false_iff_ne,ne_eq]
 omega
theorem zW{r:Rule}{t:Int}(h:1<=r.kind/\r.kind<=5):lX r t=kS r t:=by
 have hk:r.kind=1\/r.kind=2\/r.kind=3\/r.kind=4\/r.kind=5:=by omega
 simp only[lX,kS,DJ,gt0,aeI,bne]
 generalize (r.guards.length==0)=g1
 generalize (r.ex.length==0)=g2
 generalize (r.all.length==0)=g3
 generalize (r.send.length==0)=g4
 generalize (r.response.length==0)=g5
 generalize (r.left.length==0)=g6
 generalize (r.right.length==0)=g7
 generalize (r.parent.length==0)=g8
 generalize (r.read== -1)=g9
 generalize (r.write== -1)=g10
 generalize (r.gQ==0)=g11
 generalize (r.BL==0)=g12
 generalize (r.direction==0)=g13
 generalize (r.pos==0)=g14
 rcases hk with hk|hk|hk|hk|hk<;>rw[hk] <;>
  (first
   |(simp; done)
   |(cases (t==4)<;>simp<;>grind)
   |(simp; grind))
end Go.Proofs.YtifbibbicplneaaGreatDoor
