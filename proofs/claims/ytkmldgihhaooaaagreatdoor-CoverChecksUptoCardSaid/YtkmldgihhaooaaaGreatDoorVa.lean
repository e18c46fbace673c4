/-
 A part of the proof. No condition.
-/
import Derived.Test.YtkmldgihhaooaaaGreatDoorNb
import Derived.Test.YtkmldgihhaooaaaGreatDoorLg
namespace Go.Proofs.YtkmldgihhaooaaaGreatDoor
open Go.Ab Go.Proofs
set_option maxRecDepth 100000
def dM(b:Bool)(e:Int):Int:=bif b then e else 0
theorem S.bT(b:Bool)(e:Int):aj Tryz.prog 111 [.bool b,.int e] (.int (dM b e)):=by
 refine aj.of Bd.bT (by simp) rfl rfl ?_;refine⟨fun h=>?_,fun h=>?_⟩
 ·conv=>whnf
  exact ak.int (by rw[h]; rfl)
 ·conv=>whnf
  exact ak.int (by rw[h]; rfl)
def pG(i n:Int):Bool:=decide (i<0)||decide (i>=n)
def cO(i n:Int):Int:=dM (pG i n) 5
theorem S.bV(i n:Int):aj Tryz.prog 137 [.int i,.int n] (.int (cO i n)):=by
 refine aj.of Bd.bV (by simp) rfl rfl ?_;repeat(refine VC.mk (by first|exact fun h=>⟨h,h⟩|(intro h; rw[h]; rfl)) ?_)
 refine ah.pure (S.bT (pG i n) 5) rfl ?_;exact ak.int rfl
def bC:List Int->Int
 |[]=>0
 |e::r=>if e=0 then bC r else e
theorem S.bK(l:List Int)(f:Bool)(hl:l.length<2^40):aj Tryz.prog 110 [.row 0 f (.ints l)] (.int (bC l)):=by
 refine aj.of Bd.bK (by simp) rfl rfl ?_;refine aA.same [5,6] (fun i:Nat=>[(7,.int i)]) (fun i=>i<=l.length/\bC l=bC (l.drop i)) (fun i=>l.length-i) 0 rfl (by decide) rfl (fun _=>rfl) ⟨by omega,by simp⟩ ⟨⟨_,rfl,rfl⟩,trivial⟩ ?_;refine⟨rfl,?_⟩;rintro i ⟨hi,hall⟩;refine⟨fun h3=>?_,fun h3=>?_⟩
 ·have hi':i<l.length:=by simpa using h3
  rw[bY 0 hi'] at hall;simp only[bC] at hall;refine .mk (by simp only[Rw.rng] at *; omega) ?_;refine⟨fun h4=>?_,fun h4=>?_⟩
  ·conv=>whnf
   refine ak.int ?_
   have:l.getD i 0≠0:=by simpa using h4
   rw[hall,if_neg this]; rfl
  ·conv=>whnf
   refine .mk (by simp only[okI] at *; omega) ?_;conv=>whnf
   have:l.getD i 0=0:=by simpa using h4
   rw[if_pos this] at hall;refine⟨i+1,⟨by omega,hall⟩,by omega,⟨⟨_,rfl,rfl⟩,trivial⟩,?_,rfl⟩;repeat' (first|exact trivial|exact⟨_,rfl,rfl⟩|constructor)
 ·conv=>whnf
  refine ak.int ?_;have hi':l.length<=i:=by simpa using h3
  rw[hall,List.drop_eq_nil_of_le hi']; rfl
def GX:List Int->Bool
 |a::b::r=>decide (a<b)&&GX (b::r)
 |_=>true
def iW(l:List Int)(n:Int):Int:=bif l.any (fun i=>pG i n) then 5 else bif GX l then 0 else 1
theorem S.eP(l:List Int)(n:Int)(f:Bool)(hl:l.length<2^40):aj Tryz.prog 109 [.row 0 f (.ints l),.int n] (.int (iW l n)):=by
 refine aj.of Bd.eP (by simp) rfl rfl ?_;refine aA.same [0,1,8,9] (fun i:Nat=>[(10,.int i)]) (fun i=>i<=l.length/\(l.take i).any (fun i=>pG i n)=false) (fun i=>l.length-i) 0 rfl (by decide) rfl (fun _=>rfl) ⟨by omega,by simp⟩ ⟨⟨_,rfl,rfl⟩,trivial⟩ ?_;refine⟨rfl,?_⟩;rintro i ⟨hi,hall⟩;refine⟨fun h3=>?_,fun h3=>?_⟩
 ·have hi':i<l.length:=by simpa using h3
  repeat(refine VC.mk (by first|exact fun h=>⟨h,h⟩|(intro h; rw[h]; rfl)|(simp only[Rw.rng] at *; omega)) ?_)
  refine⟨fun h4=>?_,fun h4=>?_⟩
  ·conv=>whnf
   refine ak.int ?_;rw[iW,ig (d:=0) hi' h4]; rfl
  ·conv=>whnf
   refine .mk (by simp only[okI] at *; omega) ?_;refine⟨i+1,⟨by omega,?_⟩,by omega,⟨⟨_,rfl,rfl⟩,trivial⟩,?_,rfl⟩
   ·rw[jS (d:=0) hi' hall]; exact h4
   ·repeat' (first|exact trivial|exact⟨_,rfl,rfl⟩|constructor)
 ·have hi':l.length<=i:=by simpa using h3
  rw[List.take_of_length_le hi'] at hall;refine aA.same [0] (fun i:Nat=>[(7,.int (i+1))]) (fun i=>(i<l.length\/i=0)/\GX l=GX (l.drop i)) (fun i=>l.length-i) 0 rfl (by decide) rfl (fun _=>rfl) ⟨by omega,by simp⟩ ⟨⟨_,rfl,rfl⟩,trivial⟩ ?_;refine⟨rfl,?_⟩;rintro i ⟨hi,hinc⟩;refine⟨fun h5=>?_,fun h5=>?_⟩
  ·have hi1:i+1<l.length:=by have:=of_decide_eq_true h5; omega
   rw[bY 0 (show i<l.length by omega),bY 0 hi1] at hinc;simp only[GX] at hinc;rw[<- bY 0 hi1] at hinc;repeat(refine VC.mk (by simp only[okI,Rw.rng] at *; omega) ?_)
   refine⟨fun h6=>?_,fun h6=>?_⟩
   ·conv=>whnf
    refine ak.int ?_;have e1:((i:Int)+1).toNat=i+1:=by omega
    have e2:((i:Int)+1-1).toNat=i:=by omega
    rw[e1,e2] at h6;have h6':l.getD (i+1) 0<=l.getD i 0:=of_decide_eq_true h6;rw[iW,hall,hinc,decide_eq_false (by omega)]; rfl
   ·conv=>whnf
    refine .mk (by simp only[okI] at *; omega) ?_;conv=>whnf
    have e1:((i:Int)+1).toNat=i+1:=by omega
    have e2:((i:Int)+1-1).toNat=i:=by omega
    rw[e1,e2] at h6;have h6': ¬ l.getD (i+1) 0<=l.getD i 0:=of_decide_eq_false h6;rw[decide_eq_true (by omega),Bool.true_and] at hinc;refine⟨i+1,⟨by omega,hinc⟩,by omega,⟨⟨_,rfl,rfl⟩,trivial⟩,?_,rfl⟩;repeat' (first|exact trivial|exact⟨_,rfl,rfl⟩|constructor)
  ·conv=>whnf
   refine ak.int ?_;have h5': ¬ ((i:Int)+1<l.length):=of_decide_eq_false h5
   have:GX l=true:=by
    rw[hinc];rcases hd:l.drop i with _|⟨a,_|⟨b,r⟩⟩
    ·rfl
    ·rfl
    ·have:=congrArg List.length hd;simp only[List.length_drop,List.length_cons] at this;omega
   rw[iW,hall,this]; rfl
def acE(n:Int):Bool:=decide (n>= -100)&&decide (n<=100)
theorem S.iJ(n:Int):aj Tryz.prog 156 [.int n] (.bool (acE n)):=by
 refine aj.of Bd.iJ (by simp) rfl rfl ?_;repeat(refine VC.mk id ?_)
 exact ak.bool rfl
def Ub(l:Lin):Bool:=acE l.c&&acE l.n&&acE l.t&&acE l.f
theorem S.jR(l:Lin):aj Tryz.prog 133 [.dat (.lin l)] (.bool (Ub l)):=by
 refine aj.of Bd.jR (by simp) rfl rfl ?_;refine ah.pure (S.iJ l.c) rfl ?_;repeat(refine VC.mk id ?_)
 refine ah.fV (fun _=>S.iJ l.n) rfl ?_;repeat(refine VC.mk id ?_)
 refine ah.fV (fun _=>S.iJ l.t) rfl ?_;repeat(refine VC.mk id ?_)
 refine ah.fV (fun _=>S.iJ l.f) rfl ?_;refine VC.mk id ?_;exact ak.bool rfl
def jT(p:aJ)(v:Int):Int:=dM (decide (v< -1)||decide (v>=p.values.length)) 5
theorem S.gB(p:aJ)(v:Int):aj Tryz.prog 162 [.dat (.fQ p),.int v] (.int (jT p v)):=by
 refine aj.of Bd.gB (by simp) rfl rfl ?_;repeat(refine VC.mk (by first|exact id|exact fun h=>⟨h,h⟩|(intro h; rw[h]; rfl)) ?_)
 refine ah.pure (S.bT _ 5) rfl ?_;exact ak.int rfl
theorem Uh{a:Int}(h:(a !=0)=true):a≠0:=by simpa using h
theorem Dn{a:Int}(h:(a !=0)=false):a=0:=by simpa using h
def vI(k t:Int):Bool:=bif k==1||k==2||k==3 then t==1 else bif k==4||k==5 then !(t==1) else false
theorem S.qP(k t:Int):aj Tryz.prog 159 [.int k,.int t] (.bool (vI k t)):=by
 refine aj.of Bd.qP (by simp) rfl rfl ?_;refine⟨fun h1=>?_,fun h1=>?_⟩
 ·conv=>whnf
  refine Fork.mk (fun _=>?_) (fun q=>absurd (q.symm.trans (h1)) Bool.false_ne_true);exact ak.bool (by simp[vI,h1])
 ·conv=>whnf
  refine⟨fun h2=>?_,fun h2=>?_⟩
  ·conv=>whnf
   refine Fork.mk (fun _=>?_) (fun q=>absurd (q.symm.trans (h2)) Bool.false_ne_true);exact ak.bool (by simp[vI,h1,h2])
  ·conv=>whnf
   refine⟨fun h3=>?_,fun h3=>?_⟩
   ·conv=>whnf
    exact ak.bool (by simp[vI,h1,h2,h3])
   ·conv=>whnf
    refine⟨fun h4=>?_,fun h4=>?_⟩
    ·conv=>whnf
     refine Fork.mk (fun _=>?_) (fun q=>absurd (q.symm.trans (h4)) Bool.false_ne_true);exact ak.bool (by simp[vI,h1,h2,h3,h4,bne])
    ·conv=>whnf
     refine⟨fun h5=>?_,fun h5=>?_⟩
     ·conv=>whnf
      exact ak.bool (by simp[vI,h1,h2,h3,h4,h5,bne])
     ·conv=>whnf
      exact ak.bool (by simp[vI,h1,h2,h3,h4,h5])
def qU:List Int->Int->Int
 |[],_=>0
 |x::r,n=>if cO x n=0 then qU r n else cO x n
def Fv(l:List Int)(n:Int):Int:=bif (l.length:Int) !=n then 1 else qU l n
theorem S.kF(l:List Int)(n:Int)(f:Bool)(hl:l.length<2^40):aj Tryz.prog 163 [.row 0 f (.ints l),.int n] (.int (Fv l n)):=by
 refine aj.of Bd.kF (by simp) rfl rfl ?_;refine⟨fun h=>?_,fun h=>?_⟩
 ·conv=>whnf
  exact ak.int (by rw[Fv,h]; rfl)
 ·conv=>whnf
  refine aA.same [0,1,12,13] (fun i:Nat=>[(14,.int i)]) (fun i=>i<=l.length/\qU l n=qU (l.drop i) n) (fun i=>l.length-i) 0 rfl (by decide) rfl (fun _=>rfl) ⟨by omega,by simp⟩ ⟨⟨_,rfl,rfl⟩,trivial⟩ ?_;refine⟨rfl,?_⟩;rintro i ⟨hi,hall⟩;refine⟨fun h3=>?_,fun h3=>?_⟩
  ·have hi':i<l.length:=by simpa using h3
   rw[bY 0 hi'] at hall;simp only[qU] at hall;refine .mk (by simp only[Rw.rng] at *; omega) ?_;refine ah.pure (S.bV (l.getD i 0) n) rfl ?_;refine⟨fun h4=>?_,fun h4=>?_⟩
   ·conv=>whnf
    refine ak.int ?_
    have:cO (l.getD i 0) n≠0:=by simpa using h4
    rw[Fv,h,cond_false,hall,if_neg this]
   ·conv=>whnf
    refine .mk (by simp only[okI] at *; omega) ?_;conv=>whnf
    have:cO (l.getD i 0) n=0:=by simpa using h4
    rw[if_pos this] at hall;refine⟨i+1,⟨by omega,hall⟩,by omega,⟨⟨_,rfl,rfl⟩,trivial⟩,?_,rfl⟩;repeat' (first|exact trivial|exact⟨_,rfl,rfl⟩|constructor)
  ·conv=>whnf
   refine ak.int ?_;have hi':l.length<=i:=by simpa using h3
   rw[Fv,h,cond_false,hall,List.drop_eq_nil_of_le hi']; rfl
def guardE(p:aJ)(g:Bf):Int:=bC [cO g.message p.messages.length,dM (decide (g.Gh<1)||decide (g.Gh>100)) 1,dM (!(Ub g.bound)) 4]
def kJ(p:aJ):List Bf->Int
 |[]=>0
 |g::r=>if guardE p g=0 then kJ p r else guardE p g
def yM(p:aJ)(l:List Bf):Int:=if kJ p l=0 then dM (decide ((l.length:Int)>2)) 4 else kJ p l
theorem S.nO(p:aJ)(l:List Bf)(f:Bool)(hl:l.length<2^40):aj Tryz.prog 161 [.dat (.fQ p),.row 7 f (.rM l)] (.int (yM p l)):=by
 refine aj.of Bd.nO (by simp) rfl rfl ?_;refine aA.same [1,2,8,9] (fun i:Nat=>[(10,.int i)]) (fun i=>i<=l.length/\kJ p l=kJ p (l.drop i)) (fun i=>l.length-i) 0 rfl (by decide) rfl (fun _=>rfl) ⟨by omega,by simp⟩ ⟨⟨_,rfl,rfl⟩,trivial⟩ ?_;refine⟨rfl,?_⟩;rintro i ⟨hi,hall⟩;refine⟨fun h3=>?_,fun h3=>?_⟩
 ·have hi':i<l.length:=by simpa using h3
  rw[bY default hi'] at hall;simp only[kJ] at hall;refine .mk (by simp only[Rw.rng] at *; omega) ?_;refine ah.pure (S.bV (l.getD i default).message p.messages.length) rfl ?_;repeat(refine VC.mk (by first|exact id|(intro h; rw[h]; rfl)) ?_)
  refine ah.pure (S.bT (decide ((l.getD i default).Gh<1)||decide ((l.getD i default).Gh>100)) 1) rfl ?_;refine ah.pure (S.jR (l.getD i default).bound) rfl ?_;refine ah.pure (S.bT (!(Ub (l.getD i default).bound)) 4) rfl ?_;refine ah.pure (S.bK [cO (l.getD i default).message p.messages.length,dM (decide ((l.getD i default).Gh<1)||decide ((l.getD i default).Gh>100)) 1,dM (!(Ub (l.getD i default).bound)) 4] true (show 3<2^40 by decide)) rfl ?_;refine⟨fun h4=>?_,fun h4=>?_⟩
  ·conv=>whnf
   refine ak.int ?_;have h4':guardE p (l.getD i default)≠0:=Uh h4;rw[if_neg h4'] at hall;rw[yM,hall,if_neg h4']; rfl
  ·conv=>whnf
   refine .mk (by simp only[okI] at *; omega) ?_;conv=>whnf
   have h4':guardE p (l.getD i default)=0:=Dn h4;rw[if_pos h4'] at hall;refine⟨i+1,⟨by omega,hall⟩,by omega,⟨⟨_,rfl,rfl⟩,trivial⟩,?_,rfl⟩;repeat' (first|exact trivial|exact⟨_,rfl,rfl⟩|constructor)
 ·have hi':l.length<=i:=by simpa using h3
  rw[List.drop_eq_nil_of_le hi'] at hall;refine ah.pure (S.bT (decide ((l.length:Int)>2)) 4) rfl ?_;exact ak.int (by rw[yM,hall]; rfl)
structure vg(r:Rule):Prop where
 response:r.response.length<2^30
 guards:r.guards.length<2^30
 ex:r.ex.length<2^30
 all:r.all.length<2^30
 send:r.send.length<2^30
 left:r.left.length<2^30
 right:r.right.length<2^30
 parent:r.parent.length<2^30
def Fh(r:Rule):Bool :=
 decide ((r.response.length:Int)+r.guards.length+r.ex.length+r.all.length+r.send.length+r.left.length+r.right.length+r.parent.length>0)||r.je !=0||r.zQ !=0||r.pos !=0||r.direction !=0||r.read != -1||r.write != -1
def kV(r:Rule)(t:Int):Bool :=
 bif r.kind==1 then Fh {r with guards:=[],ex:=[],all:=[],send:=[],read:= -1,write:= -1} else
 bif r.kind==2 then(bif decide ((r.response.length:Int)>0) then true else Fh {r with je:=0,zQ:=0,response:=[],read:= -1,write:= -1}) else
 bif r.kind==3 then Fh {r with response:=[],read:= -1,write:= -1} else
 bif r.kind==4 then(bif t==4 then Fh {r with pos:=0,left:=[],right:=[],parent:=[]} else Fh {r with pos:=0,left:=[],right:=[]}) else
 bif r.kind==5 then Fh {r with je:=0,zQ:=0,direction:=0} else Fh r
theorem S.mg(r:Rule)(t:Int)(hs:vg r):aj Tryz.prog 160 [.dat (.rule r),.int t] (.bool (kV r t)):=by
 obtain⟨g1,g2,g3,g4,g5,g6,g7,g8⟩:=hs;refine aj.of Bd.mg (by simp) rfl rfl ?_;refine⟨fun h1=>?_,fun h1=>?_⟩
 ·conv=>whnf
  repeat(refine VC.mk (by first|exact id|(intro h; rw[h]; rfl)|(simp only[okI] at *; omega)) ?_)
  exact ak.bool (by simp[kV,Fh,h1])
 ·conv=>whnf
  refine⟨fun h2=>?_,fun h2=>?_⟩
  ·conv=>whnf
   refine⟨fun h6=>?_,fun h6=>?_⟩
   ·conv=>whnf
    exact ak.bool (by rw[kV,h1,h2,show decide ((r.response.length:Int)>0)=true from h6]; rfl)
   ·conv=>whnf
    repeat(refine VC.mk (by first|exact id|(intro h; rw[h]; rfl)|(simp only[okI] at *; omega)) ?_)
    exact ak.bool (by rw[kV,h1,h2,show decide ((r.response.length:Int)>0)=false from h6]; simp[Fh])
  ·conv=>whnf
   refine⟨fun h3=>?_,fun h3=>?_⟩
   ·conv=>whnf
    repeat(refine VC.mk (by first|exact id|(intro h; rw[h]; rfl)|(simp only[okI] at *; omega)) ?_)
    exact ak.bool (by simp[kV,Fh,h1,h2,h3])
   ·conv=>whnf
    refine⟨fun h4=>?_,fun h4=>?_⟩
    ·conv=>whnf
     refine⟨fun h7=>?_,fun h7=>?_⟩
     ·conv=>whnf
      repeat(refine VC.mk (by first|exact id|(intro h; rw[h]; rfl)|(simp only[okI] at *; omega)) ?_)
      exact ak.bool (by simp[kV,Fh,h1,h2,h3,h4,h7])
     ·conv=>whnf
      repeat(refine VC.mk (by first|exact id|(intro h; rw[h]; rfl)|(simp only[okI] at *; omega)) ?_)
      exact ak.bool (by simp[kV,Fh,h1,h2,h3,h4,h7])
    ·conv=>whnf
     refine⟨fun h5=>?_,fun h5=>?_⟩
     ·conv=>whnf
      repeat(refine VC.mk (by first|exact id|(intro h; rw[h]; rfl)|(simp only[okI] at *; omega)) ?_)
      exact ak.bool (by simp[kV,Fh,h1,h2,h3,h4,h5])
     ·conv=>whnf
      repeat(refine VC.mk (by first|exact id|(intro h; rw[h]; rfl)|(simp only[okI] at *; omega)) ?_)
      exact ak.bool (by simp[kV,Fh,h1,h2,h3,h4,h5])
def acF(h:Hz):Hz->Prop
 |[]=>True
 |(i,o)::r=>h.get i=o/\acF h r
theorem ZC{h:Hz}: ∀ {h0:Hz},acF h h0-> ∀ {i:Nat} {o:OV},h0.get i=some o->h.get i=some o:=by
 intro h0;induction h0 with
 |nil=>intro _ i o e; cases e
 |cons p r ih =>
  obtain⟨j,u⟩:=p;intro hs i o e;simp only[Hz.get] at e;cases hb:Nat.beq j i with
  |true=>rw[hb] at e; simp only[cond_true] at e; rw[<- Nat.eq_of_beq_eq_true hb,hs.1,e]
  |false=>rw[hb] at e; exact ih hs.2 e
def ZE:Hz->Bool
 |[]=>true
 |(_,some o)::r=>o.Dl&&ZE r
 |(_,none)::r=>ZE r
theorem Un: ∀ {h0:Hz},ZE h0=true-> ∀ {i:Nat} {o:OV},h0.get i=some o->o.Dl=true:=by
 intro h0;induction h0 with
 |nil=>intro _ i o e; cases e
 |cons p r ih =>
  obtain⟨j,u⟩:=p;intro hs i o e;simp only[Hz.get] at e;cases hb:Nat.beq j i with
  |true =>
   rw[hb] at e; simp only[cond_true] at e; subst e;simp only[ZE,Bool.and_eq_true] at hs; exact hs.1
  |false =>
   rw[hb] at e;refine ih ?_ e;cases u with
   |none=>exact hs
   |some o=>simp only[ZE,Bool.and_eq_true] at hs; exact hs.2
theorem OV.Uo{o:OV}(h:o.Dl=true):T.aQ (fun _=>False) o.au.l:=OV.Aj h
theorem iP.same{nx:Nat}{h0 h:Hz}{n:Nat}{post:T->Hp->Prop}{v:V}(hf:v.free=true)(hs:acF h h0)(hg:Jb nx h0=true)(hfr:ZE h0=true)(hp:post v.aH h0.ay):iP h0 n post v h:=by
 have hG:=Gt hg;have get: ∀ i ob,h0.ay i=some ob-> ∃ o,h0.get i=some o/\ob=o.au:=fun i ob e=>by
  simp only[Hz.ay,Option.map_eq_some_iff] at e;obtain⟨o,e1,e2⟩:=e;exact⟨o,e1,e2.symm⟩
 have hfree:=V.oZ v hf;refine⟨fun _=>False,id,v.aH,h0.ay,hp,?_,fun i ob hi=>?_,fun i j _ _ e=>e,T.aZ (fun _ h=>h.elim) _ (fJ hfree),fun i ob hi=>?_,fun i _ _=>rfl⟩
 ·rw[Vm]; exact aF _
 ·obtain⟨o,e1,rfl⟩:=get i ob hi;refine⟨o.au,aK (ZC hs e1),fun h=>h,rfl,rfl,?_,yU (hG i _ hi).2.2⟩;rw[vU _ (OV.Uo (Un hfr e1))]; exact dH _
 ·obtain⟨o,e1,rfl⟩:=get i ob hi;exact⟨.inl (by rw[hi]; rfl),T.aB (fun _ h=>h.elim) _ (OV.Uo (Un hfr e1))⟩
abbrev hRP(p:aJ)(r:Rule):Hz:=[(7,some (.box 86 19 (.dat (.rule r)))),(0,some (.box 27 11 (.dat (.fQ p))))]
theorem S.QG(p:aJ)(r x:Rule)(n:Nat):aO Tryz.prog 158 (V.aT [.dat (.rule x),.ptr 7 0 0]) (hRP p r).ay n (fun t hp=>t= .bool (x.name==r.name)/\hp=(hRP p r).ay):=by
 refine oU.of (nx:=8) Bd.oC (by simp) ⟨_,_,rfl,rfl⟩ rfl rfl ?_;exact iP.same (nx:=8) rfl ⟨rfl,rfl,trivial⟩ rfl rfl ⟨rfl,rfl⟩
def Hf(s:Str):List Rule->Nat->Int
 |[],_=> -1
 |x::r,i=>bif x.name==s then(i:Int) else Hf s r (i+1)
theorem S.ZF(p:aJ)(r:Rule)(l:List Rule)(f:Bool)(hl:l.length<2^30)(n:Nat):aO Tryz.prog 174 (V.aT [.row 19 f (.rules l),.fn 158 [.ptr 7 0 0]]) (hRP p r).ay n (fun t hp=>t= .int (Hf r.name l 0)/\hp=(hRP p r).ay):=by
 refine oU.of (nx:=8) Bd.gG (by simp) ⟨_,_,rfl,rfl⟩ rfl rfl ?_;refine aA.same [0,1,6,7] (fun i:Nat=>[(8,.int i)]) (fun i=>i<=l.length/\Hf r.name l 0=Hf r.name (l.drop i) i) (fun i=>l.length-i) 0 rfl (by decide) rfl (fun _=>rfl) ⟨by omega,by simp⟩ ⟨⟨_,rfl,rfl⟩,trivial⟩ ?_;refine⟨rfl,?_⟩;rintro i ⟨hi,hall⟩;refine⟨fun h3=>?_,fun h3=>?_⟩
 ·have hi':i<l.length:=by simpa using h3
  rw[bY default hi'] at hall;simp only[Hf] at hall;refine .mk (by simp only[Rw.rng] at *; omega) ?_;refine ah.heap (S.QG p r (l.getD i default) _) ?_;rintro t hp ⟨rfl,rfl⟩;refine⟨.bool _,hRP p r,rfl,rfl,?_⟩;refine⟨fun h4=>?_,fun h4=>?_⟩
  ·conv=>whnf
   rw[h4] at hall;exact iP.same (nx:=8) rfl ⟨rfl,rfl,trivial⟩ rfl rfl ⟨by rw[hall]; rfl,rfl⟩
  ·conv=>whnf
   refine .mk (by simp only[okI] at *; omega) ?_;conv=>whnf
   rw[h4] at hall;refine⟨i+1,⟨by omega,hall⟩,by omega,⟨⟨_,rfl,rfl⟩,trivial⟩,?_,rfl⟩;repeat' (first|exact trivial|exact⟨_,rfl,rfl⟩|constructor)
 ·conv=>whnf
  have hi':l.length<=i:=by simpa using h3
  rw[List.drop_eq_nil_of_le hi'] at hall;exact iP.same (nx:=8) rfl ⟨rfl,rfl,trivial⟩ rfl rfl ⟨by rw[hall]; rfl,rfl⟩
theorem acG{s:Str}{l:List Rule}{i:Nat}:decide (0<=Hf s l i)=l.any fun x=>x.name==s:=by
 have: ∀ {l:List Rule} {i:Nat},0<=Hf s l i↔(l.any fun x=>x.name==s)=true:=by
  intro l;induction l with
  |nil=>intro i; simp[Hf]
  |cons x r ih =>
   intro i;rw[List.any_cons,Bool.or_eq_true,<- ih (i:=i+1)];show(0:Int)<=(bif x.name==s then(i:Int) else Hf s r (i+1))↔_;generalize (x.name==s)=b;cases b<;>simp
 rw[Bool.eq_iff_iff,decide_eq_true_eq]; exact this
theorem S.QH(p:aJ)(r:Rule)(l:List Rule)(f:Bool)(hl:l.length<2^30)(n:Nat):aO Tryz.prog 157 (V.aT [.row 19 f (.rules l),.fn 158 [.ptr 7 0 0]]) (hRP p r).ay n (fun t hp=>t= .bool (l.any fun x=>x.name==r.name)/\hp=(hRP p r).ay):=by
 refine oU.of (nx:=8) Bd.fK (by simp) ⟨_,_,rfl,rfl⟩ rfl rfl ?_;refine ah.heap (S.ZF p r l f hl _) ?_;rintro t hp ⟨rfl,rfl⟩;refine⟨.int _,hRP p r,rfl,rfl,?_⟩;exact iP.same (nx:=8) rfl ⟨rfl,rfl,trivial⟩ rfl rfl ⟨by rw[<- acG (i:=0)]; rfl,rfl⟩
theorem ah.mkRow{P:Program}{f:FuncId}{args:List V}{h:Hz}{n ty k:Nat}{r:Rw}{K:V->Hz->Prop}{KW:Nat->V->Hz->Prop}(H:BL P f (V.aT args) (fun n=>.own n) (some ⟨ty,k,r.aT⟩))(hK:K (.own n) ((n,some (.row ty k r []))::h)):ah P false none f args h n K KW :=
 ah.heap (BL.frame H _ _) (by rintro t hp ⟨rfl,rfl⟩; exact⟨.own n,_,rfl,by rw[dA]; simp[jA,OV.au,V.aT],hK⟩)
theorem S.Concat(a b c:List Str)(n:Nat)(h0:0<a.length)(ha:a.length<2^20)(hb:b.length<2^20)(hc:c.length<2^20) :
  aO Tryz.prog 154 (V.aT [.Iq 0 false [.row 0 false (.strs a),.row 0 false (.strs b),.row 0 false (.strs c)]]) no n (fun t hp=>t= .own n/\hp=Hz.ay [(n,some (.row 9 0 (.strs (a++b++c)) []))]):=by
 refine oU.of (nx:=0) (h0:=[]) Bd.jD (by simp) ⟨_,_,rfl,rfl⟩ rfl rfl ?_;refine aA.times 4 rfl ?_;refine Fork.mk (fun _=>?_) (fun q=>absurd (q.symm.trans (rfl)) Bool.false_ne_true);repeat(refine VC.mk (by first|(omega)|(simp only[okI] at *; omega)) ?_)
 refine Fork.mk (fun q=>absurd (q.symm.trans (decide_eq_false (by omega))).symm Bool.false_ne_true) (fun _=>?_);refine .mk (by simp only[okI] at *; omega) ?_;refine Fork.mk (fun _=>?_) (fun q=>absurd (q.symm.trans (rfl)) Bool.false_ne_true);repeat(refine VC.mk (by first|(omega)|(simp only[okI] at *; omega)) ?_)
 refine Fork.mk (fun q=>absurd (q.symm.trans (decide_eq_false (by omega))).symm Bool.false_ne_true) (fun _=>?_);refine .mk (by simp only[okI] at *; omega) ?_;refine Fork.mk (fun _=>?_) (fun q=>absurd (q.symm.trans (rfl)) Bool.false_ne_true);repeat(refine VC.mk (by first|(omega)|(simp only[okI] at *; omega)) ?_)
 refine Fork.mk (fun q=>absurd (q.symm.trans (decide_eq_false (by omega))).symm Bool.false_ne_true) (fun _=>?_);refine .mk (by simp only[okI] at *; omega) ?_;refine Fork.mk (fun q=>absurd (q.symm.trans (rfl)).symm Bool.false_ne_true) (fun _=>?_);conv=>whnf
 have e:(0+(a.length:Int)+b.length+c.length)=((a.length+b.length+c.length:Nat):Int):=by omega
 rw[e];refine ah.mkRow (r:=.strs []) (S.Grow (a.length+b.length+c.length) (by omega) (by omega)) ?_;refine aA.times 4 rfl ?_;refine Fork.mk (fun _=>?_) (fun q=>absurd (q.symm.trans (rfl)) Bool.false_ne_true);repeat(refine VC.mk (by first|(omega)|(simp only[jl,jF,Rw.len,List.length_nil]; omega)|(simp only[okI] at *; omega)) ?_)
 refine Fork.mk (fun _=>?_) (fun q=>absurd (q.symm.trans (rfl)) Bool.false_ne_true);repeat(refine VC.mk (by first|(omega)|(simp only[jl,jF,Rw.len,List.length_append,List.length_nil]; omega)|(simp only[okI] at *; omega)) ?_)
 refine Fork.mk (fun _=>?_) (fun q=>absurd (q.symm.trans (rfl)) Bool.false_ne_true);repeat(refine VC.mk (by first|(omega)|(simp only[jl,jF,Rw.len,List.length_append,List.length_nil]; omega)|(simp only[okI] at *; omega)) ?_)
 refine Fork.mk (fun q=>absurd (q.symm.trans (rfl)).symm Bool.false_ne_true) (fun _=>?_);refine iP.one (c:=n) (o:=.row 9 0 (.strs (a++b++c)) []) (t:=.own n) rfl rfl rfl nofun (.inr rfl) rfl (.eq rfl) ⟨rfl,rfl⟩
theorem S.aeE(a b c:List Str)(h0:0<a.length)(ha:a.length<2^20)(hb:b.length<2^20)(hc:c.length<2^20) :
  BL Tryz.prog 154 (V.aT [.Iq 0 false [.row 0 false (.strs a),.row 0 false (.strs b),.row 0 false (.strs c)]]) (fun n=>.own n) (some ⟨9,0,(Rw.strs (a++b++c)).aT⟩):=by
 refine⟨rfl,fun _=>rfl,(fun ob h=>by cases h; rw[fU]; intro t ht; obtain⟨x,_,rfl⟩:=List.mem_map.1 ht; rfl),(fun ob h=>by cases h; exact fun e=>absurd e (by decide:(0:Nat)≠iK)),fun n=>(S.Concat a b c n h0 ha hb hc).mono ?_⟩;rintro t hp ⟨rfl,rfl⟩;refine⟨rfl,?_⟩;rw[dA]; simp[jA,OV.au,V.aT]; rfl
theorem ah.aeF{P:Program}{f:FuncId}{args:List V}{ts:List T}{h:Hz}{n ty k:Nat}{r:Rw}{K:V->Hz->Prop}{KW:Nat->V->Hz->Prop}(H:BL P f ts (fun n=>.own n) (some ⟨ty,k,r.aT⟩))(hs:T.dD (fun _=>True) h.ay ts (V.aT args))(hh:T.xK r.aT=true)(hK:K (.own n) ((n,some (.row ty k r []))::h)):ah P false none f args h n K KW :=
 ⟨.inl (BL.lend H hs rfl (fun _ e=>by cases e; exact hh) ⟨.own n,_,rfl,by rw[dA]; simp[jA,OV.au,V.aT],(fun e=>by cases e),hK⟩)⟩
theorem ahj{h:Hz}{j ty:Nat}{Z:Nat->Prop}{l:List V}(hz:Z j)(q:h.get j=some (.row ty 0 .nil l))(hf:V.bW l=true):T.sub Z h.ay (V.Iq 0 false l).aH (V.own j).aH:=by
 show T.sub Z h.ay (.sl 0 false (V.aT l)) (.own j);simp only[T.sub];exact⟨trivial,hz,V.iI l hf,by decide,ty,by rw[aK q]; rfl⟩
theorem ZG{l:List Str}:T.xK (Rw.strs l).aT=true:=by
 show T.xK (l.map eS)=true;induction l with
 |nil=>rfl
 |cons s r ih=>simp only[List.map_cons,T.xK,ih]; rfl
theorem ahk{h:Hz}{j i ty:Nat}{Z:Nat->Prop}{l:List Str}(hz:Z j)(q:h.get j=some (.row ty 0 (.strs l) []))(hi:i<=l.length):T.sub Z h.ay (V.row 0 false (.strs (l.take i))).aH (V.qw j 0 i).aH:=by
 show T.sub Z h.ay (.sl 0 false ((l.take i).map eS)) (.qw j 0 i);simp only[T.sub];refine⟨trivial,hz,?_,by decide,ty,l.map eS,?_,by simpa using hi,by simp[List.map_take]⟩
 ·rw[fU]; intro t ht; obtain⟨x,_,rfl⟩:=List.mem_map.1 ht; rfl
 ·rw[aK q]; simp[OV.au,Rw.aT,V.aT]
def allNames(p:aJ):List Str:=p.states++p.messages++p.values
def Qy(l:List Str)(i:Nat):Bool:= !(validName (l.getD i []))||(l.take i).any fun x=>l.getD i []==x
def AB(p:aJ):Int:=bif (List.range (allNames p).length).any (Qy (allNames p)) then 2 else 0
theorem yY{n:Nat}{f:Nat->Bool}:(List.range n).any f=true↔ ∃ i,i<n/\f i=true:=by
 simp[List.any_eq_true]
theorem S.pF(p:aJ)(h0:0<p.states.length)(h1:p.states.length<2^20)(h2:p.messages.length<2^20)(h3:p.values.length<2^20):aj Tryz.prog 132 [.dat (.fQ p)] (.int (AB p)):=by
 have hlen:(allNames p).length<2^30:=by simp only[allNames,List.length_append]; omega
 refine aj.of Bd.pF (by simp) rfl rfl ?_;refine ah.aeF (r:=.strs (allNames p)) (S.aeE p.states p.messages p.values h0 h1 h2 h3) (And.intro (ahj (ty:=22) trivial rfl rfl) trivial) ZG ?_;refine aA.same [3,14,15] (fun i:Nat=>[(16,.int i)]) (fun i=>i<=(allNames p).length/\(List.range i).any (Qy (allNames p))=false) (fun i=>(allNames p).length-i) 0 rfl (by decide) rfl (fun _=>rfl) ⟨Nat.zero_le _,rfl⟩ ⟨⟨_,rfl,rfl⟩,trivial⟩ ?_;refine⟨rfl,?_⟩;rintro i ⟨hi,hall⟩;refine⟨fun h4=>?_,fun h4=>?_⟩
 ·have hi':i<(allNames p).length:=by simpa using h4
  repeat(refine VC.mk (by simp only[Rw.rng] at *; omega) ?_)
  refine ah.pure (S.gK ((allNames p).getD i [])) rfl ?_;repeat(refine VC.mk (by first|exact fun h=>⟨h,h⟩|(intro h; (repeat' apply And.intro)<;>first|exact h|omega|(simp only[Rw.qH]; omega)|(simp only[Rw.rng]; omega))) ?_)
  refine ah.aeH (fun _=>S.slices_Contains_string ((allNames p).take i) ((allNames p).getD i []) false (by rw[List.length_take]; omega)) (fun _=>And.intro (ahk (ty:=9) trivial rfl (by omega)) (And.intro (aF _) trivial)) rfl rfl ?_;refine .mk (by intro h; rw[h]; rfl) ?_;refine⟨fun h5=>?_,fun h5=>?_⟩
  ·conv=>whnf
   refine ak.int ?_;rw[AB,yY.2 ⟨i,hi',h5⟩]; rfl
  ·conv=>whnf
   refine .mk (by simp only[okI] at *; omega) ?_;refine⟨i+1,⟨by omega,?_⟩,by omega,⟨⟨_,rfl,rfl⟩,trivial⟩,?_,rfl⟩
   ·rw[List.range_succ,List.any_append,hall];simp only[List.any_cons,List.any_nil,Bool.or_false,Bool.false_or]; exact h5
   ·repeat' (first|exact trivial|exact⟨_,rfl,rfl⟩|constructor)
 ·have hi':(allNames p).length<=i:=by simpa using h4
  have e:i=(allNames p).length:=Nat.le_antisymm hi hi';subst e;exact ak.int (by rw[AB,hall]; rfl)
theorem ah.qp{P:Program}{f:FuncId}{args:List V}{h:Hz}{hp0:Hp}{n:Nat}{K:V->Hz->Prop}{KW:Nat->V->Hz->Prop}{post:T->Hp->Prop}(S:aO P f (V.aT args) hp0 n post)(e:h.ay=hp0)(hK: ∀ t hp,post t hp-> ∃ v h',t=v.aH/\hp=Hz.ay h'/\K v h'):ah P false none f args h n K KW:=by
 subst e; exact ah.heap S hK
theorem Ur{i:Nat}{a b:Option OV}{r:Hz}:Hz.ay ((i,a)::(i,b)::r)=Hz.ay ((i,a)::r):=funext fun j=>by
 simp only[Hz.ay,Hz.get]; cases Nat.beq i j<;>rfl
structure dW(p:aJ):Prop where
 states:p.states.length<2^20
 messages:p.messages.length<2^20
 values:p.values.length<2^20
 bZ:p.bZ.length<2^30
 initial:p.initial.length<2^30
 leader:p.leader.length<2^30
 rules:p.rules.length<2^30
 rule: ∀ i,vg (p.rules.getD i default)
 rM:(p.rules.flatMap Rule.guards).length<2^30
def tH(p:aJ)(i:Nat):Bool:= !(validName (p.rules.getD i default).name)||(p.rules.take i).any fun x=>x.name==(p.rules.getD i default).name
def rU(p:aJ)(i:Nat):Bool:= !(vI (p.rules.getD i default).kind p.topology)||kV (p.rules.getD i default) p.topology
def yc(p:aJ)(r:Rule):Int:=bC [cO r.fr p.states.length,cO r.to p.states.length]
def acr(p:aJ)(r:Rule):Bool:=decide (r.pos<0)||decide (r.pos>2)||(r.pos !=0&&p.topology==3)
def gW(p:aJ)(i:Nat):Int :=
 let r:=p.rules.getD i default
 let n:Int:=p.states.length
 bif tH p i then 2 else bif rU p i then 6 else bif yc p r !=0 then yc p r else
 bif r.kind==1 then bC [yM p r.guards,iW r.ex n,iW r.all n,jT p r.read,jT p r.write,iW r.send p.messages.length] else
 bif r.kind==2 then bC [cO r.je n,cO r.zQ n,jT p r.read,jT p r.write] else
 bif r.kind==3 then bC [Fv r.response n,jT p r.read,jT p r.write] else
 bif r.kind==4 then bC [iW r.left n,iW r.right n,iW r.parent n,dM (acr p r) 1] else
 bif p.topology==4 then bC [cO r.je n,cO r.zQ n,dM (decide (r.direction<3)||decide (r.direction>4)) 1]
 else bC [cO r.je n,cO r.zQ n,dM (decide (r.direction<1)||decide (r.direction>2)) 1]
theorem S.kE(p:aJ)(i:Nat)(hi:i<p.rules.length)(hp:dW p):aj Tryz.prog 134 [.dat (.fQ p),.int i] (.int (gW p i)):=by
 have hr:=hp.rule i;have hp1:=hp.rules;have hp2:=hp.states;have hp3:=hp.messages;refine aj.of Bd.kE (by simp) rfl rfl ?_;repeat(refine VC.mk (by first|(simp only[Rw.qH]; omega)|(simp only[Rw.rng] at *; omega)) ?_)
 refine ah.qp (S.QH p (p.rules.getD i default) (p.rules.take i) false (by rw[List.length_take]; omega) _) Ur ?_;rintro t hp' ⟨rfl,rfl⟩;refine⟨.bool _,hRP p (p.rules.getD i default),rfl,rfl,?_⟩;refine ah.pure (S.gK (p.rules.getD i default).name) rfl ?_;refine .mk (by intro h; rw[h]; rfl) ?_;refine⟨fun h1=>?_,fun h1=>?_⟩
 ·conv=>whnf
  exact ak.int (by rw[gW,show tH p i=true from h1]; rfl)
 ·conv=>whnf
  refine ah.pure (S.qP (p.rules.getD i default).kind p.topology) rfl ?_;repeat(refine VC.mk (by first|exact id|exact fun h=>⟨h,h⟩) ?_)
  refine ah.fV (fun _=>S.mg (p.rules.getD i default) p.topology hr) rfl ?_;refine .mk (by intro h; rw[h]; rfl) ?_;refine⟨fun h2=>?_,fun h2=>?_⟩
  ·conv=>whnf
   exact ak.int (by rw[gW,show tH p i=false from h1,show rU p i=true from h2]; rfl)
  ·conv=>whnf
   refine ah.pure (S.bV (p.rules.getD i default).fr p.states.length) rfl ?_;refine ah.pure (S.bV (p.rules.getD i default).to p.states.length) rfl ?_;refine ah.pure (S.bK [cO (p.rules.getD i default).fr p.states.length,cO (p.rules.getD i default).to p.states.length] true (show 2<2^40 by decide)) rfl ?_;refine⟨fun h3=>?_,fun h3=>?_⟩
   ·conv=>whnf
    exact ak.int (by rw[gW,show tH p i=false from h1,show rU p i=false from h2,show(yc p (p.rules.getD i default) !=0)=true from h3]; rfl)
   ·conv=>whnf
    refine⟨fun h4=>?_,fun h4=>?_⟩
    ·conv=>whnf
     refine ah.pure (S.nO p (p.rules.getD i default).guards false (by have:=hr.guards; omega)) rfl ?_;refine ah.pure (S.eP (p.rules.getD i default).ex p.states.length false (by have:=hr.ex; omega)) rfl ?_;refine ah.pure (S.eP (p.rules.getD i default).all p.states.length false (by have:=hr.all; omega)) rfl ?_;refine ah.pure (S.gB p (p.rules.getD i default).read) rfl ?_;refine ah.pure (S.gB p (p.rules.getD i default).write) rfl ?_;refine ah.pure (S.eP (p.rules.getD i default).send p.messages.length false (by have:=hr.send; omega)) rfl ?_;refine ah.pure (S.bK [yM p (p.rules.getD i default).guards,iW (p.rules.getD i default).ex p.states.length,iW (p.rules.getD i default).all p.states.length,jT p (p.rules.getD i default).read,jT p (p.rules.getD i default).write,iW (p.rules.getD i default).send p.messages.length] true (show 6<2^40 by decide)) rfl ?_;exact ak.int (by rw[gW,show tH p i=false from h1,show rU p i=false from h2,show(yc p (p.rules.getD i default) !=0)=false from h3,h4]; rfl)
    ·conv=>whnf
     refine⟨fun h5=>?_,fun h5=>?_⟩
     ·conv=>whnf
      refine ah.pure (S.bV (p.rules.getD i default).je p.states.length) rfl ?_;refine ah.pure (S.bV (p.rules.getD i default).zQ p.states.length) rfl ?_;refine ah.pure (S.gB p (p.rules.getD i default).read) rfl ?_;refine ah.pure (S.gB p (p.rules.getD i default).write) rfl ?_;refine ah.pure (S.bK [cO (p.rules.getD i default).je p.states.length,cO (p.rules.getD i default).zQ p.states.length,jT p (p.rules.getD i default).read,jT p (p.rules.getD i default).write] true (show 4<2^40 by decide)) rfl ?_;exact ak.int (by rw[gW,show tH p i=false from h1,show rU p i=false from h2,show(yc p (p.rules.getD i default) !=0)=false from h3,h4,h5]; rfl)
     ·conv=>whnf
      refine⟨fun h6=>?_,fun h6=>?_⟩
      ·conv=>whnf
       refine ah.pure (S.kF (p.rules.getD i default).response p.states.length false (by have:=hr.response; omega)) rfl ?_;refine ah.pure (S.gB p (p.rules.getD i default).read) rfl ?_;refine ah.pure (S.gB p (p.rules.getD i default).write) rfl ?_;refine ah.pure (S.bK [Fv (p.rules.getD i default).response p.states.length,jT p (p.rules.getD i default).read,jT p (p.rules.getD i default).write] true (show 3<2^40 by decide)) rfl ?_;exact ak.int (by rw[gW,show tH p i=false from h1,show rU p i=false from h2,show(yc p (p.rules.getD i default) !=0)=false from h3,h4,h5,h6]; rfl)
      ·conv=>whnf
       refine⟨fun h7=>?_,fun h7=>?_⟩
       ·conv=>whnf
        repeat(refine VC.mk (by first|exact id|(intro h; rw[h]; rfl)|(intro h; simp_all; done)) ?_)
        refine ah.pure (S.eP (p.rules.getD i default).left p.states.length false (by have:=hr.left; omega)) rfl ?_;refine ah.pure (S.eP (p.rules.getD i default).right p.states.length false (by have:=hr.right; omega)) rfl ?_;refine ah.pure (S.eP (p.rules.getD i default).parent p.states.length false (by have:=hr.parent; omega)) rfl ?_;refine ah.pure (S.bT (acr p (p.rules.getD i default)) 1) rfl ?_;refine ah.pure (S.bK [iW (p.rules.getD i default).left p.states.length,iW (p.rules.getD i default).right p.states.length,iW (p.rules.getD i default).parent p.states.length,dM (acr p (p.rules.getD i default)) 1] true (show 4<2^40 by decide)) rfl ?_;exact ak.int (by rw[gW,show tH p i=false from h1,show rU p i=false from h2,show(yc p (p.rules.getD i default) !=0)=false from h3,h4,h5,h6,h7]; rfl)
       ·conv=>whnf
        refine⟨fun h8=>?_,fun h8=>?_⟩
        ·conv=>whnf
         refine ah.pure (S.bV (p.rules.getD i default).je p.states.length) rfl ?_;refine ah.pure (S.bV (p.rules.getD i default).zQ p.states.length) rfl ?_;repeat(refine VC.mk (by first|exact id|exact fun h=>⟨h,h⟩|(intro h; rw[h]; rfl)) ?_)
         refine ah.pure (S.bT (decide ((p.rules.getD i default).direction<3)||decide ((p.rules.getD i default).direction>4)) 1) rfl ?_;refine ah.pure (S.bK [cO (p.rules.getD i default).je p.states.length,cO (p.rules.getD i default).zQ p.states.length,dM (decide ((p.rules.getD i default).direction<3)||decide ((p.rules.getD i default).direction>4)) 1] true (show 3<2^40 by decide)) rfl ?_;exact ak.int (by rw[gW,show tH p i=false from h1,show rU p i=false from h2,show(yc p (p.rules.getD i default) !=0)=false from h3,h4,h5,h6,h7,h8]; rfl)
        ·conv=>whnf
         refine ah.pure (S.bV (p.rules.getD i default).je p.states.length) rfl ?_;refine ah.pure (S.bV (p.rules.getD i default).zQ p.states.length) rfl ?_;repeat(refine VC.mk (by first|exact id|exact fun h=>⟨h,h⟩|(intro h; rw[h]; rfl)) ?_)
         refine ah.pure (S.bT (decide ((p.rules.getD i default).direction<1)||decide ((p.rules.getD i default).direction>2)) 1) rfl ?_;refine ah.pure (S.bK [cO (p.rules.getD i default).je p.states.length,cO (p.rules.getD i default).zQ p.states.length,dM (decide ((p.rules.getD i default).direction<1)||decide ((p.rules.getD i default).direction>2)) 1] true (show 3<2^40 by decide)) rfl ?_;exact ak.int (by rw[gW,show tH p i=false from h1,show rU p i=false from h2,show(yc p (p.rules.getD i default) !=0)=false from h3,h4,h5,h6,h7,h8]; rfl)
def yL(g:Bf):List Bf->Nat->Int
 |[],_=> -1
 |x::r,i=>bif g==x then(i:Int) else yL g r (i+1)
theorem Uf{g:Bf}{l:List Bf}{i:Nat}:decide (0<=yL g l i)=l.any fun x=>g==x:=by
 have: ∀ {l:List Bf} {i:Nat},0<=yL g l i↔(l.any fun x=>g==x)=true:=by
  intro l;induction l with
  |nil=>intro i; simp[yL]
  |cons x r ih =>
   intro i;rw[List.any_cons,Bool.or_eq_true,<- ih (i:=i+1)];show(0:Int)<=(bif g==x then(i:Int) else yL g r (i+1))↔_;generalize (g==x)=b;cases b<;>simp
 rw[Bool.eq_iff_iff,decide_eq_true_eq]; exact this
theorem S.acH(l:List Bf)(g:Bf)(f:Bool)(hl:l.length<2^40):aj Tryz.prog 175 [.row 7 f (.rM l),.dat (.Ux g)] (.int (yL g l 0)):=by
 refine aj.of Bd.fA (by simp) rfl rfl ?_;refine aA.same [0,3,6,7] (fun i:Nat=>[(8,.int i)]) (fun i=>i<=l.length/\yL g l 0=yL g (l.drop i) i) (fun i=>l.length-i) 0 rfl (by decide) rfl (fun _=>rfl) ⟨by omega,by simp⟩ ⟨⟨_,rfl,rfl⟩,trivial⟩ ?_;refine⟨rfl,?_⟩;rintro i ⟨hi,hall⟩;refine⟨fun h3=>?_,fun h3=>?_⟩
 ·have hi':i<l.length:=by simpa using h3
  rw[bY default hi'] at hall;simp only[yL] at hall;refine .mk (by simp only[Rw.rng] at *; omega) ?_;refine⟨fun h4=>?_,fun h4=>?_⟩
  ·conv=>whnf
   refine ak.int ?_;have h4':(g==l.getD i default)=true:=h4;rw[hall,h4']; rfl
  ·conv=>whnf
   refine .mk (by simp only[okI] at *; omega) ?_;refine⟨i+1,⟨by omega,?_⟩,by omega,⟨⟨_,rfl,rfl⟩,trivial⟩,?_,rfl⟩
   ·have h4':(g==l.getD i default)=false:=h4;rw[hall,h4']; rfl
   ·repeat' (first|exact trivial|exact⟨_,rfl,rfl⟩|constructor)
 ·conv=>whnf
  refine ak.int ?_;have hi':l.length<=i:=by simpa using h3
  rw[hall,List.drop_eq_nil_of_le hi']; rfl
theorem S.Us(l:List Bf)(g:Bf)(f:Bool)(hl:l.length<2^40):aj Tryz.prog 164 [.row 7 f (.rM l),.dat (.Ux g)] (.bool (l.any fun x=>g==x)):=by
 refine aj.of Bd.eF (by simp) rfl rfl ?_;refine ah.pure (S.acH l g f hl) rfl ?_;exact ak.bool Uf.symm
theorem acn{h:Hz}{j:Nat}{Z:Nat->Prop}{l:List Bf}(hz:Z j)(q:h.get j=some (.row 148 7 (.rM l) [])):T.sub Z h.ay (V.row 7 false (.rM l)).aH (V.own j).aH:=by
 show T.sub Z h.ay (.sl 7 false (l.map RZ)) (.own j);simp only[T.sub];refine⟨trivial,hz,?_,by decide,148,?_⟩
 ·rw[fU]; intro t ht; obtain⟨x,_,rfl⟩:=List.mem_map.1 ht; rfl
 ·have:=aK q;rw[this]; simp[OV.au,Rw.aT,V.aT]
theorem Di{α β:Type}{f:β->α->β}{b:β}{l:List α}{i:Nat}{d:α}(h:i<l.length):(l.take (i+1)).foldl f b=f ((l.take i).foldl f b) (l.getD i d):=by
 rw[List.take_add_one,List.foldl_append];simp[List.getElem?_eq_getElem h]
theorem ak.ahg{h:Hz}{j:Nat}{l:List Bf}(q:h.get j=some (.row 148 7 (.rM l) [])):ak (.row 7 false (.rM l)) (.own j) h:=⟨acn trivial q⟩
def Ju(acc:List Bf)(g:Bf):List Bf:=bif acc.any (fun x=>g==x) then acc else acc++[g]
def zM(l:List Rule):List Bf:=(l.flatMap Rule.guards).foldl Ju []
theorem acI{acc:List Bf}{g:Bf}:(Ju acc g).length<=acc.length+1:=by
 unfold Ju; cases acc.any (fun x=>g==x)<;>simp
theorem Ut: ∀ {l acc:List Bf},(l.foldl Ju acc).length<=acc.length+l.length:=by
 intro l;induction l with
 |nil=>intro acc; simp
 |cons g r ih =>
  intro acc;have:=ih (acc:=Ju acc g);have h2:=acI (acc:=acc) (g:=g);simp only[List.foldl_cons,List.length_cons]; omega
abbrev rowT(l:List Bf):OV:=.row 148 7 (.rM l) []
def zN(p:aJ)(i k:Nat):List Bf:=((p.rules.getD i default).guards.take k).foldl Ju (zM (p.rules.take i))
theorem Ug(p:aJ)(hp:dW p)(i k:Nat)(_hi:i<p.rules.length):(zN p i k).length<2^31:=by
 have h1:=Ut (l:=(p.rules.getD i default).guards.take k) (acc:=zM (p.rules.take i));have h2:=Ut (l:=(p.rules.take i).flatMap Rule.guards) (acc:=[]);have h3:=(hp.rule i).guards;have h4:((p.rules.take i).flatMap Rule.guards).length<=(p.rules.flatMap Rule.guards).length:=by
  conv=>rhs; rw[<- List.take_append_drop i p.rules,List.flatMap_append,List.length_append]
  omega
 have h5:=hp.rM;have h6:((p.rules.getD i default).guards.take k).length<=(p.rules.getD i default).guards.length:=by simp[List.length_take]; omega
 unfold zN;unfold zM at h1 ⊢;simp only[List.length_nil,Nat.zero_add] at h2;omega
theorem O7(p:aJ){i:Nat}(hi:i<p.rules.length):zM (p.rules.take (i+1))=zN p i (p.rules.getD i default).guards.length:=by
 unfold zN;rw[List.take_of_length_le (Nat.le_refl _)];unfold zM;rw[List.take_add_one,List.flatMap_append,List.foldl_append];simp[List.getElem?_eq_getElem hi]
theorem S.jH(p:aJ)(hp:dW p):aj Tryz.prog 135 [.dat (.fQ p)] (.row 7 false (.rM (zM p.rules))):=by
 have hp1:=hp.rules;refine aj.of Bd.jH (by simp) rfl rfl ?_;refine aA.nil 3 148 7 (by rfl) rfl rfl rfl ?_;refine aA.objs 1 [9,10] (fun i:Nat=>[(11,.int i),(3,.own 0)]) (fun i=>[(0,rowT (zM (p.rules.take i)))]) (fun i=>i<=p.rules.length) (fun i=>p.rules.length-i) 0 [7] rfl (by decide) (fun _=>rfl) (Nat.zero_le _) ?_ ?_ ?_
 ·exact(sR rfl)
 ·exact⟨dQ rfl rfl,trivial⟩
 refine⟨(sR rfl),rfl,?_⟩;rintro i hi;refine⟨fun h3=>?_,fun h3=>?_⟩
 ·have hi':i<p.rules.length:=by simpa using h3
  refine .mk (by simp only[Rw.rng] at *; first|omega|(simp_all; done)|(simp_all; omega)) ?_;refine aA.objs 1 [9,10,11,16,17] (fun k:Nat=>[(18,.int k),(3,.own 0)]) (fun k=>[(0,rowT (zN p i k))]) (fun k=>k<=(p.rules.getD i default).guards.length) (fun k=>(p.rules.getD i default).guards.length-k) 0 [0] rfl (by decide) (fun _=>rfl) (Nat.zero_le _) ?_ ?_ ?_
  ·exact(sR rfl)
  ·exact⟨dQ rfl rfl,trivial⟩
  refine⟨(sR rfl),rfl,?_⟩;rintro k hk;have hacc:=Ug p hp i k hi';have hg:=(hp.rule i).guards;refine⟨fun h4=>?_,fun h4=>?_⟩
  ·have hk':k<(p.rules.getD i default).guards.length:=by simpa using h4
   have hst:zN p i (k+1)=Ju (zN p i k) ((p.rules.getD i default).guards.getD k default):=Di hk';refine .mk (by simp only[Rw.rng] at *; first|omega|(simp_all; done)|(simp_all; omega)) ?_;refine ah.lend (S.Us (zN p i k) ((p.rules.getD i default).guards.getD k default) false (by omega)) (And.intro (acn trivial rfl) (And.intro (aF _) trivial)) rfl rfl ?_;refine⟨fun h5=>?_,fun h5=>?_⟩
   ·conv=>whnf
    repeat(refine VC.mk (by first|(show((zN p i k).length+(0+1))*48<=140737488355328/\(zN p i k).length+(0+1)<=1152921504606846976; omega)|(simp only[okI] at *; first|omega|(simp_all; done)|(simp_all; omega))) ?_)
    have h5':((zN p i k).any fun x=>(p.rules.getD i default).guards.getD k default==x)=false:=by simpa using h5
    refine⟨k+1,[13],by omega,by omega,(sR rfl),(sR rfl),⟨rfl,nofun,rfl,rfl,rfl,_,rfl,rfl,rfl,dU.of_eq ?_⟩,trivial⟩;rw[hst,Ju,h5'];rfl
   ·conv=>whnf
    refine .mk (by simp only[okI] at *; first|omega|(simp_all; done)|(simp_all; omega)) ?_;conv=>whnf
    have h5':((zN p i k).any fun x=>(p.rules.getD i default).guards.getD k default==x)=true:=by simpa using h5
    refine⟨k+1,[0],by omega,by omega,(sR rfl),(sR rfl),⟨rfl,nofun,rfl,rfl,rfl,_,rfl,rfl,rfl,dU.of_eq ?_⟩,trivial⟩;rw[hst,Ju,h5']; rfl
  ·have hk':(p.rules.getD i default).guards.length<=k:=by simpa using h4
   have e:k=(p.rules.getD i default).guards.length:=Nat.le_antisymm hk hk';subst e;refine .mk (by simp only[okI] at *; first|omega|(simp_all; done)|(simp_all; omega)) ?_;refine⟨i+1,[0],by omega,by omega,(sR rfl),(sR rfl),⟨rfl,nofun,rfl,rfl,rfl,_,rfl,rfl,rfl,dU.of_eq ?_⟩,trivial⟩;rw[O7 p hi']
 ·have hi':p.rules.length<=i:=by simpa using h3
  rw[List.take_of_length_le hi'];exact ak.ahg rfl
def vH(p:aJ):Bool:=decide (p.topology<1)||decide (p.topology>4)||decide (p.fault<0)||decide (p.fault>3)
def wM(p:aJ):Bool:=decide ((p.states.length:Int)>6)||decide ((p.messages.length:Int)>3)||decide ((p.values.length:Int)>3)||decide ((p.bZ.length:Int)>4)||decide ((p.rules.length:Int)>8)
def Ui(p:aJ):Bool:=(!(p.topology==1)&&(decide ((p.messages.length:Int)>0)||decide ((p.values.length:Int)>0)||decide ((p.bZ.length:Int)>0)||p.fault !=0))||((p.topology==1)&&decide ((p.leader.length:Int)>0))
def yZ(p:aJ):Int:=bC [iW p.initial p.states.length,dM ((p.initial.length:Int)==0) 1,iW p.leader p.states.length]
def Eu(p:aJ):Int:=bC ((List.range p.rules.length).map (gW p))
def bD(p:aJ):Int :=
 bif !(validName p.name) then 2 else bif vH p then 1 else bif (p.states.length:Int)==0 then 1 else bif wM p then 4 else
 bif AB p !=0 then AB p else bif Ui p then 1 else
 bif p.bZ.any (fun l=> !(Ub l)) then 4 else
 bif yZ p !=0 then yZ p else
 bif Eu p !=0 then Eu p else dM (decide (((zM p.rules).length:Int)>3)) 4
theorem MS{n i:Nat}{f:Nat->Int}(h:i<n):((List.range n).drop i).map f=f i::((List.range n).drop (i+1)).map f:=by
 rw[List.drop_eq_getElem_cons (by simpa using h)]; simp
theorem S.jk(p:aJ)(hp:dW p):aj Tryz.prog 107 [.dat (.fQ p)] (.int (bD p)):=by
 have g1:=hp.states; have g2:=hp.messages; have g3:=hp.values; have g4:=hp.bZ; have g5:=hp.initial; have g6:=hp.leader; have g7:=hp.rules;refine aj.of Bd.jk (by simp) rfl rfl ?_;refine ah.pure (S.gK p.name) rfl ?_;refine⟨fun h1=>?_,fun h1=>?_⟩
 ·conv=>whnf
  exact ak.int (by rw[bD,h1]; rfl)
 repeat(refine VC.mk (by first|exact id|(intro h; rw[h]; rfl)) ?_)
 refine⟨fun h2=>?_,fun h2=>?_⟩
 ·conv=>whnf
  exact ak.int (by rw[bD,h1,show vH p=true from h2]; rfl)
 refine⟨fun h3=>?_,fun h3=>?_⟩
 ·conv=>whnf
  exact ak.int (by rw[bD,h1,show vH p=false from h2,h3]; rfl)
 repeat(refine VC.mk (by first|exact id|(intro h; rw[h]; rfl)) ?_)
 refine⟨fun h4=>?_,fun h4=>?_⟩
 ·conv=>whnf
  exact ak.int (by rw[bD,h1,show vH p=false from h2,h3,show wM p=true from h4]; rfl)
 conv=>whnf
 have h0:0<p.states.length:=by
  rcases Nat.eq_zero_or_pos p.states.length with e|e
  ·rw[e] at h3; exact absurd h3 (by decide)
  ·exact e
 refine ah.pure (S.pF p h0 g1 g2 g3) rfl ?_;refine⟨fun h5=>?_,fun h5=>?_⟩
 ·conv=>whnf
  exact ak.int (by rw[bD,h1,show vH p=false from h2,h3,show wM p=false from h4,h5]; rfl)
 repeat(refine VC.mk (by first|exact id|(intro h; rw[h]; rfl)|(intro h; simp_all; done)) ?_)
 refine⟨fun h6=>?_,fun h6=>?_⟩
 ·conv=>whnf
  exact ak.int (by rw[bD,h1,show vH p=false from h2,h3,show wM p=false from h4,h5,show Ui p=true from h6]; rfl)
 refine aA.same [1,4,111,112] (fun i:Nat=>[(113,.int i)]) (fun i=>i<=p.bZ.length/\(p.bZ.take i).any (fun l=> !(Ub l))=false) (fun i=>p.bZ.length-i) 0 rfl (by decide) rfl (fun _=>rfl) ⟨by omega,by simp⟩ ⟨⟨_,rfl,rfl⟩,trivial⟩ ?_;refine⟨rfl,?_⟩;rintro i ⟨hi,hall⟩;refine⟨fun h7=>?_,fun h7=>?_⟩
 ·have hi':i<p.bZ.length:=by simpa using h7
  refine .mk (by simp only[Rw.rng] at *; omega) ?_;refine ah.pure (S.jR (p.bZ.getD i default)) rfl ?_;refine⟨fun h8=>?_,fun h8=>?_⟩
  ·conv=>whnf
   exact ak.int (by rw[bD,h1,show vH p=false from h2,h3,show wM p=false from h4,h5,show Ui p=false from h6,ig (d:=default) hi' h8]; rfl)
  ·conv=>whnf
   refine .mk (by simp only[okI] at *; omega) ?_;refine⟨i+1,⟨by omega,?_⟩,by omega,⟨⟨_,rfl,rfl⟩,trivial⟩,?_,rfl⟩
   ·rw[jS (d:=default) hi' hall]; exact h8
   ·repeat' (first|exact trivial|exact⟨_,rfl,rfl⟩|constructor)
 have hi':p.bZ.length<=i:=by simpa using h7
 rw[List.take_of_length_le hi'] at hall;refine ah.pure (S.eP p.initial p.states.length false (by omega)) rfl ?_;refine ah.pure (S.bT ((p.initial.length:Int)==0) 1) rfl ?_;refine ah.pure (S.eP p.leader p.states.length false (by omega)) rfl ?_;refine ah.pure (S.bK [iW p.initial p.states.length,dM ((p.initial.length:Int)==0) 1,iW p.leader p.states.length] true (show 3<2^40 by decide)) rfl ?_;refine⟨fun h9=>?_,fun h9=>?_⟩
 ·conv=>whnf
  exact ak.int (by rw[bD,h1,show vH p=false from h2,h3,show wM p=false from h4,h5,show Ui p=false from h6,hall,show(yZ p !=0)=true from h9]; rfl)
 refine aA.same [1,140,141] (fun i:Nat=>[(142,.int i)]) (fun i=>i<=p.rules.length/\Eu p=bC (((List.range p.rules.length).drop i).map (gW p))) (fun i=>p.rules.length-i) 0 rfl (by decide) rfl (fun _=>rfl) ⟨by omega,by simp[Eu]⟩ ⟨⟨_,rfl,rfl⟩,trivial⟩ ?_;refine⟨rfl,?_⟩;rintro i ⟨hi,hr⟩;refine⟨fun h10=>?_,fun h10=>?_⟩
 ·have hi':i<p.rules.length:=by simpa using h10
  rw[MS hi'] at hr;simp only[bC] at hr;refine ah.pure (S.kE p i hi' hp) rfl ?_;refine⟨fun h11=>?_,fun h11=>?_⟩
  ·conv=>whnf
   have agk:gW p i≠0:=Uh h11;rw[if_neg agk] at hr;exact ak.int (by rw[bD,h1,show vH p=false from h2,h3,show wM p=false from h4,h5,show Ui p=false from h6,hall,show(yZ p !=0)=false from h9,hr,h11]; rfl)
  ·conv=>whnf
   refine .mk (by simp only[okI] at *; omega) ?_;conv=>whnf
   have agk:gW p i=0:=Dn h11;rw[if_pos agk] at hr;refine⟨i+1,⟨by omega,hr⟩,by omega,⟨⟨_,rfl,rfl⟩,trivial⟩,?_,rfl⟩;repeat' (first|exact trivial|exact⟨_,rfl,rfl⟩|constructor)
 have hi':p.rules.length<=i:=by simpa using h10
 rw[List.drop_eq_nil_of_le (by simpa using hi')] at hr;refine ah.pure (S.jH p hp) rfl ?_;refine ah.pure (S.bT (decide (((zM p.rules).length:Int)>3)) 4) rfl ?_;exact ak.int (by rw[bD,h1,show vH p=false from h2,h3,show wM p=false from h4,h5,show Ui p=false from h6,hall,show(yZ p !=0)=false from h9,hr]; rfl)
theorem ak.eqv{a b:V}{h:Hz}(e:a.aH=b.aH):ak a b h:=⟨by rw[e]; exact aF _⟩
def Uk(acc:Bool)(r:Rule):Bool:=acc&&(r.kind==1)&&decide (r.fr<r.to)&&((r.ex.length:Int)==0)&&((r.all.length:Int)==0)
def QK(acc:Bool)(r:Rule):Bool:=acc||decide ((r.all.length:Int)>0)
def rV(p:aJ):Bool:=(p.topology==1)&&(p.fault==0)&&((p.messages.length:Int)==0)&&((p.bZ.length:Int)==0)
structure Cls where
 Ux:Bool
 cover:Bool
 word:Bool
 tree:Bool
 monadic:Bool
def iq(p:aJ):Cls :=
 ⟨(p.topology==1)&&((p.values.length:Int)==0)&&p.rules.foldl Uk true,rV p&& !(p.rules.foldl QK false),(p.topology==2)||(p.topology==3),p.topology==4,rV p&&decide ((p.states.length:Int)<=4)⟩
def ahi(c:Cls):V:=.agg [.bool c.Ux,.bool c.cover,.bool c.word,.bool c.tree,.bool c.monadic]
def J7:Cls:=⟨false,false,false,false,false⟩
def IX(p:aJ):V:=.eX [ahi (bif bD p !=0 then J7 else iq p),.int (bD p)]
theorem S.jm(p:aJ)(hp:dW p):aj Tryz.prog 69 [.dat (.fQ p)] (IX p):=by
 have g1:=hp.states; have g2:=hp.messages; have g3:=hp.values; have g4:=hp.bZ; have g7:=hp.rules;refine aj.of Bd.jm (by simp) rfl rfl ?_;refine ah.pure (S.jk p hp) rfl ?_;refine⟨fun h1=>?_,fun h1=>?_⟩
 ·conv=>whnf
  refine ak.eqv ?_;rw[IX,h1]; rfl
 have h1':bD p=0:=Dn h1;refine aA.same [1,2,3,18,19] (fun i:Nat=>[(20,.int i),(5,.bool ((p.rules.take i).foldl Uk true)),(6,.bool ((p.rules.take i).foldl QK false))]) (fun i=>i<=p.rules.length) (fun i=>p.rules.length-i) 0 rfl (by decide) rfl (fun _=>rfl) (Nat.zero_le _) ⟨⟨_,rfl,rfl⟩,⟨_,rfl,rfl⟩,⟨_,rfl,rfl⟩,trivial⟩ ?_;refine⟨rfl,?_⟩;rintro i hi;have g8:=hp.rule i;have g9:=g8.ex; have g10:=g8.all;refine⟨fun h7=>?_,fun h7=>?_⟩
 ·have hi':i<p.rules.length:=by simpa using h7
  repeat(refine VC.mk (by first|exact id|exact fun h=>⟨h,h⟩|(intro h; rw[h]; rfl)|(simp only[okI,Rw.rng] at *; omega)) ?_)
  refine⟨i+1,by omega,by omega,⟨⟨_,rfl,rfl⟩,⟨_,rfl,?_⟩,⟨_,rfl,?_⟩,trivial⟩,?_,rfl⟩
  ·rw[Di (d:=default) hi']; rfl
  ·rw[Di (d:=default) hi']; rfl
  ·repeat' (first|exact trivial|exact⟨_,rfl,rfl⟩|constructor)
 have hi':p.rules.length<=i:=by simpa using h7
 rw[List.take_of_length_le hi'];repeat(refine VC.mk (by first|exact id|(intro h; rw[h]; rfl)) ?_)
 refine ak.eqv ?_;rw[IX,h1'];rfl
def mG(r:Rule)(t:Int):Bool :=
 bif !(r.kind==1)&&(decide ((r.guards.length:Int)>0)||decide ((r.ex.length:Int)>0)||decide ((r.all.length:Int)>0)||decide ((r.send.length:Int)>0)) then true else
 bif !(r.kind==1)&& !(r.kind==2)&& !(r.kind==3)&&(r.read != -1||r.write != -1) then true else
 bif !(r.kind==2)&& !(r.kind==5)&&(r.je !=0||r.zQ !=0) then true else
 bif (!(r.kind==3)&&decide ((r.response.length:Int)>0))||(!(r.kind==5)&&r.direction !=0) then true else
 bif !(r.kind==4)&&(r.pos !=0||decide ((r.left.length:Int)>0)||decide ((r.right.length:Int)>0)) then true else
 decide ((r.parent.length:Int)>0)&& !((r.kind==4)&&(t==4))
theorem gt0{n:Nat}:decide ((n:Int)>0)= !(n==0):=by
 cases n with
 |zero=>rfl
 |succ n=>rw[decide_eq_true (by omega)]; rfl
theorem ahU(a b c d e f g h:Nat):decide ((a:Int)+b+c+d+e+f+g+h>0)=(!(a==0)|| !(b==0)|| !(c==0)|| !(d==0)|| !(e==0)|| !(f==0)|| !(g==0)|| !(h==0)):=by
 rw[Bool.eq_iff_iff];simp only[decide_eq_true_eq,Bool.or_eq_true,Bool.not_eq_true',beq_eq_false_iff_ne,ne_eq];omega
theorem Bv{r:Rule}{t:Int}(h:1<=r.kind/\r.kind<=5):mG r t=kV r t:=by
 have hk:r.kind=1\/r.kind=2\/r.kind=3\/r.kind=4\/r.kind=5:=by omega
 simp only[mG,kV,Fh,gt0,ahU,bne];generalize (r.guards.length==0)=g1;generalize (r.ex.length==0)=g2;generalize (r.all.length==0)=g3;generalize (r.send.length==0)=g4;generalize (r.response.length==0)=g5;generalize (r.left.length==0)=g6;generalize (r.right.length==0)=g7;generalize (r.parent.length==0)=g8;generalize (r.read== -1)=g9;generalize (r.write== -1)=g10;generalize (r.je==0)=g11;generalize (r.zQ==0)=g12;generalize (r.direction==0)=g13;generalize (r.pos==0)=g14
 rcases hk with hk|hk|hk|hk|hk<;>rw[hk] <;>
  (first
   |(simp; done)
   |(cases (t==4)<;>simp<;>grind)
   |(simp; grind))
end Go.Proofs.YtkmldgihhaooaaaGreatDoor
