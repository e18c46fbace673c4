/-
 A part of the proof. No condition.
-/
import Derived.Test.YtdloaandiobgdaaGreatDoorNb
import Derived.Test.YtdloaandiobgdaaGreatDoorLg
namespace Go.Proofs.YtdloaandiobgdaaGreatDoor
open Go.Ab Go.Proofs
set_option maxRecDepth 100000
def fA(b:Bool)(e:Int):Int:=bif b then e else 0
theorem S.cZ(b:Bool)(e:Int):ak Tryz.prog 46 [.bool b,.int e] (.int (fA b e)):=by
 refine ak.of Bd.cZ (by simp) rfl rfl ?_;refine⟨fun h=>?_,fun h=>?_⟩
 ·conv=>whnf
  exact ay.int (by rw[h]; rfl)
 ·conv=>whnf
  exact ay.int (by rw[h]; rfl)
def tu(i n:Int):Bool:=decide (i<0)||decide (i>=n)
def dK(i n:Int):Int:=fA (tu i n) 5
theorem S.dA(i n:Int):ak Tryz.prog 82 [.int i,.int n] (.int (dK i n)):=by
 refine ak.of Bd.dA (by simp) rfl rfl ?_;repeat(refine VC.mk (by first|exact fun h=>⟨h,h⟩|(intro h; rw[h]; rfl)) ?_)
 refine ah.pure (S.cZ (tu i n) 5) rfl ?_;exact ay.int rfl
def bP:List Int->Int
 |[]=>0
 |e::r=>if e=0 then bP r else e
theorem S.bW(l:List Int)(f:Bool)(hl:l.length<2^40):ak Tryz.prog 45 [.row 0 f (.ints l)] (.int (bP l)):=by
 refine ak.of Bd.bW (by simp) rfl rfl ?_;refine aG.same [5,6] (fun i:Nat=>[(7,.int i)]) (fun i=>i<=l.length/\bP l=bP (l.drop i)) (fun i=>l.length-i) 0 rfl (by decide) rfl (fun _=>rfl) ⟨by omega,by simp⟩ ⟨⟨_,rfl,rfl⟩,trivial⟩ ?_;refine⟨rfl,?_⟩;rintro i ⟨hi,hall⟩;refine⟨fun h3=>?_,fun h3=>?_⟩
 ·have hi':i<l.length:=by simpa using h3
  rw[dO 0 hi'] at hall;simp only[bP] at hall;refine .mk (by simp only[Rw.rng] at *; omega) ?_;refine⟨fun h4=>?_,fun h4=>?_⟩
  ·conv=>whnf
   refine ay.int ?_
   have:l.getD i 0≠0:=by simpa using h4
   rw[hall,bB this]; rfl
  ·conv=>whnf
   refine .mk (by simp only[okI] at *; omega) ?_;conv=>whnf
   have:l.getD i 0=0:=by simpa using h4
   rw[bc this] at hall;refine⟨i+1,⟨by omega,hall⟩,by omega,⟨⟨_,rfl,rfl⟩,trivial⟩,?_,rfl⟩;repeat' (first|exact trivial|exact⟨_,rfl,rfl⟩|constructor)
 ·conv=>whnf
  refine ay.int ?_;have hi':l.length<=i:=by simpa using h3
  rw[hall,cJ hi']; rfl
def JO:List Int->Bool
 |a::b::r=>decide (a<b)&&JO (b::r)
 |_=>true
def jP(l:List Int)(n:Int):Int:=bif l.any (fun i=>tu i n) then 5 else bif JO l then 0 else 1
theorem S.eH(l:List Int)(n:Int)(f:Bool)(hl:l.length<2^40):ak Tryz.prog 44 [.row 0 f (.ints l),.int n] (.int (jP l n)):=by
 refine ak.of Bd.eH (by simp) rfl rfl ?_;refine aG.same [0,1,8,9] (fun i:Nat=>[(10,.int i)]) (fun i=>i<=l.length/\(l.take i).any (fun i=>tu i n)=false) (fun i=>l.length-i) 0 rfl (by decide) rfl (fun _=>rfl) ⟨by omega,by simp⟩ ⟨⟨_,rfl,rfl⟩,trivial⟩ ?_;refine⟨rfl,?_⟩;rintro i ⟨hi,hall⟩;refine⟨fun h3=>?_,fun h3=>?_⟩
 ·have hi':i<l.length:=by simpa using h3
  repeat(refine VC.mk (by first|exact fun h=>⟨h,h⟩|(intro h; rw[h]; rfl)|(simp only[Rw.rng] at *; omega)) ?_)
  refine⟨fun h4=>?_,fun h4=>?_⟩
  ·conv=>whnf
   refine ay.int ?_;rw[jP,lD (d:=0) hi' h4]; rfl
  ·conv=>whnf
   refine .mk (by simp only[okI] at *; omega) ?_;refine⟨i+1,⟨by omega,?_⟩,by omega,⟨⟨_,rfl,rfl⟩,trivial⟩,?_,rfl⟩
   ·rw[o7 (d:=0) hi' hall]; exact h4
   ·repeat' (first|exact trivial|exact⟨_,rfl,rfl⟩|constructor)
 ·have hi':l.length<=i:=by simpa using h3
  rw[bm hi'] at hall;refine aG.same [0] (fun i:Nat=>[(7,.int (i+1))]) (fun i=>(i<l.length\/i=0)/\JO l=JO (l.drop i)) (fun i=>l.length-i) 0 rfl (by decide) rfl (fun _=>rfl) ⟨by omega,by simp⟩ ⟨⟨_,rfl,rfl⟩,trivial⟩ ?_;refine⟨rfl,?_⟩;rintro i ⟨hi,hinc⟩;refine⟨fun h5=>?_,fun h5=>?_⟩
  ·have hi1:i+1<l.length:=by have:=ag h5; omega
   rw[dO 0 (show i<l.length by omega),dO 0 hi1] at hinc;simp only[JO] at hinc;rw[<- dO 0 hi1] at hinc;repeat(refine VC.mk (by simp only[okI,Rw.rng] at *; omega) ?_)
   refine⟨fun h6=>?_,fun h6=>?_⟩
   ·conv=>whnf
    refine ay.int ?_;have e1:((i:Int)+1).toNat=i+1:=by omega
    have e2:((i:Int)+1-1).toNat=i:=by omega
    rw[e1,e2] at h6;have h6':l.getD (i+1) 0<=l.getD i 0:=ag h6;rw[jP,hall,hinc,cB (by omega)]; rfl
   ·conv=>whnf
    refine .mk (by simp only[okI] at *; omega) ?_;conv=>whnf
    have e1:((i:Int)+1).toNat=i+1:=by omega
    have e2:((i:Int)+1-1).toNat=i:=by omega
    rw[e1,e2] at h6;have h6': ¬ l.getD (i+1) 0<=l.getD i 0:=aM h6;rw[cI (by omega),cV] at hinc;refine⟨i+1,⟨by omega,hinc⟩,by omega,⟨⟨_,rfl,rfl⟩,trivial⟩,?_,rfl⟩;repeat' (first|exact trivial|exact⟨_,rfl,rfl⟩|constructor)
  ·conv=>whnf
   refine ay.int ?_;have h5': ¬ ((i:Int)+1<l.length):=aM h5
   have:JO l=true:=by
    rw[hinc];rcases hd:l.drop i with _|⟨a,_|⟨b,r⟩⟩
    ·rfl
    ·rfl
    ·have:=dC List.length hd;simp only[cA,bX] at this;omega
   rw[jP,hall,this]; rfl
def agK(n:Int):Bool:=decide (n>= -100)&&decide (n<=100)
theorem S.ig(n:Int):ak Tryz.prog 108 [.int n] (.bool (agK n)):=by
 refine ak.of Bd.ig (by simp) rfl rfl ?_;repeat(refine VC.mk id ?_)
 exact ay.bool rfl
def XD(l:Lin):Bool:=agK l.c&&agK l.n&&agK l.t&&agK l.f
theorem S.jq(l:Lin):ak Tryz.prog 78 [.dat (.lin l)] (.bool (XD l)):=by
 refine ak.of Bd.jq (by simp) rfl rfl ?_;refine ah.pure (S.ig l.c) rfl ?_;repeat(refine VC.mk id ?_)
 refine ah.iJ (fun _=>S.ig l.n) rfl ?_;repeat(refine VC.mk id ?_)
 refine ah.iJ (fun _=>S.ig l.t) rfl ?_;repeat(refine VC.mk id ?_)
 refine ah.iJ (fun _=>S.ig l.f) rfl ?_;refine VC.mk id ?_;exact ay.bool rfl
def mQ(p:aF)(v:Int):Int:=fA (decide (v< -1)||decide (v>=p.values.length)) 5
theorem S.fV(p:aF)(v:Int):ak Tryz.prog 114 [.dat (.fM p),.int v] (.int (mQ p v)):=by
 refine ak.of Bd.fV (by simp) rfl rfl ?_;repeat(refine VC.mk (by first|exact id|exact fun h=>⟨h,h⟩|(intro h; rw[h]; rfl)) ?_)
 refine ah.pure (S.cZ _ 5) rfl ?_;exact ay.int rfl
theorem XJ{a:Int}(h:(a !=0)=true):a≠0:=by simpa using h
theorem II{a:Int}(h:(a !=0)=false):a=0:=by simpa using h
def yF(k t:Int):Bool:=bif k==1||k==2||k==3 then t==1 else bif k==4||k==5 then !(t==1) else false
theorem S.oN(k t:Int):ak Tryz.prog 111 [.int k,.int t] (.bool (yF k t)):=by
 refine ak.of Bd.oN (by simp) rfl rfl ?_;refine⟨fun h1=>?_,fun h1=>?_⟩
 ·conv=>whnf
  refine Fork.mk (fun _=>?_) (fun q=>absurd (q.symm.trans (h1)) aR);exact ay.bool (by simp[yF,h1])
 ·conv=>whnf
  refine⟨fun h2=>?_,fun h2=>?_⟩
  ·conv=>whnf
   refine Fork.mk (fun _=>?_) (fun q=>absurd (q.symm.trans (h2)) aR);exact ay.bool (by simp[yF,h1,h2])
  ·conv=>whnf
   refine⟨fun h3=>?_,fun h3=>?_⟩
   ·conv=>whnf
    exact ay.bool (by simp[yF,h1,h2,h3])
   ·conv=>whnf
    refine⟨fun h4=>?_,fun h4=>?_⟩
    ·conv=>whnf
     refine Fork.mk (fun _=>?_) (fun q=>absurd (q.symm.trans (h4)) aR);exact ay.bool (by simp[yF,h1,h2,h3,h4,bne])
    ·conv=>whnf
     refine⟨fun h5=>?_,fun h5=>?_⟩
     ·conv=>whnf
      exact ay.bool (by simp[yF,h1,h2,h3,h4,h5,bne])
     ·conv=>whnf
      exact ay.bool (by simp[yF,h1,h2,h3,h4,h5])
def uI:List Int->Int->Int
 |[],_=>0
 |x::r,n=>if dK x n=0 then uI r n else dK x n
def I5(l:List Int)(n:Int):Int:=bif (l.length:Int) !=n then 1 else uI l n
theorem S.jk(l:List Int)(n:Int)(f:Bool)(hl:l.length<2^40):ak Tryz.prog 115 [.row 0 f (.ints l),.int n] (.int (I5 l n)):=by
 refine ak.of Bd.jk (by simp) rfl rfl ?_;refine⟨fun h=>?_,fun h=>?_⟩
 ·conv=>whnf
  exact ay.int (by rw[I5,h]; rfl)
 ·conv=>whnf
  refine aG.same [0,1,12,13] (fun i:Nat=>[(14,.int i)]) (fun i=>i<=l.length/\uI l n=uI (l.drop i) n) (fun i=>l.length-i) 0 rfl (by decide) rfl (fun _=>rfl) ⟨by omega,by simp⟩ ⟨⟨_,rfl,rfl⟩,trivial⟩ ?_;refine⟨rfl,?_⟩;rintro i ⟨hi,hall⟩;refine⟨fun h3=>?_,fun h3=>?_⟩
  ·have hi':i<l.length:=by simpa using h3
   rw[dO 0 hi'] at hall;simp only[uI] at hall;refine .mk (by simp only[Rw.rng] at *; omega) ?_;refine ah.pure (S.dA (l.getD i 0) n) rfl ?_;refine⟨fun h4=>?_,fun h4=>?_⟩
   ·conv=>whnf
    refine ay.int ?_
    have:dK (l.getD i 0) n≠0:=by simpa using h4
    rw[I5,h,ap,hall,bB this]
   ·conv=>whnf
    refine .mk (by simp only[okI] at *; omega) ?_;conv=>whnf
    have:dK (l.getD i 0) n=0:=by simpa using h4
    rw[bc this] at hall;refine⟨i+1,⟨by omega,hall⟩,by omega,⟨⟨_,rfl,rfl⟩,trivial⟩,?_,rfl⟩;repeat' (first|exact trivial|exact⟨_,rfl,rfl⟩|constructor)
  ·conv=>whnf
   refine ay.int ?_;have hi':l.length<=i:=by simpa using h3
   rw[I5,h,ap,hall,cJ hi']; rfl
def guardE(p:aF)(g:DR):Int:=bP [dK g.message p.messages.length,fA (decide (g.Jv<1)||decide (g.Jv>100)) 1,fA (!(XD g.bound)) 4]
def kY(p:aF):List DR->Int
 |[]=>0
 |g::r=>if guardE p g=0 then kY p r else guardE p g
def xO(p:aF)(l:List DR):Int:=if kY p l=0 then fA (decide ((l.length:Int)>2)) 4 else kY p l
theorem S.lK(p:aF)(l:List DR)(f:Bool)(hl:l.length<2^40):ak Tryz.prog 113 [.dat (.fM p),.row 7 f (.uT l)] (.int (xO p l)):=by
 refine ak.of Bd.lK (by simp) rfl rfl ?_;refine aG.same [1,2,8,9] (fun i:Nat=>[(10,.int i)]) (fun i=>i<=l.length/\kY p l=kY p (l.drop i)) (fun i=>l.length-i) 0 rfl (by decide) rfl (fun _=>rfl) ⟨by omega,by simp⟩ ⟨⟨_,rfl,rfl⟩,trivial⟩ ?_;refine⟨rfl,?_⟩;rintro i ⟨hi,hall⟩;refine⟨fun h3=>?_,fun h3=>?_⟩
 ·have hi':i<l.length:=by simpa using h3
  rw[dO default hi'] at hall;simp only[kY] at hall;refine .mk (by simp only[Rw.rng] at *; omega) ?_;refine ah.pure (S.dA (l.getD i default).message p.messages.length) rfl ?_;repeat(refine VC.mk (by first|exact id|(intro h; rw[h]; rfl)) ?_)
  refine ah.pure (S.cZ (decide ((l.getD i default).Jv<1)||decide ((l.getD i default).Jv>100)) 1) rfl ?_;refine ah.pure (S.jq (l.getD i default).bound) rfl ?_;refine ah.pure (S.cZ (!(XD (l.getD i default).bound)) 4) rfl ?_;refine ah.pure (S.bW [dK (l.getD i default).message p.messages.length,fA (decide ((l.getD i default).Jv<1)||decide ((l.getD i default).Jv>100)) 1,fA (!(XD (l.getD i default).bound)) 4] true (show 3<2^40 by decide)) rfl ?_;refine⟨fun h4=>?_,fun h4=>?_⟩
  ·conv=>whnf
   refine ay.int ?_;have h4':guardE p (l.getD i default)≠0:=XJ h4;rw[bB h4'] at hall;rw[xO,hall,bB h4']; rfl
  ·conv=>whnf
   refine .mk (by simp only[okI] at *; omega) ?_;conv=>whnf
   have h4':guardE p (l.getD i default)=0:=II h4;rw[bc h4'] at hall;refine⟨i+1,⟨by omega,hall⟩,by omega,⟨⟨_,rfl,rfl⟩,trivial⟩,?_,rfl⟩;repeat' (first|exact trivial|exact⟨_,rfl,rfl⟩|constructor)
 ·have hi':l.length<=i:=by simpa using h3
  rw[cJ hi'] at hall;refine ah.pure (S.cZ (decide ((l.length:Int)>2)) 4) rfl ?_;exact ay.int (by rw[xO,hall]; rfl)
structure wS(r:Rule):Prop where
 response:r.response.length<2^30
 guards:r.guards.length<2^30
 ex:r.ex.length<2^30
 all:r.all.length<2^30
 send:r.send.length<2^30
 left:r.left.length<2^30
 right:r.right.length<2^30
 parent:r.parent.length<2^30
def IG(r:Rule):Bool :=
 decide ((r.response.length:Int)+r.guards.length+r.ex.length+r.all.length+r.send.length+r.left.length+r.right.length+r.parent.length>0)||r.dQ !=0||r.yT !=0||r.pos !=0||r.direction !=0||r.read != -1||r.write != -1
def oI(r:Rule)(t:Int):Bool :=
 bif r.kind==1 then IG {r with guards:=[],ex:=[],all:=[],send:=[],read:= -1,write:= -1} else
 bif r.kind==2 then(bif decide ((r.response.length:Int)>0) then true else IG {r with dQ:=0,yT:=0,response:=[],read:= -1,write:= -1}) else
 bif r.kind==3 then IG {r with response:=[],read:= -1,write:= -1} else
 bif r.kind==4 then(bif t==4 then IG {r with pos:=0,left:=[],right:=[],parent:=[]} else IG {r with pos:=0,left:=[],right:=[]}) else
 bif r.kind==5 then IG {r with dQ:=0,yT:=0,direction:=0} else IG r
theorem S.kE(r:Rule)(t:Int)(hs:wS r):ak Tryz.prog 112 [.dat (.rule r),.int t] (.bool (oI r t)):=by
 obtain⟨g1,g2,g3,g4,g5,g6,g7,g8⟩:=hs;refine ak.of Bd.kE (by simp) rfl rfl ?_;refine⟨fun h1=>?_,fun h1=>?_⟩
 ·conv=>whnf
  repeat(refine VC.mk (by first|exact id|(intro h; rw[h]; rfl)|(simp only[okI] at *; omega)) ?_)
  exact ay.bool (by simp[oI,IG,h1])
 ·conv=>whnf
  refine⟨fun h2=>?_,fun h2=>?_⟩
  ·conv=>whnf
   refine⟨fun h6=>?_,fun h6=>?_⟩
   ·conv=>whnf
    exact ay.bool (by rw[oI,h1,h2,show decide ((r.response.length:Int)>0)=true from h6]; rfl)
   ·conv=>whnf
    repeat(refine VC.mk (by first|exact id|(intro h; rw[h]; rfl)|(simp only[okI] at *; omega)) ?_)
    exact ay.bool (by rw[oI,h1,h2,show decide ((r.response.length:Int)>0)=false from h6]; simp[IG])
  ·conv=>whnf
   refine⟨fun h3=>?_,fun h3=>?_⟩
   ·conv=>whnf
    repeat(refine VC.mk (by first|exact id|(intro h; rw[h]; rfl)|(simp only[okI] at *; omega)) ?_)
    exact ay.bool (by simp[oI,IG,h1,h2,h3])
   ·conv=>whnf
    refine⟨fun h4=>?_,fun h4=>?_⟩
    ·conv=>whnf
     refine⟨fun h7=>?_,fun h7=>?_⟩
     ·conv=>whnf
      repeat(refine VC.mk (by first|exact id|(intro h; rw[h]; rfl)|(simp only[okI] at *; omega)) ?_)
      exact ay.bool (by simp[oI,IG,h1,h2,h3,h4,h7])
     ·conv=>whnf
      repeat(refine VC.mk (by first|exact id|(intro h; rw[h]; rfl)|(simp only[okI] at *; omega)) ?_)
      exact ay.bool (by simp[oI,IG,h1,h2,h3,h4,h7])
    ·conv=>whnf
     refine⟨fun h5=>?_,fun h5=>?_⟩
     ·conv=>whnf
      repeat(refine VC.mk (by first|exact id|(intro h; rw[h]; rfl)|(simp only[okI] at *; omega)) ?_)
      exact ay.bool (by simp[oI,IG,h1,h2,h3,h4,h5])
     ·conv=>whnf
      repeat(refine VC.mk (by first|exact id|(intro h; rw[h]; rfl)|(simp only[okI] at *; omega)) ?_)
      exact ay.bool (by simp[oI,IG,h1,h2,h3,h4,h5])
def agL(h:Hz):Hz->Prop
 |[]=>True
 |(i,o)::r=>h.get i=o/\agL h r
theorem adf{h:Hz}: ∀ {h0:Hz},agL h h0-> ∀ {i:Nat} {o:OV},h0.get i=some o->h.get i=some o:=by
 intro h0;induction h0 with
 |nil=>intro _ i o e; cases e
 |cons p r ih =>
  obtain⟨j,u⟩:=p;intro hs i o e;simp only[Hz.get] at e;cases hb:Nat.beq j i with
  |true=>rw[hb] at e; simp only[bE] at e; rw[<- cw hb,hs.1,e]
  |false=>rw[hb] at e; exact ih hs.2 e
def adg:Hz->Bool
 |[]=>true
 |(_,some o)::r=>o.zn&&adg r
 |(_,none)::r=>adg r
theorem XM: ∀ {h0:Hz},adg h0=true-> ∀ {i:Nat} {o:OV},h0.get i=some o->o.zn=true:=by
 intro h0;induction h0 with
 |nil=>intro _ i o e; cases e
 |cons p r ih =>
  obtain⟨j,u⟩:=p;intro hs i o e;simp only[Hz.get] at e;cases hb:Nat.beq j i with
  |true =>
   rw[hb] at e; simp only[bE] at e; subst e;simp only[adg,aD] at hs; exact hs.1
  |false =>
   rw[hb] at e;refine ih ?_ e;cases u with
   |none=>exact hs
   |some o=>simp only[adg,aD] at hs; exact hs.2
theorem OV.XO{o:OV}(h:o.zn=true):T.aO (fun _=>False) o.au.l:=OV.xK h
theorem gq.same{nx:Nat}{h0 h:Hz}{n:Nat}{post:T->Hp->Prop}{v:V}(hf:v.free=true)(hs:agL h h0)(hg:tq nx h0=true)(hfr:adg h0=true)(hp:post v.aI h0.aj):gq h0 n post v h:=by
 have hG:=zX hg;have get: ∀ i ob,h0.aj i=some ob-> ∃ o,h0.get i=some o/\ob=o.au:=fun i ob e=>by
  simp only[Hz.aj,be] at e;obtain⟨o,e1,e2⟩:=e;exact⟨o,e1,e2.symm⟩
 have hfree:=V.jS v hf;refine⟨fun _=>False,id,v.aI,h0.aj,hp,?_,fun i ob hi=>?_,fun i j _ _ e=>e,T.aW (fun _ h=>h.elim) _ (eY hfree),fun i ob hi=>?_,fun i _ _=>rfl⟩
 ·rw[YM]; exact aH _
 ·obtain⟨o,e1,rfl⟩:=get i ob hi;refine⟨o.au,aK (adf hs e1),fun h=>h,rfl,rfl,?_,uS (hG i _ hi).2.2⟩;rw[xI _ (OV.XO (XM hfr e1))]; exact dR _
 ·obtain⟨o,e1,rfl⟩:=get i ob hi;exact⟨.inl (by rw[hi]; rfl),T.aA (fun _ h=>h.elim) _ (OV.XO (XM hfr e1))⟩
abbrev hRP(p:aF)(r:Rule):Hz:=[(7,some (.box 85 19 (.dat (.rule r)))),(0,some (.box 27 11 (.dat (.fM p))))]
theorem S.U9(p:aF)(r x:Rule)(n:Nat):aP Tryz.prog 110 (V.aS [.dat (.rule x),.ptr 7 0 0]) (hRP p r).aj n (fun t hp=>t= .bool (x.name==r.name)/\hp=(hRP p r).aj):=by
 refine nT.of (nx:=8) Bd.jV (by simp) ⟨_,_,rfl,rfl⟩ rfl rfl ?_;exact gq.same (nx:=8) rfl ⟨rfl,rfl,trivial⟩ rfl rfl ⟨rfl,rfl⟩
def J9(s:Str):List Rule->Nat->Int
 |[],_=> -1
 |x::r,i=>bif x.name==s then(i:Int) else J9 s r (i+1)
theorem S.adh(p:aF)(r:Rule)(l:List Rule)(f:Bool)(hl:l.length<2^30)(n:Nat):aP Tryz.prog 143 (V.aS [.row 19 f (.rules l),.fn 110 [.ptr 7 0 0]]) (hRP p r).aj n (fun t hp=>t= .int (J9 r.name l 0)/\hp=(hRP p r).aj):=by
 refine nT.of (nx:=8) Bd.dN (by simp) ⟨_,_,rfl,rfl⟩ rfl rfl ?_;refine aG.same [0,1,6,7] (fun i:Nat=>[(8,.int i)]) (fun i=>i<=l.length/\J9 r.name l 0=J9 r.name (l.drop i) i) (fun i=>l.length-i) 0 rfl (by decide) rfl (fun _=>rfl) ⟨by omega,by simp⟩ ⟨⟨_,rfl,rfl⟩,trivial⟩ ?_;refine⟨rfl,?_⟩;rintro i ⟨hi,hall⟩;refine⟨fun h3=>?_,fun h3=>?_⟩
 ·have hi':i<l.length:=by simpa using h3
  rw[dO default hi'] at hall;simp only[J9] at hall;refine .mk (by simp only[Rw.rng] at *; omega) ?_;refine ah.heap (S.U9 p r (l.getD i default) _) ?_;rintro t hp ⟨rfl,rfl⟩;refine⟨.bool _,hRP p r,rfl,rfl,?_⟩;refine⟨fun h4=>?_,fun h4=>?_⟩
  ·conv=>whnf
   rw[h4] at hall;exact gq.same (nx:=8) rfl ⟨rfl,rfl,trivial⟩ rfl rfl ⟨by rw[hall]; rfl,rfl⟩
  ·conv=>whnf
   refine .mk (by simp only[okI] at *; omega) ?_;conv=>whnf
   rw[h4] at hall;refine⟨i+1,⟨by omega,hall⟩,by omega,⟨⟨_,rfl,rfl⟩,trivial⟩,?_,rfl⟩;repeat' (first|exact trivial|exact⟨_,rfl,rfl⟩|constructor)
 ·conv=>whnf
  have hi':l.length<=i:=by simpa using h3
  rw[cJ hi'] at hall;exact gq.same (nx:=8) rfl ⟨rfl,rfl,trivial⟩ rfl rfl ⟨by rw[hall]; rfl,rfl⟩
theorem agM{s:Str}{l:List Rule}{i:Nat}:decide (0<=J9 s l i)=l.any fun x=>x.name==s:=by
 have: ∀ {l:List Rule} {i:Nat},0<=J9 s l i↔(l.any fun x=>x.name==s)=true:=by
  intro l;induction l with
  |nil=>intro i; simp[J9]
  |cons x r ih =>
   intro i;rw[ez,cY,<- ih (i:=i+1)];show(0:Int)<=(bif x.name==s then(i:Int) else J9 s r (i+1))↔_;generalize (x.name==s)=b;cases b<;>simp
 rw[cR,aq]; exact this
theorem S.Va(p:aF)(r:Rule)(l:List Rule)(f:Bool)(hl:l.length<2^30)(n:Nat):aP Tryz.prog 109 (V.aS [.row 19 f (.rules l),.fn 110 [.ptr 7 0 0]]) (hRP p r).aj n (fun t hp=>t= .bool (l.any fun x=>x.name==r.name)/\hp=(hRP p r).aj):=by
 refine nT.of (nx:=8) Bd.dG (by simp) ⟨_,_,rfl,rfl⟩ rfl rfl ?_;refine ah.heap (S.adh p r l f hl _) ?_;rintro t hp ⟨rfl,rfl⟩;refine⟨.int _,hRP p r,rfl,rfl,?_⟩;exact gq.same (nx:=8) rfl ⟨rfl,rfl,trivial⟩ rfl rfl ⟨by rw[<- agM (i:=0)]; rfl,rfl⟩
theorem ah.mkRow{P:Program}{f:FuncId}{args:List V}{h:Hz}{n ty k:Nat}{r:Rw}{K:V->Hz->Prop}{KW:Nat->V->Hz->Prop}(H:BU P f (V.aS args) (fun n=>.own n) (some ⟨ty,k,r.aS⟩))(hK:K (.own n) ((n,some (.row ty k r []))::h)):ah P false none f args h n K KW :=
 ah.heap (BU.frame H _ _) (by rintro t hp ⟨rfl,rfl⟩; exact⟨.own n,_,rfl,by rw[bI]; simp[jM,OV.au,V.aS],hK⟩)
theorem S.Concat(a b c:List Str)(n:Nat)(h0:0<a.length)(ha:a.length<2^20)(hb:b.length<2^20)(hc:c.length<2^20) :
  aP Tryz.prog 106 (V.aS [.Am 0 false [.row 0 false (.strs a),.row 0 false (.strs b),.row 0 false (.strs c)]]) no n (fun t hp=>t= .own n/\hp=Hz.aj [(n,some (.row 9 0 (.strs (a++b++c)) []))]):=by
 refine nT.of (nx:=0) (h0:=[]) Bd.fU (by simp) ⟨_,_,rfl,rfl⟩ rfl rfl ?_;refine aG.times 4 rfl ?_;refine Fork.mk (fun _=>?_) (fun q=>absurd (q.symm.trans (rfl)) aR);repeat(refine VC.mk (by first|(omega)|(simp only[okI] at *; omega)) ?_)
 refine Fork.mk (fun q=>absurd (q.symm.trans (cB (by omega))).symm aR) (fun _=>?_);refine .mk (by simp only[okI] at *; omega) ?_;refine Fork.mk (fun _=>?_) (fun q=>absurd (q.symm.trans (rfl)) aR);repeat(refine VC.mk (by first|(omega)|(simp only[okI] at *; omega)) ?_)
 refine Fork.mk (fun q=>absurd (q.symm.trans (cB (by omega))).symm aR) (fun _=>?_);refine .mk (by simp only[okI] at *; omega) ?_;refine Fork.mk (fun _=>?_) (fun q=>absurd (q.symm.trans (rfl)) aR);repeat(refine VC.mk (by first|(omega)|(simp only[okI] at *; omega)) ?_)
 refine Fork.mk (fun q=>absurd (q.symm.trans (cB (by omega))).symm aR) (fun _=>?_);refine .mk (by simp only[okI] at *; omega) ?_;refine Fork.mk (fun q=>absurd (q.symm.trans (rfl)).symm aR) (fun _=>?_);conv=>whnf
 have e:(0+(a.length:Int)+b.length+c.length)=((a.length+b.length+c.length:Nat):Int):=by omega
 rw[e];refine ah.mkRow (r:=.strs []) (S.Grow (a.length+b.length+c.length) (by omega) (by omega)) ?_;refine aG.times 4 rfl ?_;refine Fork.mk (fun _=>?_) (fun q=>absurd (q.symm.trans (rfl)) aR);repeat(refine VC.mk (by first|(omega)|(simp only[kT,qX,Rw.len,cC]; omega)|(simp only[okI] at *; omega)) ?_)
 refine Fork.mk (fun _=>?_) (fun q=>absurd (q.symm.trans (rfl)) aR);repeat(refine VC.mk (by first|(omega)|(simp only[kT,qX,Rw.len,aL,cC]; omega)|(simp only[okI] at *; omega)) ?_)
 refine Fork.mk (fun _=>?_) (fun q=>absurd (q.symm.trans (rfl)) aR);repeat(refine VC.mk (by first|(omega)|(simp only[kT,qX,Rw.len,aL,cC]; omega)|(simp only[okI] at *; omega)) ?_)
 refine Fork.mk (fun q=>absurd (q.symm.trans (rfl)).symm aR) (fun _=>?_);refine gq.one (c:=n) (o:=.row 9 0 (.strs (a++b++c)) []) (t:=.own n) rfl rfl rfl nofun (.inr rfl) rfl (.eq rfl) ⟨rfl,rfl⟩
theorem S.ajj(a b c:List Str)(h0:0<a.length)(ha:a.length<2^20)(hb:b.length<2^20)(hc:c.length<2^20) :
  BU Tryz.prog 106 (V.aS [.Am 0 false [.row 0 false (.strs a),.row 0 false (.strs b),.row 0 false (.strs c)]]) (fun n=>.own n) (some ⟨9,0,(Rw.strs (a++b++c)).aS⟩):=by
 refine⟨rfl,fun _=>rfl,(fun ob h=>by cases h; rw[iO]; intro t ht; obtain⟨x,_,rfl⟩:=ax.1 ht; rfl),(fun ob h=>by cases h; exact fun e=>absurd e (by decide:(0:Nat)≠gK)),fun n=>(S.Concat a b c n h0 ha hb hc).mono ?_⟩;rintro t hp ⟨rfl,rfl⟩;refine⟨rfl,?_⟩;rw[bI]; simp[jM,OV.au,V.aS]; rfl
theorem ah.ajk{P:Program}{f:FuncId}{args:List V}{ts:List T}{h:Hz}{n ty k:Nat}{r:Rw}{K:V->Hz->Prop}{KW:Nat->V->Hz->Prop}(H:BU P f ts (fun n=>.own n) (some ⟨ty,k,r.aS⟩))(hs:T.dY (fun _=>True) h.aj ts (V.aS args))(hh:T.zW r.aS=true)(hK:K (.own n) ((n,some (.row ty k r []))::h)):ah P false none f args h n K KW :=
 ⟨.inl (BU.lend H hs rfl (fun _ e=>by cases e; exact hh) ⟨.own n,_,rfl,by rw[bI]; simp[jM,OV.au,V.aS],(fun e=>by cases e),hK⟩)⟩
theorem ana{h:Hz}{j ty:Nat}{Z:Nat->Prop}{l:List V}(hz:Z j)(q:h.get j=some (.row ty 0 .nil l))(hf:V.bn l=true):T.sub Z h.aj (V.Am 0 false l).aI (V.own j).aI:=by
 show T.sub Z h.aj (.sl 0 false (V.aS l)) (.own j);simp only[T.sub];exact⟨trivial,hz,V.eG l hf,by decide,ty,by rw[aK q]; rfl⟩
theorem adi{l:List Str}:T.zW (Rw.strs l).aS=true:=by
 show T.zW (l.map eS)=true;induction l with
 |nil=>rfl
 |cons s r ih=>simp only[bl,T.zW,ih]; rfl
theorem anb{h:Hz}{j i ty:Nat}{Z:Nat->Prop}{l:List Str}(hz:Z j)(q:h.get j=some (.row ty 0 (.strs l) []))(hi:i<=l.length):T.sub Z h.aj (V.row 0 false (.strs (l.take i))).aI (V.rG j 0 i).aI:=by
 show T.sub Z h.aj (.sl 0 false ((l.take i).map eS)) (.rG j 0 i);simp only[T.sub];refine⟨trivial,hz,?_,by decide,ty,l.map eS,?_,by simpa using hi,by simp[List.map_take]⟩
 ·rw[iO]; intro t ht; obtain⟨x,_,rfl⟩:=ax.1 ht; rfl
 ·rw[aK q]; simp[OV.au,Rw.aS,V.aS]
def allNames(p:aF):List Str:=p.states++p.messages++p.values
def U0(l:List Str)(i:Nat):Bool:= !(validName (l.getD i []))||(l.take i).any fun x=>l.getD i []==x
def Eb(p:aF):Int:=bif (List.range (allNames p).length).any (U0 (allNames p)) then 2 else 0
theorem sJ{n:Nat}{f:Nat->Bool}:(List.range n).any f=true↔ ∃ i,i<n/\f i=true:=by
 simp[List.any_eq_true]
theorem S.nM(p:aF)(h0:0<p.states.length)(h1:p.states.length<2^20)(h2:p.messages.length<2^20)(h3:p.values.length<2^20):ak Tryz.prog 77 [.dat (.fM p)] (.int (Eb p)):=by
 have hlen:(allNames p).length<2^30:=by simp only[allNames,aL]; omega
 refine ak.of Bd.nM (by simp) rfl rfl ?_;refine ah.ajk (r:=.strs (allNames p)) (S.ajj p.states p.messages p.values h0 h1 h2 h3) (And.intro (ana (ty:=22) trivial rfl rfl) trivial) adi ?_;refine aG.same [3,14,15] (fun i:Nat=>[(16,.int i)]) (fun i=>i<=(allNames p).length/\(List.range i).any (U0 (allNames p))=false) (fun i=>(allNames p).length-i) 0 rfl (by decide) rfl (fun _=>rfl) ⟨ao _,rfl⟩ ⟨⟨_,rfl,rfl⟩,trivial⟩ ?_;refine⟨rfl,?_⟩;rintro i ⟨hi,hall⟩;refine⟨fun h4=>?_,fun h4=>?_⟩
 ·have hi':i<(allNames p).length:=by simpa using h4
  repeat(refine VC.mk (by simp only[Rw.rng] at *; omega) ?_)
  refine ah.pure (S.fP ((allNames p).getD i [])) rfl ?_;repeat(refine VC.mk (by first|exact fun h=>⟨h,h⟩|(intro h; (repeat' apply And.intro)<;>first|exact h|omega|(simp only[Rw.vT]; omega)|(simp only[Rw.rng]; omega))) ?_)
  refine ah.alI (fun _=>S.slices_Contains_string ((allNames p).take i) ((allNames p).getD i []) false (by rw[bR]; omega)) (fun _=>And.intro (anb (ty:=9) trivial rfl (by omega)) (And.intro (aH _) trivial)) rfl rfl ?_;refine .mk (by intro h; rw[h]; rfl) ?_;refine⟨fun h5=>?_,fun h5=>?_⟩
  ·conv=>whnf
   refine ay.int ?_;rw[Eb,sJ.2 ⟨i,hi',h5⟩]; rfl
  ·conv=>whnf
   refine .mk (by simp only[okI] at *; omega) ?_;refine⟨i+1,⟨by omega,?_⟩,by omega,⟨⟨_,rfl,rfl⟩,trivial⟩,?_,rfl⟩
   ·rw[cp,eT,hall];simp only[ez,List.any_nil,fL,cz]; exact h5
   ·repeat' (first|exact trivial|exact⟨_,rfl,rfl⟩|constructor)
 ·have hi':(allNames p).length<=i:=by simpa using h4
  have e:i=(allNames p).length:=gT hi hi';subst e;exact ay.int (by rw[Eb,hall]; rfl)
theorem ah.sZ{P:Program}{f:FuncId}{args:List V}{h:Hz}{hp0:Hp}{n:Nat}{K:V->Hz->Prop}{KW:Nat->V->Hz->Prop}{post:T->Hp->Prop}(S:aP P f (V.aS args) hp0 n post)(e:h.aj=hp0)(hK: ∀ t hp,post t hp-> ∃ v h',t=v.aI/\hp=Hz.aj h'/\K v h'):ah P false none f args h n K KW:=by
 subst e; exact ah.heap S hK
theorem XP{i:Nat}{a b:Option OV}{r:Hz}:Hz.aj ((i,a)::(i,b)::r)=Hz.aj ((i,a)::r):=funext fun j=>by
 simp only[Hz.aj,Hz.get]; cases Nat.beq i j<;>rfl
structure dW(p:aF):Prop where
 states:p.states.length<2^20
 messages:p.messages.length<2^20
 values:p.values.length<2^20
 dL:p.dL.length<2^30
 initial:p.initial.length<2^30
 leader:p.leader.length<2^30
 rules:p.rules.length<2^30
 rule: ∀ i,wS (p.rules.getD i default)
 uT:(p.rules.flatMap Rule.guards).length<2^30
def wO(p:aF)(i:Nat):Bool:= !(validName (p.rules.getD i default).name)||(p.rules.take i).any fun x=>x.name==(p.rules.getD i default).name
def uw(p:aF)(i:Nat):Bool:= !(yF (p.rules.getD i default).kind p.topology)||oI (p.rules.getD i default) p.topology
def Ah(p:aF)(r:Rule):Int:=bP [dK r.fr p.states.length,dK r.to p.states.length]
def agy(p:aF)(r:Rule):Bool:=decide (r.pos<0)||decide (r.pos>2)||(r.pos !=0&&p.topology==3)
def iW(p:aF)(i:Nat):Int :=
 let r:=p.rules.getD i default
 let n:Int:=p.states.length
 bif wO p i then 2 else bif uw p i then 6 else bif Ah p r !=0 then Ah p r else
 bif r.kind==1 then bP [xO p r.guards,jP r.ex n,jP r.all n,mQ p r.read,mQ p r.write,jP r.send p.messages.length] else
 bif r.kind==2 then bP [dK r.dQ n,dK r.yT n,mQ p r.read,mQ p r.write] else
 bif r.kind==3 then bP [I5 r.response n,mQ p r.read,mQ p r.write] else
 bif r.kind==4 then bP [jP r.left n,jP r.right n,jP r.parent n,fA (agy p r) 1] else
 bif p.topology==4 then bP [dK r.dQ n,dK r.yT n,fA (decide (r.direction<3)||decide (r.direction>4)) 1]
 else bP [dK r.dQ n,dK r.yT n,fA (decide (r.direction<1)||decide (r.direction>2)) 1]
theorem S.jh(p:aF)(i:Nat)(hi:i<p.rules.length)(hp:dW p):ak Tryz.prog 79 [.dat (.fM p),.int i] (.int (iW p i)):=by
 have hr:=hp.rule i;have hp1:=hp.rules;have hp2:=hp.states;have hp3:=hp.messages;refine ak.of Bd.jh (by simp) rfl rfl ?_;repeat(refine VC.mk (by first|(simp only[Rw.vT]; omega)|(simp only[Rw.rng] at *; omega)) ?_)
 refine ah.sZ (S.Va p (p.rules.getD i default) (p.rules.take i) false (by rw[bR]; omega) _) XP ?_;rintro t hp' ⟨rfl,rfl⟩;refine⟨.bool _,hRP p (p.rules.getD i default),rfl,rfl,?_⟩;refine ah.pure (S.fP (p.rules.getD i default).name) rfl ?_;refine .mk (by intro h; rw[h]; rfl) ?_;refine⟨fun h1=>?_,fun h1=>?_⟩
 ·conv=>whnf
  exact ay.int (by rw[iW,show wO p i=true from h1]; rfl)
 ·conv=>whnf
  refine ah.pure (S.oN (p.rules.getD i default).kind p.topology) rfl ?_;repeat(refine VC.mk (by first|exact id|exact fun h=>⟨h,h⟩) ?_)
  refine ah.iJ (fun _=>S.kE (p.rules.getD i default) p.topology hr) rfl ?_;refine .mk (by intro h; rw[h]; rfl) ?_;refine⟨fun h2=>?_,fun h2=>?_⟩
  ·conv=>whnf
   exact ay.int (by rw[iW,show wO p i=false from h1,show uw p i=true from h2]; rfl)
  ·conv=>whnf
   refine ah.pure (S.dA (p.rules.getD i default).fr p.states.length) rfl ?_;refine ah.pure (S.dA (p.rules.getD i default).to p.states.length) rfl ?_;refine ah.pure (S.bW [dK (p.rules.getD i default).fr p.states.length,dK (p.rules.getD i default).to p.states.length] true (show 2<2^40 by decide)) rfl ?_;refine⟨fun h3=>?_,fun h3=>?_⟩
   ·conv=>whnf
    exact ay.int (by rw[iW,show wO p i=false from h1,show uw p i=false from h2,show(Ah p (p.rules.getD i default) !=0)=true from h3]; rfl)
   ·conv=>whnf
    refine⟨fun h4=>?_,fun h4=>?_⟩
    ·conv=>whnf
     refine ah.pure (S.lK p (p.rules.getD i default).guards false (by have:=hr.guards; omega)) rfl ?_;refine ah.pure (S.eH (p.rules.getD i default).ex p.states.length false (by have:=hr.ex; omega)) rfl ?_;refine ah.pure (S.eH (p.rules.getD i default).all p.states.length false (by have:=hr.all; omega)) rfl ?_;refine ah.pure (S.fV p (p.rules.getD i default).read) rfl ?_;refine ah.pure (S.fV p (p.rules.getD i default).write) rfl ?_;refine ah.pure (S.eH (p.rules.getD i default).send p.messages.length false (by have:=hr.send; omega)) rfl ?_;refine ah.pure (S.bW [xO p (p.rules.getD i default).guards,jP (p.rules.getD i default).ex p.states.length,jP (p.rules.getD i default).all p.states.length,mQ p (p.rules.getD i default).read,mQ p (p.rules.getD i default).write,jP (p.rules.getD i default).send p.messages.length] true (show 6<2^40 by decide)) rfl ?_;exact ay.int (by rw[iW,show wO p i=false from h1,show uw p i=false from h2,show(Ah p (p.rules.getD i default) !=0)=false from h3,h4]; rfl)
    ·conv=>whnf
     refine⟨fun h5=>?_,fun h5=>?_⟩
     ·conv=>whnf
      refine ah.pure (S.dA (p.rules.getD i default).dQ p.states.length) rfl ?_;refine ah.pure (S.dA (p.rules.getD i default).yT p.states.length) rfl ?_;refine ah.pure (S.fV p (p.rules.getD i default).read) rfl ?_;refine ah.pure (S.fV p (p.rules.getD i default).write) rfl ?_;refine ah.pure (S.bW [dK (p.rules.getD i default).dQ p.states.length,dK (p.rules.getD i default).yT p.states.length,mQ p (p.rules.getD i default).read,mQ p (p.rules.getD i default).write] true (show 4<2^40 by decide)) rfl ?_;exact ay.int (by rw[iW,show wO p i=false from h1,show uw p i=false from h2,show(Ah p (p.rules.getD i default) !=0)=false from h3,h4,h5]; rfl)
     ·conv=>whnf
      refine⟨fun h6=>?_,fun h6=>?_⟩
      ·conv=>whnf
       refine ah.pure (S.jk (p.rules.getD i default).response p.states.length false (by have:=hr.response; omega)) rfl ?_;refine ah.pure (S.fV p (p.rules.getD i default).read) rfl ?_;refine ah.pure (S.fV p (p.rules.getD i default).write) rfl ?_;refine ah.pure (S.bW [I5 (p.rules.getD i default).response p.states.length,mQ p (p.rules.getD i default).read,mQ p (p.rules.getD i default).write] true (show 3<2^40 by decide)) rfl ?_;exact ay.int (by rw[iW,show wO p i=false from h1,show uw p i=false from h2,show(Ah p (p.rules.getD i default) !=0)=false from h3,h4,h5,h6]; rfl)
      ·conv=>whnf
       refine⟨fun h7=>?_,fun h7=>?_⟩
       ·conv=>whnf
        repeat(refine VC.mk (by first|exact id|(intro h; rw[h]; rfl)|(intro h; simp_all; done)) ?_)
        refine ah.pure (S.eH (p.rules.getD i default).left p.states.length false (by have:=hr.left; omega)) rfl ?_;refine ah.pure (S.eH (p.rules.getD i default).right p.states.length false (by have:=hr.right; omega)) rfl ?_;refine ah.pure (S.eH (p.rules.getD i default).parent p.states.length false (by have:=hr.parent; omega)) rfl ?_;refine ah.pure (S.cZ (agy p (p.rules.getD i default)) 1) rfl ?_;refine ah.pure (S.bW [jP (p.rules.getD i default).left p.states.length,jP (p.rules.getD i default).right p.states.length,jP (p.rules.getD i default).parent p.states.length,fA (agy p (p.rules.getD i default)) 1] true (show 4<2^40 by decide)) rfl ?_;exact ay.int (by rw[iW,show wO p i=false from h1,show uw p i=false from h2,show(Ah p (p.rules.getD i default) !=0)=false from h3,h4,h5,h6,h7]; rfl)
       ·conv=>whnf
        refine⟨fun h8=>?_,fun h8=>?_⟩
        ·conv=>whnf
         refine ah.pure (S.dA (p.rules.getD i default).dQ p.states.length) rfl ?_;refine ah.pure (S.dA (p.rules.getD i default).yT p.states.length) rfl ?_;repeat(refine VC.mk (by first|exact id|exact fun h=>⟨h,h⟩|(intro h; rw[h]; rfl)) ?_)
         refine ah.pure (S.cZ (decide ((p.rules.getD i default).direction<3)||decide ((p.rules.getD i default).direction>4)) 1) rfl ?_;refine ah.pure (S.bW [dK (p.rules.getD i default).dQ p.states.length,dK (p.rules.getD i default).yT p.states.length,fA (decide ((p.rules.getD i default).direction<3)||decide ((p.rules.getD i default).direction>4)) 1] true (show 3<2^40 by decide)) rfl ?_;exact ay.int (by rw[iW,show wO p i=false from h1,show uw p i=false from h2,show(Ah p (p.rules.getD i default) !=0)=false from h3,h4,h5,h6,h7,h8]; rfl)
        ·conv=>whnf
         refine ah.pure (S.dA (p.rules.getD i default).dQ p.states.length) rfl ?_;refine ah.pure (S.dA (p.rules.getD i default).yT p.states.length) rfl ?_;repeat(refine VC.mk (by first|exact id|exact fun h=>⟨h,h⟩|(intro h; rw[h]; rfl)) ?_)
         refine ah.pure (S.cZ (decide ((p.rules.getD i default).direction<1)||decide ((p.rules.getD i default).direction>2)) 1) rfl ?_;refine ah.pure (S.bW [dK (p.rules.getD i default).dQ p.states.length,dK (p.rules.getD i default).yT p.states.length,fA (decide ((p.rules.getD i default).direction<1)||decide ((p.rules.getD i default).direction>2)) 1] true (show 3<2^40 by decide)) rfl ?_;exact ay.int (by rw[iW,show wO p i=false from h1,show uw p i=false from h2,show(Ah p (p.rules.getD i default) !=0)=false from h3,h4,h5,h6,h7,h8]; rfl)
def Bf(g:DR):List DR->Nat->Int
 |[],_=> -1
 |x::r,i=>bif g==x then(i:Int) else Bf g r (i+1)
theorem XH{g:DR}{l:List DR}{i:Nat}:decide (0<=Bf g l i)=l.any fun x=>g==x:=by
 have: ∀ {l:List DR} {i:Nat},0<=Bf g l i↔(l.any fun x=>g==x)=true:=by
  intro l;induction l with
  |nil=>intro i; simp[Bf]
  |cons x r ih =>
   intro i;rw[ez,cY,<- ih (i:=i+1)];show(0:Int)<=(bif g==x then(i:Int) else Bf g r (i+1))↔_;generalize (g==x)=b;cases b<;>simp
 rw[cR,aq]; exact this
theorem S.agN(l:List DR)(g:DR)(f:Bool)(hl:l.length<2^40):ak Tryz.prog 144 [.row 7 f (.uT l),.dat (.Vd g)] (.int (Bf g l 0)):=by
 refine ak.of Bd.fZ (by simp) rfl rfl ?_;refine aG.same [0,3,6,7] (fun i:Nat=>[(8,.int i)]) (fun i=>i<=l.length/\Bf g l 0=Bf g (l.drop i) i) (fun i=>l.length-i) 0 rfl (by decide) rfl (fun _=>rfl) ⟨by omega,by simp⟩ ⟨⟨_,rfl,rfl⟩,trivial⟩ ?_;refine⟨rfl,?_⟩;rintro i ⟨hi,hall⟩;refine⟨fun h3=>?_,fun h3=>?_⟩
 ·have hi':i<l.length:=by simpa using h3
  rw[dO default hi'] at hall;simp only[Bf] at hall;refine .mk (by simp only[Rw.rng] at *; omega) ?_;refine⟨fun h4=>?_,fun h4=>?_⟩
  ·conv=>whnf
   refine ay.int ?_;have h4':(g==l.getD i default)=true:=h4;rw[hall,h4']; rfl
  ·conv=>whnf
   refine .mk (by simp only[okI] at *; omega) ?_;refine⟨i+1,⟨by omega,?_⟩,by omega,⟨⟨_,rfl,rfl⟩,trivial⟩,?_,rfl⟩
   ·have h4':(g==l.getD i default)=false:=h4;rw[hall,h4']; rfl
   ·repeat' (first|exact trivial|exact⟨_,rfl,rfl⟩|constructor)
 ·conv=>whnf
  refine ay.int ?_;have hi':l.length<=i:=by simpa using h3
  rw[hall,cJ hi']; rfl
theorem S.XQ(l:List DR)(g:DR)(f:Bool)(hl:l.length<2^40):ak Tryz.prog 116 [.row 7 f (.uT l),.dat (.Vd g)] (.bool (l.any fun x=>g==x)):=by
 refine ak.of Bd.bM (by simp) rfl rfl ?_;refine ah.pure (S.agN l g f hl) rfl ?_;exact ay.bool XH.symm
theorem agv{h:Hz}{j:Nat}{Z:Nat->Prop}{l:List DR}(hz:Z j)(q:h.get j=some (.row 174 7 (.uT l) [])):T.sub Z h.aj (V.row 7 false (.uT l)).aI (V.own j).aI:=by
 show T.sub Z h.aj (.sl 7 false (l.map QJ)) (.own j);simp only[T.sub];refine⟨trivial,hz,?_,by decide,174,?_⟩
 ·rw[iO]; intro t ht; obtain⟨x,_,rfl⟩:=ax.1 ht; rfl
 ·have:=aK q;rw[this]; simp[OV.au,Rw.aS,V.aS]
theorem J7{α β:Type}{f:β->α->β}{b:β}{l:List α}{i:Nat}{d:α}(h:i<l.length):(l.take (i+1)).foldl f b=f ((l.take i).foldl f b) (l.getD i d):=by
 rw[cQ,eh];simp[List.getElem?_eq_getElem h]
theorem ay.am1{h:Hz}{j:Nat}{l:List DR}(q:h.get j=some (.row 174 7 (.uT l) [])):ay (.row 7 false (.uT l)) (.own j) h:=⟨agv trivial q⟩
def Nj(acc:List DR)(g:DR):List DR:=bif acc.any (fun x=>g==x) then acc else acc++[g]
def Dk(l:List Rule):List DR:=(l.flatMap Rule.guards).foldl Nj []
theorem agO{acc:List DR}{g:DR}:(Nj acc g).length<=acc.length+1:=by
 unfold Nj; cases acc.any (fun x=>g==x)<;>simp
theorem XR: ∀ {l acc:List DR},(l.foldl Nj acc).length<=acc.length+l.length:=by
 intro l;induction l with
 |nil=>intro acc; simp
 |cons g r ih =>
  intro acc;have:=ih (acc:=Nj acc g);have h2:=agO (acc:=acc) (g:=g);simp only[eB,bX]; omega
abbrev rowT(l:List DR):OV:=.row 174 7 (.uT l) []
def Dl(p:aF)(i k:Nat):List DR:=((p.rules.getD i default).guards.take k).foldl Nj (Dk (p.rules.take i))
theorem XI(p:aF)(hp:dW p)(i k:Nat)(_hi:i<p.rules.length):(Dl p i k).length<2^31:=by
 have h1:=XR (l:=(p.rules.getD i default).guards.take k) (acc:=Dk (p.rules.take i));have h2:=XR (l:=(p.rules.take i).flatMap Rule.guards) (acc:=[]);have h3:=(hp.rule i).guards;have h4:((p.rules.take i).flatMap Rule.guards).length<=(p.rules.flatMap Rule.guards).length:=by
  conv=>rhs; rw[<- cK i p.rules,db,aL]
  omega
 have h5:=hp.uT;have h6:((p.rules.getD i default).guards.take k).length<=(p.rules.getD i default).guards.length:=by simp[List.length_take]; omega
 unfold Dl;unfold Dk at h1 ⊢;simp only[cC,fS] at h2;omega
theorem Tq(p:aF){i:Nat}(hi:i<p.rules.length):Dk (p.rules.take (i+1))=Dl p i (p.rules.getD i default).guards.length:=by
 unfold Dl;rw[bm (ba _)];unfold Dk;rw[cQ,db,eh];simp[List.getElem?_eq_getElem hi]
theorem S.iI(p:aF)(hp:dW p):ak Tryz.prog 80 [.dat (.fM p)] (.row 7 false (.uT (Dk p.rules))):=by
 have hp1:=hp.rules;refine ak.of Bd.iI (by simp) rfl rfl ?_;refine aG.nil 3 174 7 (by rfl) rfl rfl rfl ?_;refine aG.objs 1 [9,10] (fun i:Nat=>[(11,.int i),(3,.own 0)]) (fun i=>[(0,rowT (Dk (p.rules.take i)))]) (fun i=>i<=p.rules.length) (fun i=>p.rules.length-i) 0 [7] rfl (by decide) (fun _=>rfl) (ao _) ?_ ?_ ?_
 ·exact(sR rfl)
 ·exact⟨mV rfl rfl,trivial⟩
 refine⟨(sR rfl),rfl,?_⟩;rintro i hi;refine⟨fun h3=>?_,fun h3=>?_⟩
 ·have hi':i<p.rules.length:=by simpa using h3
  refine .mk (by simp only[Rw.rng] at *; first|omega|(simp_all; done)|(simp_all; omega)) ?_;refine aG.objs 1 [9,10,11,16,17] (fun k:Nat=>[(18,.int k),(3,.own 0)]) (fun k=>[(0,rowT (Dl p i k))]) (fun k=>k<=(p.rules.getD i default).guards.length) (fun k=>(p.rules.getD i default).guards.length-k) 0 [0] rfl (by decide) (fun _=>rfl) (ao _) ?_ ?_ ?_
  ·exact(sR rfl)
  ·exact⟨mV rfl rfl,trivial⟩
  refine⟨(sR rfl),rfl,?_⟩;rintro k hk;have hacc:=XI p hp i k hi';have hg:=(hp.rule i).guards;refine⟨fun h4=>?_,fun h4=>?_⟩
  ·have hk':k<(p.rules.getD i default).guards.length:=by simpa using h4
   have hst:Dl p i (k+1)=Nj (Dl p i k) ((p.rules.getD i default).guards.getD k default):=J7 hk';refine .mk (by simp only[Rw.rng] at *; first|omega|(simp_all; done)|(simp_all; omega)) ?_;refine ah.lend (S.XQ (Dl p i k) ((p.rules.getD i default).guards.getD k default) false (by omega)) (And.intro (agv trivial rfl) (And.intro (aH _) trivial)) rfl rfl ?_;refine⟨fun h5=>?_,fun h5=>?_⟩
   ·conv=>whnf
    repeat(refine VC.mk (by first|(show((Dl p i k).length+(0+1))*48<=140737488355328/\(Dl p i k).length+(0+1)<=1152921504606846976; omega)|(simp only[okI] at *; first|omega|(simp_all; done)|(simp_all; omega))) ?_)
    have h5':((Dl p i k).any fun x=>(p.rules.getD i default).guards.getD k default==x)=false:=by simpa using h5
    refine⟨k+1,[13],by omega,by omega,(sR rfl),(sR rfl),⟨rfl,nofun,rfl,rfl,rfl,_,rfl,rfl,rfl,dB.of_eq ?_⟩,trivial⟩;rw[hst,Nj,h5'];rfl
   ·conv=>whnf
    refine .mk (by simp only[okI] at *; first|omega|(simp_all; done)|(simp_all; omega)) ?_;conv=>whnf
    have h5':((Dl p i k).any fun x=>(p.rules.getD i default).guards.getD k default==x)=true:=by simpa using h5
    refine⟨k+1,[0],by omega,by omega,(sR rfl),(sR rfl),⟨rfl,nofun,rfl,rfl,rfl,_,rfl,rfl,rfl,dB.of_eq ?_⟩,trivial⟩;rw[hst,Nj,h5']; rfl
  ·have hk':(p.rules.getD i default).guards.length<=k:=by simpa using h4
   have e:k=(p.rules.getD i default).guards.length:=gT hk hk';subst e;refine .mk (by simp only[okI] at *; first|omega|(simp_all; done)|(simp_all; omega)) ?_;refine⟨i+1,[0],by omega,by omega,(sR rfl),(sR rfl),⟨rfl,nofun,rfl,rfl,rfl,_,rfl,rfl,rfl,dB.of_eq ?_⟩,trivial⟩;rw[Tq p hi']
 ·have hi':p.rules.length<=i:=by simpa using h3
  rw[bm hi'];exact ay.am1 rfl
def yE(p:aF):Bool:=decide (p.topology<1)||decide (p.topology>4)||decide (p.fault<0)||decide (p.fault>3)
def zo(p:aF):Bool:=decide ((p.states.length:Int)>6)||decide ((p.messages.length:Int)>3)||decide ((p.values.length:Int)>3)||decide ((p.dL.length:Int)>4)||decide ((p.rules.length:Int)>8)
def UU(p:aF):Bool:=(!(p.topology==1)&&(decide ((p.messages.length:Int)>0)||decide ((p.values.length:Int)>0)||decide ((p.dL.length:Int)>0)||p.fault !=0))||((p.topology==1)&&decide ((p.leader.length:Int)>0))
def BM(p:aF):Int:=bP [jP p.initial p.states.length,fA ((p.initial.length:Int)==0) 1,jP p.leader p.states.length]
def Hq(p:aF):Int:=bP ((List.range p.rules.length).map (iW p))
def bV(p:aF):Int :=
 bif !(validName p.name) then 2 else bif yE p then 1 else bif (p.states.length:Int)==0 then 1 else bif zo p then 4 else
 bif Eb p !=0 then Eb p else bif UU p then 1 else
 bif p.dL.any (fun l=> !(XD l)) then 4 else
 bif BM p !=0 then BM p else
 bif Hq p !=0 then Hq p else fA (decide (((Dk p.rules).length:Int)>3)) 4
theorem Qp{n i:Nat}{f:Nat->Int}(h:i<n):((List.range n).drop i).map f=f i::((List.range n).drop (i+1)).map f:=by
 rw[eD (by simpa using h)]; simp
theorem S.gJ(p:aF)(hp:dW p):ak Tryz.prog 42 [.dat (.fM p)] (.int (bV p)):=by
 have g1:=hp.states; have g2:=hp.messages; have g3:=hp.values; have g4:=hp.dL; have g5:=hp.initial; have g6:=hp.leader; have g7:=hp.rules;refine ak.of Bd.gJ (by simp) rfl rfl ?_;refine ah.pure (S.fP p.name) rfl ?_;refine⟨fun h1=>?_,fun h1=>?_⟩
 ·conv=>whnf
  exact ay.int (by rw[bV,h1]; rfl)
 repeat(refine VC.mk (by first|exact id|(intro h; rw[h]; rfl)) ?_)
 refine⟨fun h2=>?_,fun h2=>?_⟩
 ·conv=>whnf
  exact ay.int (by rw[bV,h1,show yE p=true from h2]; rfl)
 refine⟨fun h3=>?_,fun h3=>?_⟩
 ·conv=>whnf
  exact ay.int (by rw[bV,h1,show yE p=false from h2,h3]; rfl)
 repeat(refine VC.mk (by first|exact id|(intro h; rw[h]; rfl)) ?_)
 refine⟨fun h4=>?_,fun h4=>?_⟩
 ·conv=>whnf
  exact ay.int (by rw[bV,h1,show yE p=false from h2,h3,show zo p=true from h4]; rfl)
 conv=>whnf
 have h0:0<p.states.length:=by
  rcases Nat.eq_zero_or_pos p.states.length with e|e
  ·rw[e] at h3; exact absurd h3 (by decide)
  ·exact e
 refine ah.pure (S.nM p h0 g1 g2 g3) rfl ?_;refine⟨fun h5=>?_,fun h5=>?_⟩
 ·conv=>whnf
  exact ay.int (by rw[bV,h1,show yE p=false from h2,h3,show zo p=false from h4,h5]; rfl)
 repeat(refine VC.mk (by first|exact id|(intro h; rw[h]; rfl)|(intro h; simp_all; done)) ?_)
 refine⟨fun h6=>?_,fun h6=>?_⟩
 ·conv=>whnf
  exact ay.int (by rw[bV,h1,show yE p=false from h2,h3,show zo p=false from h4,h5,show UU p=true from h6]; rfl)
 refine aG.same [1,4,111,112] (fun i:Nat=>[(113,.int i)]) (fun i=>i<=p.dL.length/\(p.dL.take i).any (fun l=> !(XD l))=false) (fun i=>p.dL.length-i) 0 rfl (by decide) rfl (fun _=>rfl) ⟨by omega,by simp⟩ ⟨⟨_,rfl,rfl⟩,trivial⟩ ?_;refine⟨rfl,?_⟩;rintro i ⟨hi,hall⟩;refine⟨fun h7=>?_,fun h7=>?_⟩
 ·have hi':i<p.dL.length:=by simpa using h7
  refine .mk (by simp only[Rw.rng] at *; omega) ?_;refine ah.pure (S.jq (p.dL.getD i default)) rfl ?_;refine⟨fun h8=>?_,fun h8=>?_⟩
  ·conv=>whnf
   exact ay.int (by rw[bV,h1,show yE p=false from h2,h3,show zo p=false from h4,h5,show UU p=false from h6,lD (d:=default) hi' h8]; rfl)
  ·conv=>whnf
   refine .mk (by simp only[okI] at *; omega) ?_;refine⟨i+1,⟨by omega,?_⟩,by omega,⟨⟨_,rfl,rfl⟩,trivial⟩,?_,rfl⟩
   ·rw[o7 (d:=default) hi' hall]; exact h8
   ·repeat' (first|exact trivial|exact⟨_,rfl,rfl⟩|constructor)
 have hi':p.dL.length<=i:=by simpa using h7
 rw[bm hi'] at hall;refine ah.pure (S.eH p.initial p.states.length false (by omega)) rfl ?_;refine ah.pure (S.cZ ((p.initial.length:Int)==0) 1) rfl ?_;refine ah.pure (S.eH p.leader p.states.length false (by omega)) rfl ?_;refine ah.pure (S.bW [jP p.initial p.states.length,fA ((p.initial.length:Int)==0) 1,jP p.leader p.states.length] true (show 3<2^40 by decide)) rfl ?_;refine⟨fun h9=>?_,fun h9=>?_⟩
 ·conv=>whnf
  exact ay.int (by rw[bV,h1,show yE p=false from h2,h3,show zo p=false from h4,h5,show UU p=false from h6,hall,show(BM p !=0)=true from h9]; rfl)
 refine aG.same [1,140,141] (fun i:Nat=>[(142,.int i)]) (fun i=>i<=p.rules.length/\Hq p=bP (((List.range p.rules.length).drop i).map (iW p))) (fun i=>p.rules.length-i) 0 rfl (by decide) rfl (fun _=>rfl) ⟨by omega,by simp[Hq]⟩ ⟨⟨_,rfl,rfl⟩,trivial⟩ ?_;refine⟨rfl,?_⟩;rintro i ⟨hi,hr⟩;refine⟨fun h10=>?_,fun h10=>?_⟩
 ·have hi':i<p.rules.length:=by simpa using h10
  rw[Qp hi'] at hr;simp only[bP] at hr;refine ah.pure (S.jh p i hi' hp) rfl ?_;refine⟨fun h11=>?_,fun h11=>?_⟩
  ·conv=>whnf
   have aly:iW p i≠0:=XJ h11;rw[bB aly] at hr;exact ay.int (by rw[bV,h1,show yE p=false from h2,h3,show zo p=false from h4,h5,show UU p=false from h6,hall,show(BM p !=0)=false from h9,hr,h11]; rfl)
  ·conv=>whnf
   refine .mk (by simp only[okI] at *; omega) ?_;conv=>whnf
   have aly:iW p i=0:=II h11;rw[bc aly] at hr;refine⟨i+1,⟨by omega,hr⟩,by omega,⟨⟨_,rfl,rfl⟩,trivial⟩,?_,rfl⟩;repeat' (first|exact trivial|exact⟨_,rfl,rfl⟩|constructor)
 have hi':p.rules.length<=i:=by simpa using h10
 rw[cJ (by simpa using hi')] at hr;refine ah.pure (S.iI p hp) rfl ?_;refine ah.pure (S.cZ (decide (((Dk p.rules).length:Int)>3)) 4) rfl ?_;exact ay.int (by rw[bV,h1,show yE p=false from h2,h3,show zo p=false from h4,h5,show UU p=false from h6,hall,show(BM p !=0)=false from h9,hr]; rfl)
theorem ay.eqv{a b:V}{h:Hz}(e:a.aI=b.aI):ay a b h:=⟨by rw[e]; exact aH _⟩
def anc(acc:Bool)(r:Rule):Bool:=acc&&(r.kind==1)&&decide (r.fr<r.to)&&((r.ex.length:Int)==0)&&((r.all.length:Int)==0)
def agU(acc:Bool)(r:Rule):Bool:=acc||decide ((r.all.length:Int)>0)
def Bj(p:aF):Bool:=(p.topology==1)&&(p.fault==0)&&((p.messages.length:Int)==0)&&((p.dL.length:Int)==0)
structure Cls where
 Vd:Bool
 cover:Bool
 word:Bool
 tree:Bool
 monadic:Bool
def kS(p:aF):Cls :=
 ⟨(p.topology==1)&&((p.values.length:Int)==0)&&p.rules.foldl anc true,Bj p&& !(p.rules.foldl agU false),(p.topology==2)||(p.topology==3),p.topology==4,Bj p&&decide ((p.states.length:Int)<=4)⟩
def aob(c:Cls):V:=.agg [.bool c.Vd,.bool c.cover,.bool c.word,.bool c.tree,.bool c.monadic]
def ZE:Cls:=⟨false,false,false,false,false⟩
def Zt(p:aF):V:=.dD [aob (bif bV p !=0 then ZE else kS p),.int (bV p)]
theorem S.iK(p:aF)(hp:dW p):ak Tryz.prog 24 [.dat (.fM p)] (Zt p):=by
 have g1:=hp.states; have g2:=hp.messages; have g3:=hp.values; have g4:=hp.dL; have g7:=hp.rules;refine ak.of Bd.iK (by simp) rfl rfl ?_;refine ah.pure (S.gJ p hp) rfl ?_;refine⟨fun h1=>?_,fun h1=>?_⟩
 ·conv=>whnf
  refine ay.eqv ?_;rw[Zt,h1]; rfl
 have h1':bV p=0:=II h1;refine aG.same [1,2,3,18,19] (fun i:Nat=>[(20,.int i),(5,.bool ((p.rules.take i).foldl anc true)),(6,.bool ((p.rules.take i).foldl agU false))]) (fun i=>i<=p.rules.length) (fun i=>p.rules.length-i) 0 rfl (by decide) rfl (fun _=>rfl) (ao _) ⟨⟨_,rfl,rfl⟩,⟨_,rfl,rfl⟩,⟨_,rfl,rfl⟩,trivial⟩ ?_;refine⟨rfl,?_⟩;rintro i hi;have g8:=hp.rule i;have g9:=g8.ex; have g10:=g8.all;refine⟨fun h7=>?_,fun h7=>?_⟩
 ·have hi':i<p.rules.length:=by simpa using h7
  repeat(refine VC.mk (by first|exact id|exact fun h=>⟨h,h⟩|(intro h; rw[h]; rfl)|(simp only[okI,Rw.rng] at *; omega)) ?_)
  refine⟨i+1,by omega,by omega,⟨⟨_,rfl,rfl⟩,⟨_,rfl,?_⟩,⟨_,rfl,?_⟩,trivial⟩,?_,rfl⟩
  ·rw[J7 (d:=default) hi']; rfl
  ·rw[J7 (d:=default) hi']; rfl
  ·repeat' (first|exact trivial|exact⟨_,rfl,rfl⟩|constructor)
 have hi':p.rules.length<=i:=by simpa using h7
 rw[bm hi'];repeat(refine VC.mk (by first|exact id|(intro h; rw[h]; rfl)) ?_)
 refine ay.eqv ?_;rw[Zt,h1'];rfl
def oU(r:Rule)(t:Int):Bool :=
 bif !(r.kind==1)&&(decide ((r.guards.length:Int)>0)||decide ((r.ex.length:Int)>0)||decide ((r.all.length:Int)>0)||decide ((r.send.length:Int)>0)) then true else
 bif !(r.kind==1)&& !(r.kind==2)&& !(r.kind==3)&&(r.read != -1||r.write != -1) then true else
 bif !(r.kind==2)&& !(r.kind==5)&&(r.dQ !=0||r.yT !=0) then true else
 bif (!(r.kind==3)&&decide ((r.response.length:Int)>0))||(!(r.kind==5)&&r.direction !=0) then true else
 bif !(r.kind==4)&&(r.pos !=0||decide ((r.left.length:Int)>0)||decide ((r.right.length:Int)>0)) then true else
 decide ((r.parent.length:Int)>0)&& !((r.kind==4)&&(t==4))
theorem gt0{n:Nat}:decide ((n:Int)>0)= !(n==0):=by
 cases n with
 |zero=>rfl
 |succ n=>rw[cI (by omega)]; rfl
theorem aoc(a b c d e f g h:Nat):decide ((a:Int)+b+c+d+e+f+g+h>0)=(!(a==0)|| !(b==0)|| !(c==0)|| !(d==0)|| !(e==0)|| !(f==0)|| !(g==0)|| !(h==0)):=by
 rw[cR];simp only[aq,cY,bq,cE,ne_eq];omega
theorem zq{r:Rule}{t:Int}(h:1<=r.kind/\r.kind<=5):oU r t=oI r t:=by
 have hk:r.kind=1\/r.kind=2\/r.kind=3\/r.kind=4\/r.kind=5:=by omega
 simp only[oU,oI,IG,gt0,aoc,bne];generalize (r.guards.length==0)=g1;generalize (r.ex.length==0)=g2;generalize (r.all.length==0)=g3;generalize (r.send.length==0)=g4;generalize (r.response.length==0)=g5;generalize (r.left.length==0)=g6;generalize (r.right.length==0)=g7;generalize (r.parent.length==0)=g8;generalize (r.read== -1)=g9;generalize (r.write== -1)=g10;generalize (r.dQ==0)=g11;generalize (r.yT==0)=g12;generalize (r.direction==0)=g13;generalize (r.pos==0)=g14
 rcases hk with hk|hk|hk|hk|hk<;>rw[hk] <;>
  (first
   |(simp; done)
   |(cases (t==4)<;>simp<;>grind)
   |(simp; grind))
end Go.Proofs.YtdloaandiobgdaaGreatDoor
