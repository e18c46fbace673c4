/-
 A part of the proof. No condition.
-/
import Derived.Test.YtkmldgihhaooaaaGreatDoorNb
import Derived.Test.YtkmldgihhaooaaaGreatDoorLg
namespace Go.Proofs.YtkmldgihhaooaaaGreatDoor
open Go.Ab Go.Proofs
set_option maxRecDepth 100000
def dP(b:Bool)(e:Int):Int:=bif b then e else 0
theorem S.bW(b:Bool)(e:Int):aj Tryz.prog 111 [.bool b,.int e] (.int (dP b e)):=by
 refine aj.of Bd.bW (by simp) rfl rfl ?_
 refine⟨fun h=>?_,fun h=>?_⟩
 ·conv=>whnf
  exact ak.int (by rw[h]; rfl)
 ·conv=>whnf
  exact ak.int (by rw[h]; rfl)
def qX(i n:Int):Bool:=decide (i<0)||decide (i>=n)
def dA(i n:Int):Int:=dP (qX i n) 5
theorem S.bY(i n:Int):aj Tryz.prog 137 [.int i,.int n] (.int (dA i n)):=by
 refine aj.of Bd.bY (by simp) rfl rfl ?_
 repeat(refine VC.mk (by first|exact fun h=>⟨h,h⟩|(intro h; rw[h]; rfl)) ?_)
 refine ah.pure (S.bW (qX i n) 5) rfl ?_
 exact ak.int rfl
def bH:List Int->Int
 |[]=>0
 |e::r=>if e=0 then bH r else e
theorem S.bM(l:List Int)(f:Bool)(hl:l.length<2^40):aj Tryz.prog 110 [.row 0 f (.ints l)] (.int (bH l)):=by
 refine aj.of Bd.bM (by simp) rfl rfl ?_
 refine aC.same [5,6] (fun i:Nat=>[(7,.int i)]) (fun i=>i<=l.length/\bH l=bH (l.drop i)) (fun i=>l.length-i) 0 rfl (by decide) rfl (fun _=>rfl) ⟨by omega,by simp⟩ ⟨⟨_,rfl,rfl⟩,trivial⟩ ?_
 refine⟨rfl,?_⟩
 rintro i ⟨hi,hall⟩
 refine⟨fun h3=>?_,fun h3=>?_⟩
 ·have hi':i<l.length:=by simpa using h3
  rw[dn 0 hi'] at hall
  simp only[bH] at hall
  refine .mk (by simp only[Rw.rng] at *; omega) ?_
  refine⟨fun h4=>?_,fun h4=>?_⟩
  ·conv=>whnf
   refine ak.int ?_
   have:l.getD i 0≠0:=by simpa using h4
   rw[hall,if_neg this]; rfl
  ·conv=>whnf
   refine .mk (by simp only[okI] at *; omega) ?_
   conv=>whnf
   have:l.getD i 0=0:=by simpa using h4
   rw[if_pos this] at hall
   refine⟨i+1,⟨by omega,hall⟩,by omega,⟨⟨_,rfl,rfl⟩,trivial⟩,?_,rfl⟩
   repeat' (first|exact trivial|exact⟨_,rfl,rfl⟩|constructor)
 ·conv=>whnf
  refine ak.int ?_
  have hi':l.length<=i:=by simpa using h3
  rw[hall,List.drop_eq_nil_of_le hi']; rfl
def GI:List Int->Bool
 |a::b::r=>decide (a<b)&&GI (b::r)
 |_=>true
def jA(l:List Int)(n:Int):Int:=bif l.any (fun i=>qX i n) then 5 else bif GI l then 0 else 1
theorem S.eG(l:List Int)(n:Int)(f:Bool)(hl:l.length<2^40):aj Tryz.prog 109 [.row 0 f (.ints l),.int n] (.int (jA l n)):=by
 refine aj.of Bd.eG (by simp) rfl rfl ?_
 refine aC.same [0,1,8,9] (fun i:Nat=>[(10,.int i)]) (fun i=>i<=l.length/\(l.take i).any (fun i=>qX i n)=false) (fun i=>l.length-i) 0 rfl (by decide) rfl (fun _=>rfl) ⟨by omega,by simp⟩ ⟨⟨_,rfl,rfl⟩,trivial⟩ ?_
 refine⟨rfl,?_⟩
 rintro i ⟨hi,hall⟩
 refine⟨fun h3=>?_,fun h3=>?_⟩
 ·have hi':i<l.length:=by simpa using h3
  repeat(refine VC.mk (by first|exact fun h=>⟨h,h⟩|(intro h; rw[h]; rfl)|(simp only[Rw.rng] at *; omega)) ?_)
  refine⟨fun h4=>?_,fun h4=>?_⟩
  ·conv=>whnf
   refine ak.int ?_
   rw[jA,jL (d:=0) hi' h4]; rfl
  ·conv=>whnf
   refine .mk (by simp only[okI] at *; omega) ?_
   refine⟨i+1,⟨by omega,?_⟩,by omega,⟨⟨_,rfl,rfl⟩,trivial⟩,?_,rfl⟩
   ·rw[mV (d:=0) hi' hall]; exact h4
   ·repeat' (first|exact trivial|exact⟨_,rfl,rfl⟩|constructor)
 ·have hi':l.length<=i:=by simpa using h3
  rw[List.take_of_length_le hi'] at hall
  refine aC.same [0] (fun i:Nat=>[(7,.int (i+1))]) (fun i=>(i<l.length\/i=0)/\GI l=GI (l.drop i)) (fun i=>l.length-i) 0 rfl (by decide) rfl (fun _=>rfl) ⟨by omega,by simp⟩ ⟨⟨_,rfl,rfl⟩,trivial⟩ ?_
  refine⟨rfl,?_⟩
  rintro i ⟨hi,hinc⟩
  refine⟨fun h5=>?_,fun h5=>?_⟩
  ·have hi1:i+1<l.length:=by have:=of_decide_eq_true h5; omega
   rw[dn 0 (show i<l.length by omega),dn 0 hi1] at hinc
   simp only[GI] at hinc
   rw[<- dn 0 hi1] at hinc
   repeat(refine VC.mk (by simp only[okI,Rw.rng] at *; omega) ?_)
   refine⟨fun h6=>?_,fun h6=>?_⟩
   ·conv=>whnf
    refine ak.int ?_
    have e1:((i:Int)+1).toNat=i+1:=by omega
    have e2:((i:Int)+1-1).toNat=i:=by omega
    rw[e1,e2] at h6
    have h6':l.getD (i+1) 0<=l.getD i 0:=of_decide_eq_true h6
    rw[jA,hall,hinc,decide_eq_false (by omega)]; rfl
   ·conv=>whnf
    refine .mk (by simp only[okI] at *; omega) ?_
    conv=>whnf
    have e1:((i:Int)+1).toNat=i+1:=by omega
    have e2:((i:Int)+1-1).toNat=i:=by omega
    rw[e1,e2] at h6
    have h6': ¬ l.getD (i+1) 0<=l.getD i 0:=of_decide_eq_false h6
    rw[decide_eq_true (by omega),Bool.true_and] at hinc
    refine⟨i+1,⟨by omega,hinc⟩,by omega,⟨⟨_,rfl,rfl⟩,trivial⟩,?_,rfl⟩
    repeat' (first|exact trivial|exact⟨_,rfl,rfl⟩|constructor)
  ·conv=>whnf
   refine ak.int ?_
   have h5': ¬ ((i:Int)+1<l.length):=of_decide_eq_false h5
   have:GI l=true:=by
    rw[hinc]
    rcases hd:l.drop i with _|⟨a,_|⟨b,r⟩⟩
    ·rfl
    ·rfl
    ·have:=congrArg List.length hd
     simp only[List.length_drop,List.length_cons] at this
     omega
   rw[jA,hall,this]; rfl
def ach(n:Int):Bool:=decide (n>= -100)&&decide (n<=100)
theorem S.iH(n:Int):aj Tryz.prog 156 [.int n] (.bool (ach n)):=by
 refine aj.of Bd.iH (by simp) rfl rfl ?_
 repeat(refine VC.mk id ?_)
 exact ak.bool rfl
def TJ(l:Lin):Bool:=ach l.c&&ach l.n&&ach l.t&&ach l.f
theorem S.jK(l:Lin):aj Tryz.prog 133 [.dat (.lin l)] (.bool (TJ l)):=by
 refine aj.of Bd.jK (by simp) rfl rfl ?_
 refine ah.pure (S.iH l.c) rfl ?_
 repeat(refine VC.mk id ?_)
 refine ah.ig (fun _=>S.iH l.n) rfl ?_
 repeat(refine VC.mk id ?_)
 refine ah.ig (fun _=>S.iH l.t) rfl ?_
 repeat(refine VC.mk id ?_)
 refine ah.ig (fun _=>S.iH l.f) rfl ?_
 refine VC.mk id ?_
 exact ak.bool rfl
def jM(p:aO)(v:Int):Int:=dP (decide (v< -1)||decide (v>=p.values.length)) 5
theorem S.gB(p:aO)(v:Int):aj Tryz.prog 162 [.dat (.iI p),.int v] (.int (jM p v)):=by
 refine aj.of Bd.gB (by simp) rfl rfl ?_
 repeat(refine VC.mk (by first|exact id|exact fun h=>⟨h,h⟩|(intro h; rw[h]; rfl)) ?_)
 refine ah.pure (S.bW _ 5) rfl ?_
 exact ak.int rfl
theorem TR{a:Int}(h:(a !=0)=true):a≠0:=by simpa using h
theorem DJ{a:Int}(h:(a !=0)=false):a=0:=by simpa using h
def vC(k t:Int):Bool:=bif k==1||k==2||k==3 then t==1 else bif k==4||k==5 then !(t==1) else false
theorem S.qw(k t:Int):aj Tryz.prog 159 [.int k,.int t] (.bool (vC k t)):=by
 refine aj.of Bd.qw (by simp) rfl rfl ?_
 refine⟨fun h1=>?_,fun h1=>?_⟩
 ·conv=>whnf
  refine Fork.mk (fun _=>?_) (fun q=>absurd (q.symm.trans (h1)) Bool.false_ne_true)
  exact ak.bool (by simp[vC,h1])
 ·conv=>whnf
  refine⟨fun h2=>?_,fun h2=>?_⟩
  ·conv=>whnf
   refine Fork.mk (fun _=>?_) (fun q=>absurd (q.symm.trans (h2)) Bool.false_ne_true)
   exact ak.bool (by simp[vC,h1,h2])
  ·conv=>whnf
   refine⟨fun h3=>?_,fun h3=>?_⟩
   ·conv=>whnf
    exact ak.bool (by simp[vC,h1,h2,h3])
   ·conv=>whnf
    refine⟨fun h4=>?_,fun h4=>?_⟩
    ·conv=>whnf
     refine Fork.mk (fun _=>?_) (fun q=>absurd (q.symm.trans (h4)) Bool.false_ne_true)
     exact ak.bool (by simp[vC,h1,h2,h3,h4,bne])
    ·conv=>whnf
     refine⟨fun h5=>?_,fun h5=>?_⟩
     ·conv=>whnf
      exact ak.bool (by simp[vC,h1,h2,h3,h4,h5,bne])
     ·conv=>whnf
      exact ak.bool (by simp[vC,h1,h2,h3,h4,h5])
def qE:List Int->Int->Int
 |[],_=>0
 |x::r,n=>if dA x n=0 then qE r n else dA x n
def Fa(l:List Int)(n:Int):Int:=bif (l.length:Int) !=n then 1 else qE l n
theorem S.jY(l:List Int)(n:Int)(f:Bool)(hl:l.length<2^40):aj Tryz.prog 163 [.row 0 f (.ints l),.int n] (.int (Fa l n)):=by
 refine aj.of Bd.jY (by simp) rfl rfl ?_
 refine⟨fun h=>?_,fun h=>?_⟩
 ·conv=>whnf
  exact ak.int (by rw[Fa,h]; rfl)
 ·conv=>whnf
  refine aC.same [0,1,12,13] (fun i:Nat=>[(14,.int i)]) (fun i=>i<=l.length/\qE l n=qE (l.drop i) n) (fun i=>l.length-i) 0 rfl (by decide) rfl (fun _=>rfl) ⟨by omega,by simp⟩ ⟨⟨_,rfl,rfl⟩,trivial⟩ ?_
  refine⟨rfl,?_⟩
  rintro i ⟨hi,hall⟩
  refine⟨fun h3=>?_,fun h3=>?_⟩
  ·have hi':i<l.length:=by simpa using h3
   rw[dn 0 hi'] at hall
   simp only[qE] at hall
   refine .mk (by simp only[Rw.rng] at *; omega) ?_
   refine ah.pure (S.bY (l.getD i 0) n) rfl ?_
   refine⟨fun h4=>?_,fun h4=>?_⟩
   ·conv=>whnf
    refine ak.int ?_
    have:dA (l.getD i 0) n≠0:=by simpa using h4
    rw[Fa,h,cond_false,hall,if_neg this]
   ·conv=>whnf
    refine .mk (by simp only[okI] at *; omega) ?_
    conv=>whnf
    have:dA (l.getD i 0) n=0:=by simpa using h4
    rw[if_pos this] at hall
    refine⟨i+1,⟨by omega,hall⟩,by omega,⟨⟨_,rfl,rfl⟩,trivial⟩,?_,rfl⟩
    repeat' (first|exact trivial|exact⟨_,rfl,rfl⟩|constructor)
  ·conv=>whnf
   refine ak.int ?_
   have hi':l.length<=i:=by simpa using h3
   rw[Fa,h,cond_false,hall,List.drop_eq_nil_of_le hi']; rfl
def guardE(p:aO)(g:AB):Int:=bH [dA g.message p.messages.length,dP (decide (g.FZ<1)||decide (g.FZ>100)) 1,dP (!(TJ g.bound)) 4]
def kE(p:aO):List AB->Int
 |[]=>0
 |g::r=>if guardE p g=0 then kE p r else guardE p g
def yD(p:aO)(l:List AB):Int:=if kE p l=0 then dP (decide ((l.length:Int)>2)) 4 else kE p l
theorem S.nI(p:aO)(l:List AB)(f:Bool)(hl:l.length<2^40):aj Tryz.prog 161 [.dat (.iI p),.row 7 f (.rC l)] (.int (yD p l)):=by
 refine aj.of Bd.nI (by simp) rfl rfl ?_
 refine aC.same [1,2,8,9] (fun i:Nat=>[(10,.int i)]) (fun i=>i<=l.length/\kE p l=kE p (l.drop i)) (fun i=>l.length-i) 0 rfl (by decide) rfl (fun _=>rfl) ⟨by omega,by simp⟩ ⟨⟨_,rfl,rfl⟩,trivial⟩ ?_
 refine⟨rfl,?_⟩
 rintro i ⟨hi,hall⟩
 refine⟨fun h3=>?_,fun h3=>?_⟩
 ·have hi':i<l.length:=by simpa using h3
  rw[dn default hi'] at hall
  simp only[kE] at hall
  refine .mk (by simp only[Rw.rng] at *; omega) ?_
  refine ah.pure (S.bY (l.getD i default).message p.messages.length) rfl ?_
  repeat(refine VC.mk (by first|exact id|(intro h; rw[h]; rfl)) ?_)
  refine ah.pure (S.bW (decide ((l.getD i default).FZ<1)||decide ((l.getD i default).FZ>100)) 1) rfl ?_
  refine ah.pure (S.jK (l.getD i default).bound) rfl ?_
  refine ah.pure (S.bW (!(TJ (l.getD i default).bound)) 4) rfl ?_
  refine ah.pure (S.bM [dA (l.getD i default).message p.messages.length,dP (decide ((l.getD i default).FZ<1)||decide ((l.getD i default).FZ>100)) 1,dP (!(TJ (l.getD i default).bound)) 4] true (show 3<2^40 by decide)) rfl ?_
  refine⟨fun h4=>?_,fun h4=>?_⟩
  ·conv=>whnf
   refine ak.int ?_
   have h4':guardE p (l.getD i default)≠0:=TR h4
   rw[if_neg h4'] at hall
   rw[yD,hall,if_neg h4']; rfl
  ·conv=>whnf
   refine .mk (by simp only[okI] at *; omega) ?_
   conv=>whnf
   have h4':guardE p (l.getD i default)=0:=DJ h4
   rw[if_pos h4'] at hall
   refine⟨i+1,⟨by omega,hall⟩,by omega,⟨⟨_,rfl,rfl⟩,trivial⟩,?_,rfl⟩
   repeat' (first|exact trivial|exact⟨_,rfl,rfl⟩|constructor)
 ·have hi':l.length<=i:=by simpa using h3
  rw[List.drop_eq_nil_of_le hi'] at hall
  refine ah.pure (S.bW (decide ((l.length:Int)>2)) 4) rfl ?_
  exact ak.int (by rw[yD,hall]; rfl)
structure uT(r:Rule):Prop where
 response:r.response.length<2^30
 guards:r.guards.length<2^30
 ex:r.ex.length<2^30
 all:r.all.length<2^30
 send:r.send.length<2^30
 left:r.left.length<2^30
 right:r.right.length<2^30
 parent:r.parent.length<2^30
def EW(r:Rule):Bool :=
 decide ((r.response.length:Int)+r.guards.length+r.ex.length+r.all.length+r.send.length+r.left.length+r.right.length+r.parent.length>0)||r.iV !=0||r.zI !=0||r.pos !=0||r.direction !=0||r.read != -1||r.write != -1
def kT(r:Rule)(t:Int):Bool :=
 bif r.kind==1 then EW {r with guards:=[],ex:=[],all:=[],send:=[],read:= -1,write:= -1} else
 bif r.kind==2 then(bif decide ((r.response.length:Int)>0) then true else EW {r with iV:=0,zI:=0,response:=[],read:= -1,write:= -1}) else
 bif r.kind==3 then EW {r with response:=[],read:= -1,write:= -1} else
 bif r.kind==4 then(bif t==4 then EW {r with pos:=0,left:=[],right:=[],parent:=[]} else EW {r with pos:=0,left:=[],right:=[]}) else
 bif r.kind==5 then EW {r with iV:=0,zI:=0,direction:=0} else EW r
theorem S.lX(r:Rule)(t:Int)(hs:uT r):aj Tryz.prog 160 [.dat (.rule r),.int t] (.bool (kT r t)):=by
 obtain⟨g1,g2,g3,g4,g5,g6,g7,g8⟩:=hs
 refine aj.of Bd.lX (by simp) rfl rfl ?_
 refine⟨fun h1=>?_,fun h1=>?_⟩
 ·conv=>whnf
  repeat(refine VC.mk (by first|exact id|(intro h; rw[h]; rfl)|(simp only[okI] at *; omega)) ?_)
  exact ak.bool (by simp[kT,EW,h1])
 ·conv=>whnf
  refine⟨fun h2=>?_,fun h2=>?_⟩
  ·conv=>whnf
   refine⟨fun h6=>?_,fun h6=>?_⟩
   ·conv=>whnf
    exact ak.bool (by rw[kT,h1,h2,show decide ((r.response.length:Int)>0)=true from h6]; rfl)
   ·conv=>whnf
    repeat(refine VC.mk (by first|exact id|(intro h; rw[h]; rfl)|(simp only[okI] at *; omega)) ?_)
    exact ak.bool (by rw[kT,h1,h2,show decide ((r.response.length:Int)>0)=false from h6]; simp[EW])
  ·conv=>whnf
   refine⟨fun h3=>?_,fun h3=>?_⟩
   ·conv=>whnf
    repeat(refine VC.mk (by first|exact id|(intro h; rw[h]; rfl)|(simp only[okI] at *; omega)) ?_)
    exact ak.bool (by simp[kT,EW,h1,h2,h3])
   ·conv=>whnf
    refine⟨fun h4=>?_,fun h4=>?_⟩
    ·conv=>whnf
     refine⟨fun h7=>?_,fun h7=>?_⟩
     ·conv=>whnf
      repeat(refine VC.mk (by first|exact id|(intro h; rw[h]; rfl)|(simp only[okI] at *; omega)) ?_)
      exact ak.bool (by simp[kT,EW,h1,h2,h3,h4,h7])
     ·conv=>whnf
      repeat(refine VC.mk (by first|exact id|(intro h; rw[h]; rfl)|(simp only[okI] at *; omega)) ?_)
      exact ak.bool (by simp[kT,EW,h1,h2,h3,h4,h7])
    ·conv=>whnf
     refine⟨fun h5=>?_,fun h5=>?_⟩
     ·conv=>whnf
      repeat(refine VC.mk (by first|exact id|(intro h; rw[h]; rfl)|(simp only[okI] at *; omega)) ?_)
      exact ak.bool (by simp[kT,EW,h1,h2,h3,h4,h5])
     ·conv=>whnf
      repeat(refine VC.mk (by first|exact id|(intro h; rw[h]; rfl)|(simp only[okI] at *; omega)) ?_)
      exact ak.bool (by simp[kT,EW,h1,h2,h3,h4,h5])
def aci(h:Hz):Hz->Prop
 |[]=>True
 |(i,o)::r=>h.get i=o/\aci h r
theorem Zo{h:Hz}: ∀ {h0:Hz},aci h h0-> ∀ {i:Nat} {o:OV},h0.get i=some o->h.get i=some o:=by
 intro h0
 induction h0 with
 |nil=>intro _ i o e; cases e
 |cons p r ih =>
  obtain⟨j,u⟩:=p
  intro hs i o e
  simp only[Hz.get] at e
  cases hb:Nat.beq j i with
  |true=>rw[hb] at e; simp only[cond_true] at e; rw[<- Nat.eq_of_beq_eq_true hb,hs.1,e]
  |false=>rw[hb] at e; exact ih hs.2 e
def Zp:Hz->Bool
 |[]=>true
 |(_,some o)::r=>o.CV&&Zp r
 |(_,none)::r=>Zp r
theorem TW: ∀ {h0:Hz},Zp h0=true-> ∀ {i:Nat} {o:OV},h0.get i=some o->o.CV=true:=by
 intro h0
 induction h0 with
 |nil=>intro _ i o e; cases e
 |cons p r ih =>
  obtain⟨j,u⟩:=p
  intro hs i o e
  simp only[Hz.get] at e
  cases hb:Nat.beq j i with
  |true =>
   rw[hb] at e; simp only[cond_true] at e; subst e
   simp only[Zp,Bool.and_eq_true] at hs; exact hs.1
  |false =>
   rw[hb] at e
   refine ih ?_ e
   cases u with
   |none=>exact hs
   |some o=>simp only[Zp,Bool.and_eq_true] at hs; exact hs.2
theorem OV.TY{o:OV}(h:o.CV=true):T.aP (fun _=>False) o.au.l:=OV.zZ h
theorem iO.same{nx:Nat}{h0 h:Hz}{n:Nat}{post:T->Hp->Prop}{v:V}(hf:v.free=true)(hs:aci h h0)(hg:Je nx h0=true)(hfr:Zp h0=true)(hp:post v.aH h0.ay):iO h0 n post v h:=by
 have hG:=Gj hg
 have get: ∀ i ob,h0.ay i=some ob-> ∃ o,h0.get i=some o/\ob=o.au:=fun i ob e=>by
  simp only[Hz.ay,Option.map_eq_some_iff] at e
  obtain⟨o,e1,e2⟩:=e
  exact⟨o,e1,e2.symm⟩
 have hfree:=V.oL v hf
 refine⟨fun _=>False,id,v.aH,h0.ay,hp,?_,fun i ob hi=>?_,fun i j _ _ e=>e,T.aZ (fun _ h=>h.elim) _ (fH hfree),fun i ob hi=>?_,fun i _ _=>rfl⟩
 ·rw[U6]; exact aG _
 ·obtain⟨o,e1,rfl⟩:=get i ob hi
  refine⟨o.au,aK (Zo hs e1),fun h=>h,rfl,rfl,?_,yM (hG i _ hi).2.2⟩
  rw[vK _ (OV.TY (TW hfr e1))]; exact dJ _
 ·obtain⟨o,e1,rfl⟩:=get i ob hi
  exact⟨.inl (by rw[hi]; rfl),T.aB (fun _ h=>h.elim) _ (OV.TY (TW hfr e1))⟩
abbrev hRP(p:aO)(r:Rule):Hz:=[(7,some (.box 86 19 (.dat (.rule r)))),(0,some (.box 27 11 (.dat (.iI p))))]
theorem S.Qx(p:aO)(r x:Rule)(n:Nat):aQ Tryz.prog 158 (V.aU [.dat (.rule x),.ptr 7 0 0]) (hRP p r).ay n (fun t hp=>t= .bool (x.name==r.name)/\hp=(hRP p r).ay):=by
 refine oI.of (nx:=8) Bd.nY (by simp) ⟨_,_,rfl,rfl⟩ rfl rfl ?_
 exact iO.same (nx:=8) rfl ⟨rfl,rfl,trivial⟩ rfl rfl ⟨rfl,rfl⟩
def GZ(s:Str):List Rule->Nat->Int
 |[],_=> -1
 |x::r,i=>bif x.name==s then(i:Int) else GZ s r (i+1)
theorem S.Zq(p:aO)(r:Rule)(l:List Rule)(f:Bool)(hl:l.length<2^30)(n:Nat):aQ Tryz.prog 174 (V.aU [.row 19 f (.rules l),.fn 158 [.ptr 7 0 0]]) (hRP p r).ay n (fun t hp=>t= .int (GZ r.name l 0)/\hp=(hRP p r).ay):=by
 refine oI.of (nx:=8) Bd.gG (by simp) ⟨_,_,rfl,rfl⟩ rfl rfl ?_
 refine aC.same [0,1,6,7] (fun i:Nat=>[(8,.int i)]) (fun i=>i<=l.length/\GZ r.name l 0=GZ r.name (l.drop i) i) (fun i=>l.length-i) 0 rfl (by decide) rfl (fun _=>rfl) ⟨by omega,by simp⟩ ⟨⟨_,rfl,rfl⟩,trivial⟩ ?_
 refine⟨rfl,?_⟩
 rintro i ⟨hi,hall⟩
 refine⟨fun h3=>?_,fun h3=>?_⟩
 ·have hi':i<l.length:=by simpa using h3
  rw[dn default hi'] at hall
  simp only[GZ] at hall
  refine .mk (by simp only[Rw.rng] at *; omega) ?_
  refine ah.heap (S.Qx p r (l.getD i default) _) ?_
  rintro t hp ⟨rfl,rfl⟩
  refine⟨.bool _,hRP p r,rfl,rfl,?_⟩
  refine⟨fun h4=>?_,fun h4=>?_⟩
  ·conv=>whnf
   rw[h4] at hall
   exact iO.same (nx:=8) rfl ⟨rfl,rfl,trivial⟩ rfl rfl ⟨by rw[hall]; rfl,rfl⟩
  ·conv=>whnf
   refine .mk (by simp only[okI] at *; omega) ?_
   conv=>whnf
   rw[h4] at hall
   refine⟨i+1,⟨by omega,hall⟩,by omega,⟨⟨_,rfl,rfl⟩,trivial⟩,?_,rfl⟩
   repeat' (first|exact trivial|exact⟨_,rfl,rfl⟩|constructor)
 ·conv=>whnf
  have hi':l.length<=i:=by simpa using h3
  rw[List.drop_eq_nil_of_le hi'] at hall
  exact iO.same (nx:=8) rfl ⟨rfl,rfl,trivial⟩ rfl rfl ⟨by rw[hall]; rfl,rfl⟩
theorem acj{s:Str}{l:List Rule}{i:Nat}:decide (0<=GZ s l i)=l.any fun x=>x.name==s:=by
 have: ∀ {l:List Rule} {i:Nat},0<=GZ s l i↔(l.any fun x=>x.name==s)=true:=by
  intro l
  induction l with
  |nil=>intro i; simp[GZ]
  |cons x r ih =>
   intro i
   rw[List.any_cons,Bool.or_eq_true,<- ih (i:=i+1)]
   show(0:Int)<=(bif x.name==s then(i:Int) else GZ s r (i+1))↔_
   generalize (x.name==s)=b
   cases b<;>simp
 rw[Bool.eq_iff_iff,decide_eq_true_eq]; exact this
theorem S.Qy(p:aO)(r:Rule)(l:List Rule)(f:Bool)(hl:l.length<2^30)(n:Nat):aQ Tryz.prog 157 (V.aU [.row 19 f (.rules l),.fn 158 [.ptr 7 0 0]]) (hRP p r).ay n (fun t hp=>t= .bool (l.any fun x=>x.name==r.name)/\hp=(hRP p r).ay):=by
 refine oI.of (nx:=8) Bd.fJ (by simp) ⟨_,_,rfl,rfl⟩ rfl rfl ?_
 refine ah.heap (S.Zq p r l f hl _) ?_
 rintro t hp ⟨rfl,rfl⟩
 refine⟨.int _,hRP p r,rfl,rfl,?_⟩
 exact iO.same (nx:=8) rfl ⟨rfl,rfl,trivial⟩ rfl rfl ⟨by rw[<- acj (i:=0)]; rfl,rfl⟩
theorem ah.mkRow{P:Program}{f:FuncId}{args:List V}{h:Hz}{n ty k:Nat}{r:Rw}{K:V->Hz->Prop}{KW:Nat->V->Hz->Prop}(H:Bj P f (V.aU args) (fun n=>.own n) (some ⟨ty,k,r.aU⟩))(hK:K (.own n) ((n,some (.row ty k r []))::h)):ah P false none f args h n K KW :=
 ah.heap (Bj.frame H _ _) (by rintro t hp ⟨rfl,rfl⟩; exact⟨.own n,_,rfl,by rw[dh]; simp[jq,OV.au,V.aU],hK⟩)
theorem S.Concat(a b c:List Str)(n:Nat)(h0:0<a.length)(ha:a.length<2^20)(hb:b.length<2^20)(hc:c.length<2^20) :
  aQ Tryz.prog 154 (V.aU [.Ii 0 false [.row 0 false (.strs a),.row 0 false (.strs b),.row 0 false (.strs c)]]) no n (fun t hp=>t= .own n/\hp=Hz.ay [(n,some (.row 9 0 (.strs (a++b++c)) []))]):=by
 refine oI.of (nx:=0) (h0:=[]) Bd.jy (by simp) ⟨_,_,rfl,rfl⟩ rfl rfl ?_
 refine aC.times 4 rfl ?_
 refine Fork.mk (fun _=>?_) (fun q=>absurd (q.symm.trans (rfl)) Bool.false_ne_true)
 repeat(refine VC.mk (by first|(omega)|(simp only[okI] at *; omega)) ?_)
 refine Fork.mk (fun q=>absurd (q.symm.trans (decide_eq_false (by omega))).symm Bool.false_ne_true) (fun _=>?_)
 refine .mk (by simp only[okI] at *; omega) ?_
 refine Fork.mk (fun _=>?_) (fun q=>absurd (q.symm.trans (rfl)) Bool.false_ne_true)
 repeat(refine VC.mk (by first|(omega)|(simp only[okI] at *; omega)) ?_)
 refine Fork.mk (fun q=>absurd (q.symm.trans (decide_eq_false (by omega))).symm Bool.false_ne_true) (fun _=>?_)
 refine .mk (by simp only[okI] at *; omega) ?_
 refine Fork.mk (fun _=>?_) (fun q=>absurd (q.symm.trans (rfl)) Bool.false_ne_true)
 repeat(refine VC.mk (by first|(omega)|(simp only[okI] at *; omega)) ?_)
 refine Fork.mk (fun q=>absurd (q.symm.trans (decide_eq_false (by omega))).symm Bool.false_ne_true) (fun _=>?_)
 refine .mk (by simp only[okI] at *; omega) ?_
 refine Fork.mk (fun q=>absurd (q.symm.trans (rfl)).symm Bool.false_ne_true) (fun _=>?_)
 conv=>whnf
 have e:(0+(a.length:Int)+b.length+c.length)=((a.length+b.length+c.length:Nat):Int):=by omega
 rw[e]
 refine ah.mkRow (r:=.strs []) (S.Grow (a.length+b.length+c.length) (by omega) (by omega)) ?_
 refine aC.times 4 rfl ?_
 refine Fork.mk (fun _=>?_) (fun q=>absurd (q.symm.trans (rfl)) Bool.false_ne_true)
 repeat(refine VC.mk (by first|(omega)|(simp only[kH,kQ,Rw.len,List.length_nil]; omega)|(simp only[okI] at *; omega)) ?_)
 refine Fork.mk (fun _=>?_) (fun q=>absurd (q.symm.trans (rfl)) Bool.false_ne_true)
 repeat(refine VC.mk (by first|(omega)|(simp only[kH,kQ,Rw.len,List.length_append,List.length_nil]; omega)|(simp only[okI] at *; omega)) ?_)
 refine Fork.mk (fun _=>?_) (fun q=>absurd (q.symm.trans (rfl)) Bool.false_ne_true)
 repeat(refine VC.mk (by first|(omega)|(simp only[kH,kQ,Rw.len,List.length_append,List.length_nil]; omega)|(simp only[okI] at *; omega)) ?_)
 refine Fork.mk (fun q=>absurd (q.symm.trans (rfl)).symm Bool.false_ne_true) (fun _=>?_)
 refine iO.one (c:=n) (o:=.row 9 0 (.strs (a++b++c)) []) (t:=.own n) rfl rfl rfl nofun (.inr rfl) rfl (.eq rfl) ⟨rfl,rfl⟩
theorem S.aej(a b c:List Str)(h0:0<a.length)(ha:a.length<2^20)(hb:b.length<2^20)(hc:c.length<2^20) :
  Bj Tryz.prog 154 (V.aU [.Ii 0 false [.row 0 false (.strs a),.row 0 false (.strs b),.row 0 false (.strs c)]]) (fun n=>.own n) (some ⟨9,0,(Rw.strs (a++b++c)).aU⟩):=by
 refine⟨rfl,fun _=>rfl,(fun ob h=>by cases h; rw[fU]; intro t ht; obtain⟨x,_,rfl⟩:=List.mem_map.1 ht; rfl),(fun ob h=>by cases h; exact fun e=>absurd e (by decide:(0:Nat)≠fQ)),fun n=>(S.Concat a b c n h0 ha hb hc).mono ?_⟩
 rintro t hp ⟨rfl,rfl⟩
 refine⟨rfl,?_⟩
 rw[dh]; simp[jq,OV.au,V.aU]; rfl
theorem ah.aek{P:Program}{f:FuncId}{args:List V}{ts:List T}{h:Hz}{n ty k:Nat}{r:Rw}{K:V->Hz->Prop}{KW:Nat->V->Hz->Prop}(H:Bj P f ts (fun n=>.own n) (some ⟨ty,k,r.aU⟩))(hs:T.dH (fun _=>True) h.ay ts (V.aU args))(hh:T.xw r.aU=true)(hK:K (.own n) ((n,some (.row ty k r []))::h)):ah P false none f args h n K KW :=
 ⟨.inl (Bj.lend H hs rfl (fun _ e=>by cases e; exact hh) ⟨.own n,_,rfl,by rw[dh]; simp[jq,OV.au,V.aU],(fun e=>by cases e),hK⟩)⟩
theorem ahe{h:Hz}{j ty:Nat}{Z:Nat->Prop}{l:List V}(hz:Z j)(q:h.get j=some (.row ty 0 .nil l))(hf:V.bZ l=true):T.sub Z h.ay (V.Ii 0 false l).aH (V.own j).aH:=by
 show T.sub Z h.ay (.sl 0 false (V.aU l)) (.own j)
 simp only[T.sub]
 exact⟨trivial,hz,V.iF l hf,by decide,ty,by rw[aK q]; rfl⟩
theorem Zr{l:List Str}:T.xw (Rw.strs l).aU=true:=by
 show T.xw (l.map eS)=true
 induction l with
 |nil=>rfl
 |cons s r ih=>simp only[List.map_cons,T.xw,ih]; rfl
theorem ahf{h:Hz}{j i ty:Nat}{Z:Nat->Prop}{l:List Str}(hz:Z j)(q:h.get j=some (.row ty 0 (.strs l) []))(hi:i<=l.length):T.sub Z h.ay (V.row 0 false (.strs (l.take i))).aH (V.pK j 0 i).aH:=by
 show T.sub Z h.ay (.sl 0 false ((l.take i).map eS)) (.pK j 0 i)
 simp only[T.sub]
 refine⟨trivial,hz,?_,by decide,ty,l.map eS,?_,by simpa using hi,by simp[List.map_take]⟩
 ·rw[fU]; intro t ht; obtain⟨x,_,rfl⟩:=List.mem_map.1 ht; rfl
 ·rw[aK q]; simp[OV.au,Rw.aU,V.aU]
def allNames(p:aO):List Str:=p.states++p.messages++p.values
def Qu(l:List Str)(i:Nat):Bool:= !(validName (l.getD i []))||(l.take i).any fun x=>l.getD i []==x
def Ak(p:aO):Int:=bif (List.range (allNames p).length).any (Qu (allNames p)) then 2 else 0
theorem CU{n:Nat}{f:Nat->Bool}:(List.range n).any f=true↔ ∃ i,i<n/\f i=true:=by
 simp[List.any_eq_true]
theorem S.oW(p:aO)(h0:0<p.states.length)(h1:p.states.length<2^20)(h2:p.messages.length<2^20)(h3:p.values.length<2^20):aj Tryz.prog 132 [.dat (.iI p)] (.int (Ak p)):=by
 have hlen:(allNames p).length<2^30:=by simp only[allNames,List.length_append]; omega
 refine aj.of Bd.oW (by simp) rfl rfl ?_
 refine ah.aek (r:=.strs (allNames p)) (S.aej p.states p.messages p.values h0 h1 h2 h3) (And.intro (ahe (ty:=22) trivial rfl rfl) trivial) Zr ?_
 refine aC.same [3,14,15] (fun i:Nat=>[(16,.int i)]) (fun i=>i<=(allNames p).length/\(List.range i).any (Qu (allNames p))=false) (fun i=>(allNames p).length-i) 0 rfl (by decide) rfl (fun _=>rfl) ⟨Nat.zero_le _,rfl⟩ ⟨⟨_,rfl,rfl⟩,trivial⟩ ?_
 refine⟨rfl,?_⟩
 rintro i ⟨hi,hall⟩
 refine⟨fun h4=>?_,fun h4=>?_⟩
 ·have hi':i<(allNames p).length:=by simpa using h4
  repeat(refine VC.mk (by simp only[Rw.rng] at *; omega) ?_)
  refine ah.pure (S.gJ ((allNames p).getD i [])) rfl ?_
  repeat(refine VC.mk (by first|exact fun h=>⟨h,h⟩|(intro h; (repeat' apply And.intro)<;>first|exact h|omega|(simp only[Rw.qY]; omega)|(simp only[Rw.rng]; omega))) ?_)
  refine ah.aen (fun _=>S.slices_Contains_string ((allNames p).take i) ((allNames p).getD i []) false (by rw[List.length_take]; omega)) (fun _=>And.intro (ahf (ty:=9) trivial rfl (by omega)) (And.intro (aG _) trivial)) rfl rfl ?_
  refine .mk (by intro h; rw[h]; rfl) ?_
  refine⟨fun h5=>?_,fun h5=>?_⟩
  ·conv=>whnf
   refine ak.int ?_
   rw[Ak,CU.2 ⟨i,hi',h5⟩]; rfl
  ·conv=>whnf
   refine .mk (by simp only[okI] at *; omega) ?_
   refine⟨i+1,⟨by omega,?_⟩,by omega,⟨⟨_,rfl,rfl⟩,trivial⟩,?_,rfl⟩
   ·rw[List.range_succ,List.any_append,hall]
    simp only[List.any_cons,List.any_nil,Bool.or_false,Bool.false_or]; exact h5
   ·repeat' (first|exact trivial|exact⟨_,rfl,rfl⟩|constructor)
 ·have hi':(allNames p).length<=i:=by simpa using h4
  have e:i=(allNames p).length:=Nat.le_antisymm hi hi'
  subst e
  exact ak.int (by rw[Ak,hall]; rfl)
theorem ah.pJ{P:Program}{f:FuncId}{args:List V}{h:Hz}{hp0:Hp}{n:Nat}{K:V->Hz->Prop}{KW:Nat->V->Hz->Prop}{post:T->Hp->Prop}(S:aQ P f (V.aU args) hp0 n post)(e:h.ay=hp0)(hK: ∀ t hp,post t hp-> ∃ v h',t=v.aH/\hp=Hz.ay h'/\K v h'):ah P false none f args h n K KW:=by
 subst e; exact ah.heap S hK
theorem Ua{i:Nat}{a b:Option OV}{r:Hz}:Hz.ay ((i,a)::(i,b)::r)=Hz.ay ((i,a)::r):=funext fun j=>by
 simp only[Hz.ay,Hz.get]; cases Nat.beq i j<;>rfl
structure fE(p:aO):Prop where
 states:p.states.length<2^20
 messages:p.messages.length<2^20
 values:p.values.length<2^20
 cO:p.cO.length<2^30
 initial:p.initial.length<2^30
 leader:p.leader.length<2^30
 rules:p.rules.length<2^30
 rule: ∀ i,uT (p.rules.getD i default)
 rC:(p.rules.flatMap Rule.guards).length<2^30
def sQ(p:aO)(i:Nat):Bool:= !(validName (p.rules.getD i default).name)||(p.rules.take i).any fun x=>x.name==(p.rules.getD i default).name
def rF(p:aO)(i:Nat):Bool:= !(vC (p.rules.getD i default).kind p.topology)||kT (p.rules.getD i default) p.topology
def xO(p:aO)(r:Rule):Int:=bH [dA r.fr p.states.length,dA r.to p.states.length]
def ab4(p:aO)(r:Rule):Bool:=decide (r.pos<0)||decide (r.pos>2)||(r.pos !=0&&p.topology==3)
def gW(p:aO)(i:Nat):Int :=
 let r:=p.rules.getD i default
 let n:Int:=p.states.length
 bif sQ p i then 2 else bif rF p i then 6 else bif xO p r !=0 then xO p r else
 bif r.kind==1 then bH [yD p r.guards,jA r.ex n,jA r.all n,jM p r.read,jM p r.write,jA r.send p.messages.length] else
 bif r.kind==2 then bH [dA r.iV n,dA r.zI n,jM p r.read,jM p r.write] else
 bif r.kind==3 then bH [Fa r.response n,jM p r.read,jM p r.write] else
 bif r.kind==4 then bH [jA r.left n,jA r.right n,jA r.parent n,dP (ab4 p r) 1] else
 bif p.topology==4 then bH [dA r.iV n,dA r.zI n,dP (decide (r.direction<3)||decide (r.direction>4)) 1]
 else bH [dA r.iV n,dA r.zI n,dP (decide (r.direction<1)||decide (r.direction>2)) 1]
theorem S.jX(p:aO)(i:Nat)(hi:i<p.rules.length)(hp:fE p):aj Tryz.prog 134 [.dat (.iI p),.int i] (.int (gW p i)):=by
 have hr:=hp.rule i
 have hp1:=hp.rules
 have hp2:=hp.states
 have hp3:=hp.messages
 refine aj.of Bd.jX (by simp) rfl rfl ?_
 repeat(refine VC.mk (by first|(simp only[Rw.qY]; omega)|(simp only[Rw.rng] at *; omega)) ?_)
 refine ah.pJ (S.Qy p (p.rules.getD i default) (p.rules.take i) false (by rw[List.length_take]; omega) _) Ua ?_
 rintro t hp' ⟨rfl,rfl⟩
 refine⟨.bool _,hRP p (p.rules.getD i default),rfl,rfl,?_⟩
 refine ah.pure (S.gJ (p.rules.getD i default).name) rfl ?_
 refine .mk (by intro h; rw[h]; rfl) ?_
 refine⟨fun h1=>?_,fun h1=>?_⟩
 ·conv=>whnf
  exact ak.int (by rw[gW,show sQ p i=true from h1]; rfl)
 ·conv=>whnf
  refine ah.pure (S.qw (p.rules.getD i default).kind p.topology) rfl ?_
  repeat(refine VC.mk (by first|exact id|exact fun h=>⟨h,h⟩) ?_)
  refine ah.ig (fun _=>S.lX (p.rules.getD i default) p.topology hr) rfl ?_
  refine .mk (by intro h; rw[h]; rfl) ?_
  refine⟨fun h2=>?_,fun h2=>?_⟩
  ·conv=>whnf
   exact ak.int (by rw[gW,show sQ p i=false from h1,show rF p i=true from h2]; rfl)
  ·conv=>whnf
   refine ah.pure (S.bY (p.rules.getD i default).fr p.states.length) rfl ?_
   refine ah.pure (S.bY (p.rules.getD i default).to p.states.length) rfl ?_
   refine ah.pure (S.bM [dA (p.rules.getD i default).fr p.states.length,dA (p.rules.getD i default).to p.states.length] true (show 2<2^40 by decide)) rfl ?_
   refine⟨fun h3=>?_,fun h3=>?_⟩
   ·conv=>whnf
    exact ak.int (by rw[gW,show sQ p i=false from h1,show rF p i=false from h2,show(xO p (p.rules.getD i default) !=0)=true from h3]; rfl)
   ·conv=>whnf
    refine⟨fun h4=>?_,fun h4=>?_⟩
    ·conv=>whnf
     refine ah.pure (S.nI p (p.rules.getD i default).guards false (by have:=hr.guards; omega)) rfl ?_
     refine ah.pure (S.eG (p.rules.getD i default).ex p.states.length false (by have:=hr.ex; omega)) rfl ?_
     refine ah.pure (S.eG (p.rules.getD i default).all p.states.length false (by have:=hr.all; omega)) rfl ?_
     refine ah.pure (S.gB p (p.rules.getD i default).read) rfl ?_
     refine ah.pure (S.gB p (p.rules.getD i default).write) rfl ?_
     refine ah.pure (S.eG (p.rules.getD i default).send p.messages.length false (by have:=hr.send; omega)) rfl ?_
     refine ah.pure (S.bM [yD p (p.rules.getD i default).guards,jA (p.rules.getD i default).ex p.states.length,jA (p.rules.getD i default).all p.states.length,jM p (p.rules.getD i default).read,jM p (p.rules.getD i default).write,jA (p.rules.getD i default).send p.messages.length] true (show 6<2^40 by decide)) rfl ?_
     exact ak.int (by rw[gW,show sQ p i=false from h1,show rF p i=false from h2,show(xO p (p.rules.getD i default) !=0)=false from h3,h4]; rfl)
    ·conv=>whnf
     refine⟨fun h5=>?_,fun h5=>?_⟩
     ·conv=>whnf
      refine ah.pure (S.bY (p.rules.getD i default).iV p.states.length) rfl ?_
      refine ah.pure (S.bY (p.rules.getD i default).zI p.states.length) rfl ?_
      refine ah.pure (S.gB p (p.rules.getD i default).read) rfl ?_
      refine ah.pure (S.gB p (p.rules.getD i default).write) rfl ?_
      refine ah.pure (S.bM [dA (p.rules.getD i default).iV p.states.length,dA (p.rules.getD i default).zI p.states.length,jM p (p.rules.getD i default).read,jM p (p.rules.getD i default).write] true (show 4<2^40 by decide)) rfl ?_
      exact ak.int (by rw[gW,show sQ p i=false from h1,show rF p i=false from h2,show(xO p (p.rules.getD i default) !=0)=false from h3,h4,h5]; rfl)
     ·conv=>whnf
      refine⟨fun h6=>?_,fun h6=>?_⟩
      ·conv=>whnf
       refine ah.pure (S.jY (p.rules.getD i default).response p.states.length false (by have:=hr.response; omega)) rfl ?_
       refine ah.pure (S.gB p (p.rules.getD i default).read) rfl ?_
       refine ah.pure (S.gB p (p.rules.getD i default).write) rfl ?_
       refine ah.pure (S.bM [Fa (p.rules.getD i default).response p.states.length,jM p (p.rules.getD i default).read,jM p (p.rules.getD i default).write] true (show 3<2^40 by decide)) rfl ?_
       exact ak.int (by rw[gW,show sQ p i=false from h1,show rF p i=false from h2,show(xO p (p.rules.getD i default) !=0)=false from h3,h4,h5,h6]; rfl)
      ·conv=>whnf
       refine⟨fun h7=>?_,fun h7=>?_⟩
       ·conv=>whnf
        repeat(refine VC.mk (by first|exact id|(intro h; rw[h]; rfl)|(intro h; simp_all; done)) ?_)
        refine ah.pure (S.eG (p.rules.getD i default).left p.states.length false (by have:=hr.left; omega)) rfl ?_
        refine ah.pure (S.eG (p.rules.getD i default).right p.states.length false (by have:=hr.right; omega)) rfl ?_
        refine ah.pure (S.eG (p.rules.getD i default).parent p.states.length false (by have:=hr.parent; omega)) rfl ?_
        refine ah.pure (S.bW (ab4 p (p.rules.getD i default)) 1) rfl ?_
        refine ah.pure (S.bM [jA (p.rules.getD i default).left p.states.length,jA (p.rules.getD i default).right p.states.length,jA (p.rules.getD i default).parent p.states.length,dP (ab4 p (p.rules.getD i default)) 1] true (show 4<2^40 by decide)) rfl ?_
        exact ak.int (by rw[gW,show sQ p i=false from h1,show rF p i=false from h2,show(xO p (p.rules.getD i default) !=0)=false from h3,h4,h5,h6,h7]; rfl)
       ·conv=>whnf
        refine⟨fun h8=>?_,fun h8=>?_⟩
        ·conv=>whnf
         refine ah.pure (S.bY (p.rules.getD i default).iV p.states.length) rfl ?_
         refine ah.pure (S.bY (p.rules.getD i default).zI p.states.length) rfl ?_
         repeat(refine VC.mk (by first|exact id|exact fun h=>⟨h,h⟩|(intro h; rw[h]; rfl)) ?_)
         refine ah.pure (S.bW (decide ((p.rules.getD i default).direction<3)||decide ((p.rules.getD i default).direction>4)) 1) rfl ?_
         refine ah.pure (S.bM [dA (p.rules.getD i default).iV p.states.length,dA (p.rules.getD i default).zI p.states.length,dP (decide ((p.rules.getD i default).direction<3)||decide ((p.rules.getD i default).direction>4)) 1] true (show 3<2^40 by decide)) rfl ?_
         exact ak.int (by rw[gW,show sQ p i=false from h1,show rF p i=false from h2,show(xO p (p.rules.getD i default) !=0)=false from h3,h4,h5,h6,h7,h8]; rfl)
        ·conv=>whnf
         refine ah.pure (S.bY (p.rules.getD i default).iV p.states.length) rfl ?_
         refine ah.pure (S.bY (p.rules.getD i default).zI p.states.length) rfl ?_
         repeat(refine VC.mk (by first|exact id|exact fun h=>⟨h,h⟩|(intro h; rw[h]; rfl)) ?_)
         refine ah.pure (S.bW (decide ((p.rules.getD i default).direction<1)||decide ((p.rules.getD i default).direction>2)) 1) rfl ?_
         refine ah.pure (S.bM [dA (p.rules.getD i default).iV p.states.length,dA (p.rules.getD i default).zI p.states.length,dP (decide ((p.rules.getD i default).direction<1)||decide ((p.rules.getD i default).direction>2)) 1] true (show 3<2^40 by decide)) rfl ?_
         exact ak.int (by rw[gW,show sQ p i=false from h1,show rF p i=false from h2,show(xO p (p.rules.getD i default) !=0)=false from h3,h4,h5,h6,h7,h8]; rfl)
def yC(g:AB):List AB->Nat->Int
 |[],_=> -1
 |x::r,i=>bif g==x then(i:Int) else yC g r (i+1)
theorem TP{g:AB}{l:List AB}{i:Nat}:decide (0<=yC g l i)=l.any fun x=>g==x:=by
 have: ∀ {l:List AB} {i:Nat},0<=yC g l i↔(l.any fun x=>g==x)=true:=by
  intro l
  induction l with
  |nil=>intro i; simp[yC]
  |cons x r ih =>
   intro i
   rw[List.any_cons,Bool.or_eq_true,<- ih (i:=i+1)]
   show(0:Int)<=(bif g==x then(i:Int) else yC g r (i+1))↔_
   generalize (g==x)=b
   cases b<;>simp
 rw[Bool.eq_iff_iff,decide_eq_true_eq]; exact this
theorem S.acn(l:List AB)(g:AB)(f:Bool)(hl:l.length<2^40):aj Tryz.prog 175 [.row 7 f (.rC l),.dat (.Ug g)] (.int (yC g l 0)):=by
 refine aj.of Bd.eU (by simp) rfl rfl ?_
 refine aC.same [0,3,6,7] (fun i:Nat=>[(8,.int i)]) (fun i=>i<=l.length/\yC g l 0=yC g (l.drop i) i) (fun i=>l.length-i) 0 rfl (by decide) rfl (fun _=>rfl) ⟨by omega,by simp⟩ ⟨⟨_,rfl,rfl⟩,trivial⟩ ?_
 refine⟨rfl,?_⟩
 rintro i ⟨hi,hall⟩
 refine⟨fun h3=>?_,fun h3=>?_⟩
 ·have hi':i<l.length:=by simpa using h3
  rw[dn default hi'] at hall
  simp only[yC] at hall
  refine .mk (by simp only[Rw.rng] at *; omega) ?_
  refine⟨fun h4=>?_,fun h4=>?_⟩
  ·conv=>whnf
   refine ak.int ?_
   have h4':(g==l.getD i default)=true:=h4
   rw[hall,h4']; rfl
  ·conv=>whnf
   refine .mk (by simp only[okI] at *; omega) ?_
   refine⟨i+1,⟨by omega,?_⟩,by omega,⟨⟨_,rfl,rfl⟩,trivial⟩,?_,rfl⟩
   ·have h4':(g==l.getD i default)=false:=h4
    rw[hall,h4']; rfl
   ·repeat' (first|exact trivial|exact⟨_,rfl,rfl⟩|constructor)
 ·conv=>whnf
  refine ak.int ?_
  have hi':l.length<=i:=by simpa using h3
  rw[hall,List.drop_eq_nil_of_le hi']; rfl
theorem S.Ub(l:List AB)(g:AB)(f:Bool)(hl:l.length<2^40):aj Tryz.prog 164 [.row 7 f (.rC l),.dat (.Ug g)] (.bool (l.any fun x=>g==x)):=by
 refine aj.of Bd.dY (by simp) rfl rfl ?_
 refine ah.pure (S.acn l g f hl) rfl ?_
 exact ak.bool TP.symm
theorem ab1{h:Hz}{j:Nat}{Z:Nat->Prop}{l:List AB}(hz:Z j)(q:h.get j=some (.row 148 7 (.rC l) [])):T.sub Z h.ay (V.row 7 false (.rC l)).aH (V.own j).aH:=by
 show T.sub Z h.ay (.sl 7 false (l.map RF)) (.own j)
 simp only[T.sub]
 refine⟨trivial,hz,?_,by decide,148,?_⟩
 ·rw[fU]; intro t ht; obtain⟨x,_,rfl⟩:=List.mem_map.1 ht; rfl
 ·have:=aK q
  rw[this]; simp[OV.au,Rw.aU,V.aU]
theorem CP{α β:Type}{f:β->α->β}{b:β}{l:List α}{i:Nat}{d:α}(h:i<l.length):(l.take (i+1)).foldl f b=f ((l.take i).foldl f b) (l.getD i d):=by
 rw[List.take_add_one,List.foldl_append]
 simp[List.getElem?_eq_getElem h]
theorem ak.ahb{h:Hz}{j:Nat}{l:List AB}(q:h.get j=some (.row 148 7 (.rC l) [])):ak (.row 7 false (.rC l)) (.own j) h:=⟨ab1 trivial q⟩
def Ju(acc:List AB)(g:AB):List AB:=bif acc.any (fun x=>g==x) then acc else acc++[g]
def zD(l:List Rule):List AB:=(l.flatMap Rule.guards).foldl Ju []
theorem aco{acc:List AB}{g:AB}:(Ju acc g).length<=acc.length+1:=by
 unfold Ju; cases acc.any (fun x=>g==x)<;>simp
theorem Uc: ∀ {l acc:List AB},(l.foldl Ju acc).length<=acc.length+l.length:=by
 intro l
 induction l with
 |nil=>intro acc; simp
 |cons g r ih =>
  intro acc
  have:=ih (acc:=Ju acc g)
  have h2:=aco (acc:=acc) (g:=g)
  simp only[List.foldl_cons,List.length_cons]; omega
abbrev rowT(l:List AB):OV:=.row 148 7 (.rC l) []
def zF(p:aO)(i k:Nat):List AB:=((p.rules.getD i default).guards.take k).foldl Ju (zD (p.rules.take i))
theorem TQ(p:aO)(hp:fE p)(i k:Nat)(_hi:i<p.rules.length):(zF p i k).length<2^31:=by
 have h1:=Uc (l:=(p.rules.getD i default).guards.take k) (acc:=zD (p.rules.take i))
 have h2:=Uc (l:=(p.rules.take i).flatMap Rule.guards) (acc:=[])
 have h3:=(hp.rule i).guards
 have h4:((p.rules.take i).flatMap Rule.guards).length<=(p.rules.flatMap Rule.guards).length:=by
  conv=>rhs; rw[<- List.take_append_drop i p.rules,List.flatMap_append,List.length_append]
  omega
 have h5:=hp.rC
 have h6:((p.rules.getD i default).guards.take k).length<=(p.rules.getD i default).guards.length:=by simp[List.length_take]; omega
 unfold zF
 unfold zD at h1 ⊢
 simp only[List.length_nil,Nat.zero_add] at h2
 omega
theorem OX(p:aO){i:Nat}(hi:i<p.rules.length):zD (p.rules.take (i+1))=zF p i (p.rules.getD i default).guards.length:=by
 unfold zF
 rw[List.take_of_length_le (Nat.le_refl _)]
 unfold zD
 rw[List.take_add_one,List.flatMap_append,List.foldl_append]
 simp[List.getElem?_eq_getElem hi]
theorem S.jC(p:aO)(hp:fE p):aj Tryz.prog 135 [.dat (.iI p)] (.row 7 false (.rC (zD p.rules))):=by
 have hp1:=hp.rules
 refine aj.of Bd.jC (by simp) rfl rfl ?_
 refine aC.nil 3 148 7 (by rfl) rfl rfl rfl ?_
 refine aC.objs 1 [9,10] (fun i:Nat=>[(11,.int i),(3,.own 0)]) (fun i=>[(0,rowT (zD (p.rules.take i)))]) (fun i=>i<=p.rules.length) (fun i=>p.rules.length-i) 0 [7] rfl (by decide) (fun _=>rfl) (Nat.zero_le _) ?_ ?_ ?_
 ·exact(sR rfl)
 ·exact⟨fC rfl rfl,trivial⟩
 refine⟨(sR rfl),rfl,?_⟩
 rintro i hi
 refine⟨fun h3=>?_,fun h3=>?_⟩
 ·have hi':i<p.rules.length:=by simpa using h3
  refine .mk (by simp only[Rw.rng] at *; first|omega|(simp_all; done)|(simp_all; omega)) ?_
  refine aC.objs 1 [9,10,11,16,17] (fun k:Nat=>[(18,.int k),(3,.own 0)]) (fun k=>[(0,rowT (zF p i k))]) (fun k=>k<=(p.rules.getD i default).guards.length) (fun k=>(p.rules.getD i default).guards.length-k) 0 [0] rfl (by decide) (fun _=>rfl) (Nat.zero_le _) ?_ ?_ ?_
  ·exact(sR rfl)
  ·exact⟨fC rfl rfl,trivial⟩
  refine⟨(sR rfl),rfl,?_⟩
  rintro k hk
  have hacc:=TQ p hp i k hi'
  have hg:=(hp.rule i).guards
  refine⟨fun h4=>?_,fun h4=>?_⟩
  ·have hk':k<(p.rules.getD i default).guards.length:=by simpa using h4
   have hst:zF p i (k+1)=Ju (zF p i k) ((p.rules.getD i default).guards.getD k default):=CP hk'
   refine .mk (by simp only[Rw.rng] at *; first|omega|(simp_all; done)|(simp_all; omega)) ?_
   refine ah.lend (S.Ub (zF p i k) ((p.rules.getD i default).guards.getD k default) false (by omega)) (And.intro (ab1 trivial rfl) (And.intro (aG _) trivial)) rfl rfl ?_
   refine⟨fun h5=>?_,fun h5=>?_⟩
   ·conv=>whnf
    repeat(refine VC.mk (by first|(show((zF p i k).length+(0+1))*48<=140737488355328/\(zF p i k).length+(0+1)<=1152921504606846976; omega)|(simp only[okI] at *; first|omega|(simp_all; done)|(simp_all; omega))) ?_)
    have h5':((zF p i k).any fun x=>(p.rules.getD i default).guards.getD k default==x)=false:=by simpa using h5
    refine⟨k+1,[13],by omega,by omega,(sR rfl),(sR rfl),⟨rfl,nofun,rfl,rfl,rfl,_,rfl,rfl,rfl,dR.of_eq ?_⟩,trivial⟩
    rw[hst,Ju,h5']
    rfl
   ·conv=>whnf
    refine .mk (by simp only[okI] at *; first|omega|(simp_all; done)|(simp_all; omega)) ?_
    conv=>whnf
    have h5':((zF p i k).any fun x=>(p.rules.getD i default).guards.getD k default==x)=true:=by simpa using h5
    refine⟨k+1,[0],by omega,by omega,(sR rfl),(sR rfl),⟨rfl,nofun,rfl,rfl,rfl,_,rfl,rfl,rfl,dR.of_eq ?_⟩,trivial⟩
    rw[hst,Ju,h5']; rfl
  ·have hk':(p.rules.getD i default).guards.length<=k:=by simpa using h4
   have e:k=(p.rules.getD i default).guards.length:=Nat.le_antisymm hk hk'
   subst e
   refine .mk (by simp only[okI] at *; first|omega|(simp_all; done)|(simp_all; omega)) ?_
   refine⟨i+1,[0],by omega,by omega,(sR rfl),(sR rfl),⟨rfl,nofun,rfl,rfl,rfl,_,rfl,rfl,rfl,dR.of_eq ?_⟩,trivial⟩
   rw[OX p hi']
 ·have hi':p.rules.length<=i:=by simpa using h3
  rw[List.take_of_length_le hi']
  exact ak.ahb rfl
def vw(p:aO):Bool:=decide (p.topology<1)||decide (p.topology>4)||decide (p.fault<0)||decide (p.fault>3)
def wF(p:aO):Bool:=decide ((p.states.length:Int)>6)||decide ((p.messages.length:Int)>3)||decide ((p.values.length:Int)>3)||decide ((p.cO.length:Int)>4)||decide ((p.rules.length:Int)>8)
def TS(p:aO):Bool:=(!(p.topology==1)&&(decide ((p.messages.length:Int)>0)||decide ((p.values.length:Int)>0)||decide ((p.cO.length:Int)>0)||p.fault !=0))||((p.topology==1)&&decide ((p.leader.length:Int)>0))
def yP(p:aO):Int:=bH [jA p.initial p.states.length,dP ((p.initial.length:Int)==0) 1,jA p.leader p.states.length]
def D8(p:aO):Int:=bH ((List.range p.rules.length).map (gW p))
def bn(p:aO):Int :=
 bif !(validName p.name) then 2 else bif vw p then 1 else bif (p.states.length:Int)==0 then 1 else bif wF p then 4 else
 bif Ak p !=0 then Ak p else bif TS p then 1 else
 bif p.cO.any (fun l=> !(TJ l)) then 4 else
 bif yP p !=0 then yP p else
 bif D8 p !=0 then D8 p else dP (decide (((zD p.rules).length:Int)>3)) 4
theorem MJ{n i:Nat}{f:Nat->Int}(h:i<n):((List.range n).drop i).map f=f i::((List.range n).drop (i+1)).map f:=by
 rw[List.drop_eq_getElem_cons (by simpa using h)]; simp
theorem S.jd(p:aO)(hp:fE p):aj Tryz.prog 107 [.dat (.iI p)] (.int (bn p)):=by
 have g1:=hp.states; have g2:=hp.messages; have g3:=hp.values; have g4:=hp.cO; have g5:=hp.initial; have g6:=hp.leader; have g7:=hp.rules
 refine aj.of Bd.jd (by simp) rfl rfl ?_
 refine ah.pure (S.gJ p.name) rfl ?_
 refine⟨fun h1=>?_,fun h1=>?_⟩
 ·conv=>whnf
  exact ak.int (by rw[bn,h1]; rfl)
 repeat(refine VC.mk (by first|exact id|(intro h; rw[h]; rfl)) ?_)
 refine⟨fun h2=>?_,fun h2=>?_⟩
 ·conv=>whnf
  exact ak.int (by rw[bn,h1,show vw p=true from h2]; rfl)
 refine⟨fun h3=>?_,fun h3=>?_⟩
 ·conv=>whnf
  exact ak.int (by rw[bn,h1,show vw p=false from h2,h3]; rfl)
 repeat(refine VC.mk (by first|exact id|(intro h; rw[h]; rfl)) ?_)
 refine⟨fun h4=>?_,fun h4=>?_⟩
 ·conv=>whnf
  exact ak.int (by rw[bn,h1,show vw p=false from h2,h3,show wF p=true from h4]; rfl)
 conv=>whnf
 have h0:0<p.states.length:=by
  rcases Nat.eq_zero_or_pos p.states.length with e|e
  ·rw[e] at h3; exact absurd h3 (by decide)
  ·exact e
 refine ah.pure (S.oW p h0 g1 g2 g3) rfl ?_
 refine⟨fun h5=>?_,fun h5=>?_⟩
 ·conv=>whnf
  exact ak.int (by rw[bn,h1,show vw p=false from h2,h3,show wF p=false from h4,h5]; rfl)
 repeat(refine VC.mk (by first|exact id|(intro h; rw[h]; rfl)|(intro h; simp_all; done)) ?_)
 refine⟨fun h6=>?_,fun h6=>?_⟩
 ·conv=>whnf
  exact ak.int (by rw[bn,h1,show vw p=false from h2,h3,show wF p=false from h4,h5,show TS p=true from h6]; rfl)
 refine aC.same [1,4,111,112] (fun i:Nat=>[(113,.int i)]) (fun i=>i<=p.cO.length/\(p.cO.take i).any (fun l=> !(TJ l))=false) (fun i=>p.cO.length-i) 0 rfl (by decide) rfl (fun _=>rfl) ⟨by omega,by simp⟩ ⟨⟨_,rfl,rfl⟩,trivial⟩ ?_
 refine⟨rfl,?_⟩
 rintro i ⟨hi,hall⟩
 refine⟨fun h7=>?_,fun h7=>?_⟩
 ·have hi':i<p.cO.length:=by simpa using h7
  refine .mk (by simp only[Rw.rng] at *; omega) ?_
  refine ah.pure (S.jK (p.cO.getD i default)) rfl ?_
  refine⟨fun h8=>?_,fun h8=>?_⟩
  ·conv=>whnf
   exact ak.int (by rw[bn,h1,show vw p=false from h2,h3,show wF p=false from h4,h5,show TS p=false from h6,jL (d:=default) hi' h8]; rfl)
  ·conv=>whnf
   refine .mk (by simp only[okI] at *; omega) ?_
   refine⟨i+1,⟨by omega,?_⟩,by omega,⟨⟨_,rfl,rfl⟩,trivial⟩,?_,rfl⟩
   ·rw[mV (d:=default) hi' hall]; exact h8
   ·repeat' (first|exact trivial|exact⟨_,rfl,rfl⟩|constructor)
 have hi':p.cO.length<=i:=by simpa using h7
 rw[List.take_of_length_le hi'] at hall
 refine ah.pure (S.eG p.initial p.states.length false (by omega)) rfl ?_
 refine ah.pure (S.bW ((p.initial.length:Int)==0) 1) rfl ?_
 refine ah.pure (S.eG p.leader p.states.length false (by omega)) rfl ?_
 refine ah.pure (S.bM [jA p.initial p.states.length,dP ((p.initial.length:Int)==0) 1,jA p.leader p.states.length] true (show 3<2^40 by decide)) rfl ?_
 refine⟨fun h9=>?_,fun h9=>?_⟩
 ·conv=>whnf
  exact ak.int (by rw[bn,h1,show vw p=false from h2,h3,show wF p=false from h4,h5,show TS p=false from h6,hall,show(yP p !=0)=true from h9]; rfl)
 refine aC.same [1,140,141] (fun i:Nat=>[(142,.int i)]) (fun i=>i<=p.rules.length/\D8 p=bH (((List.range p.rules.length).drop i).map (gW p))) (fun i=>p.rules.length-i) 0 rfl (by decide) rfl (fun _=>rfl) ⟨by omega,by simp[D8]⟩ ⟨⟨_,rfl,rfl⟩,trivial⟩ ?_
 refine⟨rfl,?_⟩
 rintro i ⟨hi,hr⟩
 refine⟨fun h10=>?_,fun h10=>?_⟩
 ·have hi':i<p.rules.length:=by simpa using h10
  rw[MJ hi'] at hr
  simp only[bH] at hr
  refine ah.pure (S.jX p i hi' hp) rfl ?_
  refine⟨fun h11=>?_,fun h11=>?_⟩
  ·conv=>whnf
   have af6:gW p i≠0:=TR h11
   rw[if_neg af6] at hr
   exact ak.int (by rw[bn,h1,show vw p=false from h2,h3,show wF p=false from h4,h5,show TS p=false from h6,hall,show(yP p !=0)=false from h9,hr,h11]; rfl)
  ·conv=>whnf
   refine .mk (by simp only[okI] at *; omega) ?_
   conv=>whnf
   have af6:gW p i=0:=DJ h11
   rw[if_pos af6] at hr
   refine⟨i+1,⟨by omega,hr⟩,by omega,⟨⟨_,rfl,rfl⟩,trivial⟩,?_,rfl⟩
   repeat' (first|exact trivial|exact⟨_,rfl,rfl⟩|constructor)
 have hi':p.rules.length<=i:=by simpa using h10
 rw[List.drop_eq_nil_of_le (by simpa using hi')] at hr
 refine ah.pure (S.jC p hp) rfl ?_
 refine ah.pure (S.bW (decide (((zD p.rules).length:Int)>3)) 4) rfl ?_
 exact ak.int (by rw[bn,h1,show vw p=false from h2,h3,show wF p=false from h4,h5,show TS p=false from h6,hall,show(yP p !=0)=false from h9,hr]; rfl)
theorem ak.eqv{a b:V}{h:Hz}(e:a.aH=b.aH):ak a b h:=⟨by rw[e]; exact aG _⟩
def TU(acc:Bool)(r:Rule):Bool:=acc&&(r.kind==1)&&decide (r.fr<r.to)&&((r.ex.length:Int)==0)&&((r.all.length:Int)==0)
def QD(acc:Bool)(r:Rule):Bool:=acc||decide ((r.all.length:Int)>0)
def rG(p:aO):Bool:=(p.topology==1)&&(p.fault==0)&&((p.messages.length:Int)==0)&&((p.cO.length:Int)==0)
structure Cls where
 Ug:Bool
 cover:Bool
 word:Bool
 tree:Bool
 monadic:Bool
def fK(p:aO):Cls :=
 ⟨(p.topology==1)&&((p.values.length:Int)==0)&&p.rules.foldl TU true,rG p&& !(p.rules.foldl QD false),(p.topology==2)||(p.topology==3),p.topology==4,rG p&&decide ((p.states.length:Int)<=4)⟩
def ahd(c:Cls):V:=.agg [.bool c.Ug,.bool c.cover,.bool c.word,.bool c.tree,.bool c.monadic]
def Fe:Cls:=⟨false,false,false,false,false⟩
def IL(p:aO):V:=.dU [ahd (bif bn p !=0 then Fe else fK p),.int (bn p)]
theorem S.je(p:aO)(hp:fE p):aj Tryz.prog 69 [.dat (.iI p)] (IL p):=by
 have g1:=hp.states; have g2:=hp.messages; have g3:=hp.values; have g4:=hp.cO; have g7:=hp.rules
 refine aj.of Bd.je (by simp) rfl rfl ?_
 refine ah.pure (S.jd p hp) rfl ?_
 refine⟨fun h1=>?_,fun h1=>?_⟩
 ·conv=>whnf
  refine ak.eqv ?_
  rw[IL,h1]; rfl
 have h1':bn p=0:=DJ h1
 refine aC.same [1,2,3,18,19] (fun i:Nat=>[(20,.int i),(5,.bool ((p.rules.take i).foldl TU true)),(6,.bool ((p.rules.take i).foldl QD false))]) (fun i=>i<=p.rules.length) (fun i=>p.rules.length-i) 0 rfl (by decide) rfl (fun _=>rfl) (Nat.zero_le _) ⟨⟨_,rfl,rfl⟩,⟨_,rfl,rfl⟩,⟨_,rfl,rfl⟩,trivial⟩ ?_
 refine⟨rfl,?_⟩
 rintro i hi
 have g8:=hp.rule i
 have g9:=g8.ex; have g10:=g8.all
 refine⟨fun h7=>?_,fun h7=>?_⟩
 ·have hi':i<p.rules.length:=by simpa using h7
  repeat(refine VC.mk (by first|exact id|exact fun h=>⟨h,h⟩|(intro h; rw[h]; rfl)|(simp only[okI,Rw.rng] at *; omega)) ?_)
  refine⟨i+1,by omega,by omega,⟨⟨_,rfl,rfl⟩,⟨_,rfl,?_⟩,⟨_,rfl,?_⟩,trivial⟩,?_,rfl⟩
  ·rw[CP (d:=default) hi']; rfl
  ·rw[CP (d:=default) hi']; rfl
  ·repeat' (first|exact trivial|exact⟨_,rfl,rfl⟩|constructor)
 have hi':p.rules.length<=i:=by simpa using h7
 rw[List.take_of_length_le hi']
 repeat(refine VC.mk (by first|exact id|(intro h; rw[h]; rfl)) ?_)
 refine ak.eqv ?_
 rw[IL,h1']
 rfl
def mg(r:Rule)(t:Int):Bool :=
 bif !(r.kind==1)&&(decide ((r.guards.length:Int)>0)||decide ((r.ex.length:Int)>0)||decide ((r.all.length:Int)>0)||decide ((r.send.length:Int)>0)) then true else
 bif !(r.kind==1)&& !(r.kind==2)&& !(r.kind==3)&&(r.read != -1||r.write != -1) then true else
 bif !(r.kind==2)&& !(r.kind==5)&&(r.iV !=0||r.zI !=0) then true else
 bif (!(r.kind==3)&&decide ((r.response.length:Int)>0))||(!(r.kind==5)&&r.direction !=0) then true else
 bif !(r.kind==4)&&(r.pos !=0||decide ((r.left.length:Int)>0)||decide ((r.right.length:Int)>0)) then true else
 decide ((r.parent.length:Int)>0)&& !((r.kind==4)&&(t==4))
theorem gt0{n:Nat}:decide ((n:Int)>0)= !(n==0):=by
 cases n with
 |zero=>rfl
 |succ n=>rw[decide_eq_true (by omega)]; rfl
theorem ahR(a b c d e f g h:Nat):decide ((a:Int)+b+c+d+e+f+g+h>0)=(!(a==0)|| !(b==0)|| !(c==0)|| !(d==0)|| !(e==0)|| !(f==0)|| !(g==0)|| !(h==0)):=by
 rw[Bool.eq_iff_iff]
 simp only[decide_eq_true_eq,Bool.or_eq_true,Bool.not_eq_true',beq_eq_false_iff_ne,ne_eq]
 omega
theorem AZ{r:Rule}{t:Int}(h:1<=r.kind/\r.kind<=5):mg r t=kT r t:=by
 have hk:r.kind=1\/r.kind=2\/r.kind=3\/r.kind=4\/r.kind=5:=by omega
 simp only[mg,kT,EW,gt0,ahR,bne]
 generalize (r.guards.length==0)=g1
 generalize (r.ex.length==0)=g2
 generalize (r.all.length==0)=g3
 generalize (r.send.length==0)=g4
 generalize (r.response.length==0)=g5
 generalize (r.left.length==0)=g6
 generalize (r.right.length==0)=g7
 generalize (r.parent.length==0)=g8
 generalize (r.read== -1)=g9
 generalize (r.write== -1)=g10
 generalize (r.iV==0)=g11
 generalize (r.zI==0)=g12
 generalize (r.direction==0)=g13
 generalize (r.pos==0)=g14
 rcases hk with hk|hk|hk|hk|hk<;>rw[hk] <;>
  (first
   |(simp; done)
   |(cases (t==4)<;>simp<;>grind)
   |(simp; grind))
end Go.Proofs.YtkmldgihhaooaaaGreatDoor
