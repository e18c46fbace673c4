/-
 A part of the proof. No condition.
-/
import Derived.Test.YtdhobgbagphngaaGreatDoorNb
import Derived.Test.YtdhobgbagphngaaGreatDoorLg
namespace Go.Proofs.YtdhobgbagphngaaGreatDoor
open Go.Ab Go.Proofs
set_option maxRecDepth 100000
def dV(b:Bool)(e:Int):Int:=bif b then e else 0
theorem S.bT(b:Bool)(e:Int):aj Tryz.prog 114 [.bool b,.int e] (.int (dV b e)):=by
 refine aj.of Bd.bT (by simp) rfl rfl ?_;refine⟨fun h=>?_,fun h=>?_⟩
 ·conv=>whnf
  exact ak.int (by rw[h]; rfl)
 ·conv=>whnf
  exact ak.int (by rw[h]; rfl)
def rE(i n:Int):Bool:=decide (i<0)||decide (i>=n)
def cO(i n:Int):Int:=dV (rE i n) 5
theorem S.bV(i n:Int):aj Tryz.prog 143 [.int i,.int n] (.int (cO i n)):=by
 refine aj.of Bd.bV (by simp) rfl rfl ?_;repeat(refine VC.mk (by first|exact fun h=>⟨h,h⟩|(intro h; rw[h]; rfl)) ?_)
 refine ah.pure (S.bT (rE i n) 5) rfl ?_;exact ak.int rfl
def bH:List Int->Int
 |[]=>0
 |e::r=>if e=0 then bH r else e
theorem S.bI(l:List Int)(f:Bool)(hl:l.length<2^40):aj Tryz.prog 113 [.row 0 f (.ints l)] (.int (bH l)):=by
 refine aj.of Bd.bI (by simp) rfl rfl ?_;refine aC.same [5,6] (fun i:Nat=>[(7,.int i)]) (fun i=>i<=l.length/\bH l=bH (l.drop i)) (fun i=>l.length-i) 0 rfl (by decide) rfl (fun _=>rfl) ⟨by omega,by simp⟩ ⟨⟨_,rfl,rfl⟩,trivial⟩ ?_;refine⟨rfl,?_⟩;rintro i ⟨hi,hall⟩;refine⟨fun h3=>?_,fun h3=>?_⟩
 ·have hi':i<l.length:=by simpa using h3
  rw[dA 0 hi'] at hall;simp only[bH] at hall;refine .mk (by simp only[Rw.rng] at *; omega) ?_;refine⟨fun h4=>?_,fun h4=>?_⟩
  ·conv=>whnf
   refine ak.int ?_
   have:l.getD i 0≠0:=by simpa using h4
   rw[hall,if_neg this]; rfl
  ·conv=>whnf
   refine .mk (by simp only[okI] at *; omega) ?_;conv=>whnf
   have:l.getD i 0=0:=by simpa using h4
   rw[if_pos this] at hall;refine⟨i+1,⟨by omega,hall⟩,by omega,⟨⟨_,rfl,rfl⟩,trivial⟩,?_,rfl⟩;repeat' (first|exact trivial|exact⟨_,rfl,rfl⟩|constructor)
 ·conv=>whnf
  refine ak.int ?_;have hi':l.length<=i:=by simpa using h3
  rw[hall,List.drop_eq_nil_of_le hi']; rfl
def F8:List Int->Bool
 |a::b::r=>decide (a<b)&&F8 (b::r)
 |_=>true
def jf(l:List Int)(n:Int):Int:=bif l.any (fun i=>rE i n) then 5 else bif F8 l then 0 else 1
theorem S.dZ(l:List Int)(n:Int)(f:Bool)(hl:l.length<2^40):aj Tryz.prog 112 [.row 0 f (.ints l),.int n] (.int (jf l n)):=by
 refine aj.of Bd.dZ (by simp) rfl rfl ?_;refine aC.same [0,1,8,9] (fun i:Nat=>[(10,.int i)]) (fun i=>i<=l.length/\(l.take i).any (fun i=>rE i n)=false) (fun i=>l.length-i) 0 rfl (by decide) rfl (fun _=>rfl) ⟨by omega,by simp⟩ ⟨⟨_,rfl,rfl⟩,trivial⟩ ?_;refine⟨rfl,?_⟩;rintro i ⟨hi,hall⟩;refine⟨fun h3=>?_,fun h3=>?_⟩
 ·have hi':i<l.length:=by simpa using h3
  repeat(refine VC.mk (by first|exact fun h=>⟨h,h⟩|(intro h; rw[h]; rfl)|(simp only[Rw.rng] at *; omega)) ?_)
  refine⟨fun h4=>?_,fun h4=>?_⟩
  ·conv=>whnf
   refine ak.int ?_;rw[jf,lZ (d:=0) hi' h4]; rfl
  ·conv=>whnf
   refine .mk (by simp only[okI] at *; omega) ?_;refine⟨i+1,⟨by omega,?_⟩,by omega,⟨⟨_,rfl,rfl⟩,trivial⟩,?_,rfl⟩
   ·rw[pK (d:=0) hi' hall]; exact h4
   ·repeat' (first|exact trivial|exact⟨_,rfl,rfl⟩|constructor)
 ·have hi':l.length<=i:=by simpa using h3
  rw[List.take_of_length_le hi'] at hall;refine aC.same [0] (fun i:Nat=>[(7,.int (i+1))]) (fun i=>(i<l.length\/i=0)/\F8 l=F8 (l.drop i)) (fun i=>l.length-i) 0 rfl (by decide) rfl (fun _=>rfl) ⟨by omega,by simp⟩ ⟨⟨_,rfl,rfl⟩,trivial⟩ ?_;refine⟨rfl,?_⟩;rintro i ⟨hi,hinc⟩;refine⟨fun h5=>?_,fun h5=>?_⟩
  ·have hi1:i+1<l.length:=by have:=of_decide_eq_true h5; omega
   rw[dA 0 (show i<l.length by omega),dA 0 hi1] at hinc;simp only[F8] at hinc;rw[<- dA 0 hi1] at hinc;repeat(refine VC.mk (by simp only[okI,Rw.rng] at *; omega) ?_)
   refine⟨fun h6=>?_,fun h6=>?_⟩
   ·conv=>whnf
    refine ak.int ?_;have e1:((i:Int)+1).toNat=i+1:=by omega
    have e2:((i:Int)+1-1).toNat=i:=by omega
    rw[e1,e2] at h6;have h6':l.getD (i+1) 0<=l.getD i 0:=of_decide_eq_true h6;rw[jf,hall,hinc,decide_eq_false (by omega)]; rfl
   ·conv=>whnf
    refine .mk (by simp only[okI] at *; omega) ?_;conv=>whnf
    have e1:((i:Int)+1).toNat=i+1:=by omega
    have e2:((i:Int)+1-1).toNat=i:=by omega
    rw[e1,e2] at h6;have h6': ¬ l.getD (i+1) 0<=l.getD i 0:=of_decide_eq_false h6;rw[decide_eq_true (by omega),Bool.true_and] at hinc;refine⟨i+1,⟨by omega,hinc⟩,by omega,⟨⟨_,rfl,rfl⟩,trivial⟩,?_,rfl⟩;repeat' (first|exact trivial|exact⟨_,rfl,rfl⟩|constructor)
  ·conv=>whnf
   refine ak.int ?_;have h5': ¬ ((i:Int)+1<l.length):=of_decide_eq_false h5
   have:F8 l=true:=by
    rw[hinc];rcases hd:l.drop i with _|⟨a,_|⟨b,r⟩⟩
    ·rfl
    ·rfl
    ·have:=congrArg List.length hd;simp only[List.length_drop,List.length_cons] at this;omega
   rw[jf,hall,this]; rfl
def aa6(n:Int):Bool:=decide (n>= -100)&&decide (n<=100)
theorem S.iD(n:Int):aj Tryz.prog 152 [.int n] (.bool (aa6 n)):=by
 refine aj.of Bd.iD (by simp) rfl rfl ?_;repeat(refine VC.mk id ?_)
 exact ak.bool rfl
def SE(l:Lin):Bool:=aa6 l.c&&aa6 l.n&&aa6 l.t&&aa6 l.f
theorem S.jy(l:Lin):aj Tryz.prog 125 [.dat (.lin l)] (.bool (SE l)):=by
 refine aj.of Bd.jy (by simp) rfl rfl ?_;refine ah.pure (S.iD l.c) rfl ?_;repeat(refine VC.mk id ?_)
 refine ah.eG (fun _=>S.iD l.n) rfl ?_;repeat(refine VC.mk id ?_)
 refine ah.eG (fun _=>S.iD l.t) rfl ?_;repeat(refine VC.mk id ?_)
 refine ah.eG (fun _=>S.iD l.f) rfl ?_;refine VC.mk id ?_;exact ak.bool rfl
def jA(p:aH)(v:Int):Int:=dV (decide (v< -1)||decide (v>=p.values.length)) 5
theorem S.fU(p:aH)(v:Int):aj Tryz.prog 158 [.dat (.fK p),.int v] (.int (jA p v)):=by
 refine aj.of Bd.fU (by simp) rfl rfl ?_;repeat(refine VC.mk (by first|exact id|exact fun h=>⟨h,h⟩|(intro h; rw[h]; rfl)) ?_)
 refine ah.pure (S.bT _ 5) rfl ?_;exact ak.int rfl
theorem SQ{a:Int}(h:(a !=0)=true):a≠0:=by simpa using h
theorem AA{a:Int}(h:(a !=0)=false):a=0:=by simpa using h
def vH(k t:Int):Bool:=bif k==1||k==2||k==3 then t==1 else bif k==4||k==5 then !(t==1) else false
theorem S.pY(k t:Int):aj Tryz.prog 155 [.int k,.int t] (.bool (vH k t)):=by
 refine aj.of Bd.pY (by simp) rfl rfl ?_;refine⟨fun h1=>?_,fun h1=>?_⟩
 ·conv=>whnf
  refine Fork.mk (fun _=>?_) (fun q=>absurd (q.symm.trans (h1)) Bool.false_ne_true);exact ak.bool (by simp[vH,h1])
 ·conv=>whnf
  refine⟨fun h2=>?_,fun h2=>?_⟩
  ·conv=>whnf
   refine Fork.mk (fun _=>?_) (fun q=>absurd (q.symm.trans (h2)) Bool.false_ne_true);exact ak.bool (by simp[vH,h1,h2])
  ·conv=>whnf
   refine⟨fun h3=>?_,fun h3=>?_⟩
   ·conv=>whnf
    exact ak.bool (by simp[vH,h1,h2,h3])
   ·conv=>whnf
    refine⟨fun h4=>?_,fun h4=>?_⟩
    ·conv=>whnf
     refine Fork.mk (fun _=>?_) (fun q=>absurd (q.symm.trans (h4)) Bool.false_ne_true);exact ak.bool (by simp[vH,h1,h2,h3,h4,bne])
    ·conv=>whnf
     refine⟨fun h5=>?_,fun h5=>?_⟩
     ·conv=>whnf
      exact ak.bool (by simp[vH,h1,h2,h3,h4,h5,bne])
     ·conv=>whnf
      exact ak.bool (by simp[vH,h1,h2,h3,h4,h5])
def qg:List Int->Int->Int
 |[],_=>0
 |x::r,n=>if cO x n=0 then qg r n else cO x n
def EJ(l:List Int)(n:Int):Int:=bif (l.length:Int) !=n then 1 else qg l n
theorem S.jP(l:List Int)(n:Int)(f:Bool)(hl:l.length<2^40):aj Tryz.prog 159 [.row 0 f (.ints l),.int n] (.int (EJ l n)):=by
 refine aj.of Bd.jP (by simp) rfl rfl ?_;refine⟨fun h=>?_,fun h=>?_⟩
 ·conv=>whnf
  exact ak.int (by rw[EJ,h]; rfl)
 ·conv=>whnf
  refine aC.same [0,1,12,13] (fun i:Nat=>[(14,.int i)]) (fun i=>i<=l.length/\qg l n=qg (l.drop i) n) (fun i=>l.length-i) 0 rfl (by decide) rfl (fun _=>rfl) ⟨by omega,by simp⟩ ⟨⟨_,rfl,rfl⟩,trivial⟩ ?_;refine⟨rfl,?_⟩;rintro i ⟨hi,hall⟩;refine⟨fun h3=>?_,fun h3=>?_⟩
  ·have hi':i<l.length:=by simpa using h3
   rw[dA 0 hi'] at hall;simp only[qg] at hall;refine .mk (by simp only[Rw.rng] at *; omega) ?_;refine ah.pure (S.bV (l.getD i 0) n) rfl ?_;refine⟨fun h4=>?_,fun h4=>?_⟩
   ·conv=>whnf
    refine ak.int ?_
    have:cO (l.getD i 0) n≠0:=by simpa using h4
    rw[EJ,h,cond_false,hall,if_neg this]
   ·conv=>whnf
    refine .mk (by simp only[okI] at *; omega) ?_;conv=>whnf
    have:cO (l.getD i 0) n=0:=by simpa using h4
    rw[if_pos this] at hall;refine⟨i+1,⟨by omega,hall⟩,by omega,⟨⟨_,rfl,rfl⟩,trivial⟩,?_,rfl⟩;repeat' (first|exact trivial|exact⟨_,rfl,rfl⟩|constructor)
  ·conv=>whnf
   refine ak.int ?_;have hi':l.length<=i:=by simpa using h3
   rw[EJ,h,cond_false,hall,List.drop_eq_nil_of_le hi']; rfl
def guardE(p:aH)(g:Ar):Int:=bH [cO g.message p.messages.length,dV (decide (g.Fz<1)||decide (g.Fz>100)) 1,dV (!(SE g.bound)) 4]
def jU(p:aH):List Ar->Int
 |[]=>0
 |g::r=>if guardE p g=0 then jU p r else guardE p g
def yx(p:aH)(l:List Ar):Int:=if jU p l=0 then dV (decide ((l.length:Int)>2)) 4 else jU p l
theorem S.mZ(p:aH)(l:List Ar)(f:Bool)(hl:l.length<2^40):aj Tryz.prog 157 [.dat (.fK p),.row 7 f (.qZ l)] (.int (yx p l)):=by
 refine aj.of Bd.mZ (by simp) rfl rfl ?_;refine aC.same [1,2,8,9] (fun i:Nat=>[(10,.int i)]) (fun i=>i<=l.length/\jU p l=jU p (l.drop i)) (fun i=>l.length-i) 0 rfl (by decide) rfl (fun _=>rfl) ⟨by omega,by simp⟩ ⟨⟨_,rfl,rfl⟩,trivial⟩ ?_;refine⟨rfl,?_⟩;rintro i ⟨hi,hall⟩;refine⟨fun h3=>?_,fun h3=>?_⟩
 ·have hi':i<l.length:=by simpa using h3
  rw[dA default hi'] at hall;simp only[jU] at hall;refine .mk (by simp only[Rw.rng] at *; omega) ?_;refine ah.pure (S.bV (l.getD i default).message p.messages.length) rfl ?_;repeat(refine VC.mk (by first|exact id|(intro h; rw[h]; rfl)) ?_)
  refine ah.pure (S.bT (decide ((l.getD i default).Fz<1)||decide ((l.getD i default).Fz>100)) 1) rfl ?_;refine ah.pure (S.jy (l.getD i default).bound) rfl ?_;refine ah.pure (S.bT (!(SE (l.getD i default).bound)) 4) rfl ?_;refine ah.pure (S.bI [cO (l.getD i default).message p.messages.length,dV (decide ((l.getD i default).Fz<1)||decide ((l.getD i default).Fz>100)) 1,dV (!(SE (l.getD i default).bound)) 4] true (show 3<2^40 by decide)) rfl ?_;refine⟨fun h4=>?_,fun h4=>?_⟩
  ·conv=>whnf
   refine ak.int ?_;have h4':guardE p (l.getD i default)≠0:=SQ h4;rw[if_neg h4'] at hall;rw[yx,hall,if_neg h4']; rfl
  ·conv=>whnf
   refine .mk (by simp only[okI] at *; omega) ?_;conv=>whnf
   have h4':guardE p (l.getD i default)=0:=AA h4;rw[if_pos h4'] at hall;refine⟨i+1,⟨by omega,hall⟩,by omega,⟨⟨_,rfl,rfl⟩,trivial⟩,?_,rfl⟩;repeat' (first|exact trivial|exact⟨_,rfl,rfl⟩|constructor)
 ·have hi':l.length<=i:=by simpa using h3
  rw[List.drop_eq_nil_of_le hi'] at hall;refine ah.pure (S.bT (decide ((l.length:Int)>2)) 4) rfl ?_;exact ak.int (by rw[yx,hall]; rfl)
structure uV(r:Rule):Prop where
 response:r.response.length<2^30
 guards:r.guards.length<2^30
 ex:r.ex.length<2^30
 all:r.all.length<2^30
 send:r.send.length<2^30
 left:r.left.length<2^30
 right:r.right.length<2^30
 parent:r.parent.length<2^30
def ED(r:Rule):Bool :=
 decide ((r.response.length:Int)+r.guards.length+r.ex.length+r.all.length+r.send.length+r.left.length+r.right.length+r.parent.length>0)||r.kG !=0||r.Di !=0||r.pos !=0||r.direction !=0||r.read != -1||r.write != -1
def kM(r:Rule)(t:Int):Bool :=
 bif r.kind==1 then ED {r with guards:=[],ex:=[],all:=[],send:=[],read:= -1,write:= -1} else
 bif r.kind==2 then(bif decide ((r.response.length:Int)>0) then true else ED {r with kG:=0,Di:=0,response:=[],read:= -1,write:= -1}) else
 bif r.kind==3 then ED {r with response:=[],read:= -1,write:= -1} else
 bif r.kind==4 then(bif t==4 then ED {r with pos:=0,left:=[],right:=[],parent:=[]} else ED {r with pos:=0,left:=[],right:=[]}) else
 bif r.kind==5 then ED {r with kG:=0,Di:=0,direction:=0} else ED r
theorem S.lN(r:Rule)(t:Int)(hs:uV r):aj Tryz.prog 156 [.dat (.rule r),.int t] (.bool (kM r t)):=by
 obtain⟨g1,g2,g3,g4,g5,g6,g7,g8⟩:=hs;refine aj.of Bd.lN (by simp) rfl rfl ?_;refine⟨fun h1=>?_,fun h1=>?_⟩
 ·conv=>whnf
  repeat(refine VC.mk (by first|exact id|(intro h; rw[h]; rfl)|(simp only[okI] at *; omega)) ?_)
  exact ak.bool (by simp[kM,ED,h1])
 ·conv=>whnf
  refine⟨fun h2=>?_,fun h2=>?_⟩
  ·conv=>whnf
   refine⟨fun h6=>?_,fun h6=>?_⟩
   ·conv=>whnf
    exact ak.bool (by rw[kM,h1,h2,show decide ((r.response.length:Int)>0)=true from h6]; rfl)
   ·conv=>whnf
    repeat(refine VC.mk (by first|exact id|(intro h; rw[h]; rfl)|(simp only[okI] at *; omega)) ?_)
    exact ak.bool (by rw[kM,h1,h2,show decide ((r.response.length:Int)>0)=false from h6]; simp[ED])
  ·conv=>whnf
   refine⟨fun h3=>?_,fun h3=>?_⟩
   ·conv=>whnf
    repeat(refine VC.mk (by first|exact id|(intro h; rw[h]; rfl)|(simp only[okI] at *; omega)) ?_)
    exact ak.bool (by simp[kM,ED,h1,h2,h3])
   ·conv=>whnf
    refine⟨fun h4=>?_,fun h4=>?_⟩
    ·conv=>whnf
     refine⟨fun h7=>?_,fun h7=>?_⟩
     ·conv=>whnf
      repeat(refine VC.mk (by first|exact id|(intro h; rw[h]; rfl)|(simp only[okI] at *; omega)) ?_)
      exact ak.bool (by simp[kM,ED,h1,h2,h3,h4,h7])
     ·conv=>whnf
      repeat(refine VC.mk (by first|exact id|(intro h; rw[h]; rfl)|(simp only[okI] at *; omega)) ?_)
      exact ak.bool (by simp[kM,ED,h1,h2,h3,h4,h7])
    ·conv=>whnf
     refine⟨fun h5=>?_,fun h5=>?_⟩
     ·conv=>whnf
      repeat(refine VC.mk (by first|exact id|(intro h; rw[h]; rfl)|(simp only[okI] at *; omega)) ?_)
      exact ak.bool (by simp[kM,ED,h1,h2,h3,h4,h5])
     ·conv=>whnf
      repeat(refine VC.mk (by first|exact id|(intro h; rw[h]; rfl)|(simp only[okI] at *; omega)) ?_)
      exact ak.bool (by simp[kM,ED,h1,h2,h3,h4,h5])
def aa7(h:Hz):Hz->Prop
 |[]=>True
 |(i,o)::r=>h.get i=o/\aa7 h r
theorem Yt{h:Hz}: ∀ {h0:Hz},aa7 h h0-> ∀ {i:Nat} {o:OV},h0.get i=some o->h.get i=some o:=by
 intro h0;induction h0 with
 |nil=>intro _ i o e; cases e
 |cons p r ih =>
  obtain⟨j,u⟩:=p;intro hs i o e;simp only[Hz.get] at e;cases hb:Nat.beq j i with
  |true=>rw[hb] at e; simp only[cond_true] at e; rw[<- Nat.eq_of_beq_eq_true hb,hs.1,e]
  |false=>rw[hb] at e; exact ih hs.2 e
def Yu:Hz->Bool
 |[]=>true
 |(_,some o)::r=>o.Dp&&Yu r
 |(_,none)::r=>Yu r
theorem Td: ∀ {h0:Hz},Yu h0=true-> ∀ {i:Nat} {o:OV},h0.get i=some o->o.Dp=true:=by
 intro h0;induction h0 with
 |nil=>intro _ i o e; cases e
 |cons p r ih =>
  obtain⟨j,u⟩:=p;intro hs i o e;simp only[Hz.get] at e;cases hb:Nat.beq j i with
  |true =>
   rw[hb] at e; simp only[cond_true] at e; subst e;simp only[Yu,Bool.and_eq_true] at hs; exact hs.1
  |false =>
   rw[hb] at e;refine ih ?_ e;cases u with
   |none=>exact hs
   |some o=>simp only[Yu,Bool.and_eq_true] at hs; exact hs.2
theorem OV.Tf{o:OV}(h:o.Dp=true):T.aO (fun _=>False) o.aA.l:=OV.CW h
theorem jv.same{nx:Nat}{h0 h:Hz}{n:Nat}{post:T->Hp->Prop}{v:V}(hf:v.free=true)(hs:aa7 h h0)(hg:Iw nx h0=true)(hfr:Yu h0=true)(hp:post v.aG h0.au):jv h0 n post v h:=by
 have hG:=FK hg;have get: ∀ i ob,h0.au i=some ob-> ∃ o,h0.get i=some o/\ob=o.aA:=fun i ob e=>by
  simp only[Hz.au,Option.map_eq_some_iff] at e;obtain⟨o,e1,e2⟩:=e;exact⟨o,e1,e2.symm⟩
 have hfree:=V.og v hf;refine⟨fun _=>False,id,v.aG,h0.au,hp,?_,fun i ob hi=>?_,fun i j _ _ e=>e,T.aZ (fun _ h=>h.elim) _ (fF hfree),fun i ob hi=>?_,fun i _ _=>rfl⟩
 ·rw[Ux]; exact aI _
 ·obtain⟨o,e1,rfl⟩:=get i ob hi;refine⟨o.aA,aP (Yt hs e1),fun h=>h,rfl,rfl,?_,zS (hG i _ hi).2.2⟩;rw[vO _ (OV.Tf (Td hfr e1))]; exact eY _
 ·obtain⟨o,e1,rfl⟩:=get i ob hi;exact⟨.inl (by rw[hi]; rfl),T.aB (fun _ h=>h.elim) _ (OV.Tf (Td hfr e1))⟩
abbrev hRP(p:aH)(r:Rule):Hz:=[(7,some (.box 78 19 (.dat (.rule r)))),(0,some (.box 27 11 (.dat (.fK p))))]
theorem S.PW(p:aH)(r x:Rule)(n:Nat):aQ Tryz.prog 154 (V.aT [.dat (.rule x),.ptr 7 0 0]) (hRP p r).au n (fun t hp=>t= .bool (x.name==r.name)/\hp=(hRP p r).au):=by
 refine qH.of (nx:=8) Bd.nO (by simp) ⟨_,_,rfl,rfl⟩ rfl rfl ?_;exact jv.same (nx:=8) rfl ⟨rfl,rfl,trivial⟩ rfl rfl ⟨rfl,rfl⟩
def Gm(s:Str):List Rule->Nat->Int
 |[],_=> -1
 |x::r,i=>bif x.name==s then(i:Int) else Gm s r (i+1)
theorem S.Yv(p:aH)(r:Rule)(l:List Rule)(f:Bool)(hl:l.length<2^30)(n:Nat):aQ Tryz.prog 173 (V.aT [.row 19 f (.rules l),.fn 154 [.ptr 7 0 0]]) (hRP p r).au n (fun t hp=>t= .int (Gm r.name l 0)/\hp=(hRP p r).au):=by
 refine qH.of (nx:=8) Bd.fV (by simp) ⟨_,_,rfl,rfl⟩ rfl rfl ?_;refine aC.same [0,1,6,7] (fun i:Nat=>[(8,.int i)]) (fun i=>i<=l.length/\Gm r.name l 0=Gm r.name (l.drop i) i) (fun i=>l.length-i) 0 rfl (by decide) rfl (fun _=>rfl) ⟨by omega,by simp⟩ ⟨⟨_,rfl,rfl⟩,trivial⟩ ?_;refine⟨rfl,?_⟩;rintro i ⟨hi,hall⟩;refine⟨fun h3=>?_,fun h3=>?_⟩
 ·have hi':i<l.length:=by simpa using h3
  rw[dA default hi'] at hall;simp only[Gm] at hall;refine .mk (by simp only[Rw.rng] at *; omega) ?_;refine ah.heap (S.PW p r (l.getD i default) _) ?_;rintro t hp ⟨rfl,rfl⟩;refine⟨.bool _,hRP p r,rfl,rfl,?_⟩;refine⟨fun h4=>?_,fun h4=>?_⟩
  ·conv=>whnf
   rw[h4] at hall;exact jv.same (nx:=8) rfl ⟨rfl,rfl,trivial⟩ rfl rfl ⟨by rw[hall]; rfl,rfl⟩
  ·conv=>whnf
   refine .mk (by simp only[okI] at *; omega) ?_;conv=>whnf
   rw[h4] at hall;refine⟨i+1,⟨by omega,hall⟩,by omega,⟨⟨_,rfl,rfl⟩,trivial⟩,?_,rfl⟩;repeat' (first|exact trivial|exact⟨_,rfl,rfl⟩|constructor)
 ·conv=>whnf
  have hi':l.length<=i:=by simpa using h3
  rw[List.drop_eq_nil_of_le hi'] at hall;exact jv.same (nx:=8) rfl ⟨rfl,rfl,trivial⟩ rfl rfl ⟨by rw[hall]; rfl,rfl⟩
theorem aa8{s:Str}{l:List Rule}{i:Nat}:decide (0<=Gm s l i)=l.any fun x=>x.name==s:=by
 have: ∀ {l:List Rule} {i:Nat},0<=Gm s l i↔(l.any fun x=>x.name==s)=true:=by
  intro l;induction l with
  |nil=>intro i; simp[Gm]
  |cons x r ih =>
   intro i;rw[List.any_cons,Bool.or_eq_true,<- ih (i:=i+1)];show(0:Int)<=(bif x.name==s then(i:Int) else Gm s r (i+1))↔_;generalize (x.name==s)=b;cases b<;>simp
 rw[Bool.eq_iff_iff,decide_eq_true_eq]; exact this
theorem S.PX(p:aH)(r:Rule)(l:List Rule)(f:Bool)(hl:l.length<2^30)(n:Nat):aQ Tryz.prog 153 (V.aT [.row 19 f (.rules l),.fn 154 [.ptr 7 0 0]]) (hRP p r).au n (fun t hp=>t= .bool (l.any fun x=>x.name==r.name)/\hp=(hRP p r).au):=by
 refine qH.of (nx:=8) Bd.fG (by simp) ⟨_,_,rfl,rfl⟩ rfl rfl ?_;refine ah.heap (S.Yv p r l f hl _) ?_;rintro t hp ⟨rfl,rfl⟩;refine⟨.int _,hRP p r,rfl,rfl,?_⟩;exact jv.same (nx:=8) rfl ⟨rfl,rfl,trivial⟩ rfl rfl ⟨by rw[<- aa8 (i:=0)]; rfl,rfl⟩
theorem ah.mkRow{P:Program}{f:FuncId}{args:List V}{h:Hz}{n ty k:Nat}{r:Rw}{K:V->Hz->Prop}{KW:Nat->V->Hz->Prop}(H:AX P f (V.aT args) (fun n=>.own n) (some ⟨ty,k,r.aT⟩))(hK:K (.own n) ((n,some (.row ty k r []))::h)):ah P false none f args h n K KW :=
 ah.heap (AX.frame H _ _) (by rintro t hp ⟨rfl,rfl⟩; exact⟨.own n,_,rfl,by rw[bP]; simp[jc,OV.aA,V.aT],hK⟩)
theorem S.Concat(a b c:List Str)(n:Nat)(h0:0<a.length)(ha:a.length<2^20)(hb:b.length<2^20)(hc:c.length<2^20) :
  aQ Tryz.prog 150 (V.aT [.G9 0 false [.row 0 false (.strs a),.row 0 false (.strs b),.row 0 false (.strs c)]]) no n (fun t hp=>t= .own n/\hp=Hz.au [(n,some (.row 9 0 (.strs (a++b++c)) []))]):=by
 refine qH.of (nx:=0) (h0:=[]) Bd.je (by simp) ⟨_,_,rfl,rfl⟩ rfl rfl ?_;refine aC.times 4 rfl ?_;refine Fork.mk (fun _=>?_) (fun q=>absurd (q.symm.trans (rfl)) Bool.false_ne_true);repeat(refine VC.mk (by first|(omega)|(simp only[okI] at *; omega)) ?_)
 refine Fork.mk (fun q=>absurd (q.symm.trans (decide_eq_false (by omega))).symm Bool.false_ne_true) (fun _=>?_);refine .mk (by simp only[okI] at *; omega) ?_;refine Fork.mk (fun _=>?_) (fun q=>absurd (q.symm.trans (rfl)) Bool.false_ne_true);repeat(refine VC.mk (by first|(omega)|(simp only[okI] at *; omega)) ?_)
 refine Fork.mk (fun q=>absurd (q.symm.trans (decide_eq_false (by omega))).symm Bool.false_ne_true) (fun _=>?_);refine .mk (by simp only[okI] at *; omega) ?_;refine Fork.mk (fun _=>?_) (fun q=>absurd (q.symm.trans (rfl)) Bool.false_ne_true);repeat(refine VC.mk (by first|(omega)|(simp only[okI] at *; omega)) ?_)
 refine Fork.mk (fun q=>absurd (q.symm.trans (decide_eq_false (by omega))).symm Bool.false_ne_true) (fun _=>?_);refine .mk (by simp only[okI] at *; omega) ?_;refine Fork.mk (fun q=>absurd (q.symm.trans (rfl)).symm Bool.false_ne_true) (fun _=>?_);conv=>whnf
 have e:(0+(a.length:Int)+b.length+c.length)=((a.length+b.length+c.length:Nat):Int):=by omega
 rw[e];refine ah.mkRow (r:=.strs []) (S.Grow (a.length+b.length+c.length) (by omega) (by omega)) ?_;refine aC.times 4 rfl ?_;refine Fork.mk (fun _=>?_) (fun q=>absurd (q.symm.trans (rfl)) Bool.false_ne_true);repeat(refine VC.mk (by first|(omega)|(simp only[mJ,nP,Rw.len,List.length_nil]; omega)|(simp only[okI] at *; omega)) ?_)
 refine Fork.mk (fun _=>?_) (fun q=>absurd (q.symm.trans (rfl)) Bool.false_ne_true);repeat(refine VC.mk (by first|(omega)|(simp only[mJ,nP,Rw.len,List.length_append,List.length_nil]; omega)|(simp only[okI] at *; omega)) ?_)
 refine Fork.mk (fun _=>?_) (fun q=>absurd (q.symm.trans (rfl)) Bool.false_ne_true);repeat(refine VC.mk (by first|(omega)|(simp only[mJ,nP,Rw.len,List.length_append,List.length_nil]; omega)|(simp only[okI] at *; omega)) ?_)
 refine Fork.mk (fun q=>absurd (q.symm.trans (rfl)).symm Bool.false_ne_true) (fun _=>?_);refine jv.one (c:=n) (o:=.row 9 0 (.strs (a++b++c)) []) (t:=.own n) rfl rfl rfl nofun (.inr rfl) rfl (.eq rfl) ⟨rfl,rfl⟩
theorem S.ade(a b c:List Str)(h0:0<a.length)(ha:a.length<2^20)(hb:b.length<2^20)(hc:c.length<2^20) :
  AX Tryz.prog 150 (V.aT [.G9 0 false [.row 0 false (.strs a),.row 0 false (.strs b),.row 0 false (.strs c)]]) (fun n=>.own n) (some ⟨9,0,(Rw.strs (a++b++c)).aT⟩):=by
 refine⟨rfl,fun _=>rfl,(fun ob h=>by cases h; rw[iw]; intro t ht; obtain⟨x,_,rfl⟩:=List.mem_map.1 ht; rfl),(fun ob h=>by cases h; exact fun e=>absurd e (by decide:(0:Nat)≠fM)),fun n=>(S.Concat a b c n h0 ha hb hc).mono ?_⟩;rintro t hp ⟨rfl,rfl⟩;refine⟨rfl,?_⟩;rw[bP]; simp[jc,OV.aA,V.aT]; rfl
theorem ah.adf{P:Program}{f:FuncId}{args:List V}{ts:List T}{h:Hz}{n ty k:Nat}{r:Rw}{K:V->Hz->Prop}{KW:Nat->V->Hz->Prop}(H:AX P f ts (fun n=>.own n) (some ⟨ty,k,r.aT⟩))(hs:T.dK (fun _=>True) h.au ts (V.aT args))(hh:T.xw r.aT=true)(hK:K (.own n) ((n,some (.row ty k r []))::h)):ah P false none f args h n K KW :=
 ⟨.inl (AX.lend H hs rfl (fun _ e=>by cases e; exact hh) ⟨.own n,_,rfl,by rw[bP]; simp[jc,OV.aA,V.aT],(fun e=>by cases e),hK⟩)⟩
theorem agm{h:Hz}{j ty:Nat}{Z:Nat->Prop}{l:List V}(hz:Z j)(q:h.get j=some (.row ty 0 .nil l))(hf:V.bZ l=true):T.sub Z h.au (V.G9 0 false l).aG (V.own j).aG:=by
 show T.sub Z h.au (.sl 0 false (V.aT l)) (.own j);simp only[T.sub];exact⟨trivial,hz,V.iC l hf,by decide,ty,by rw[aP q]; rfl⟩
theorem Yw{l:List Str}:T.xw (Rw.strs l).aT=true:=by
 show T.xw (l.map eS)=true;induction l with
 |nil=>rfl
 |cons s r ih=>simp only[List.map_cons,T.xw,ih]; rfl
theorem agn{h:Hz}{j i ty:Nat}{Z:Nat->Prop}{l:List Str}(hz:Z j)(q:h.get j=some (.row ty 0 (.strs l) []))(hi:i<=l.length):T.sub Z h.au (V.row 0 false (.strs (l.take i))).aG (V.pq j 0 i).aG:=by
 show T.sub Z h.au (.sl 0 false ((l.take i).map eS)) (.pq j 0 i);simp only[T.sub];refine⟨trivial,hz,?_,by decide,ty,l.map eS,?_,by simpa using hi,by simp[List.map_take]⟩
 ·rw[iw]; intro t ht; obtain⟨x,_,rfl⟩:=List.mem_map.1 ht; rfl
 ·rw[aP q]; simp[OV.aA,Rw.aT,V.aT]
def allNames(p:aH):List Str:=p.states++p.messages++p.values
def PO(l:List Str)(i:Nat):Bool:= !(validName (l.getD i []))||(l.take i).any fun x=>l.getD i []==x
def Af(p:aH):Int:=bif (List.range (allNames p).length).any (PO (allNames p)) then 2 else 0
theorem Ci{n:Nat}{f:Nat->Bool}:(List.range n).any f=true↔ ∃ i,i<n/\f i=true:=by
 simp[List.any_eq_true]
theorem S.oO(p:aH)(h0:0<p.states.length)(h1:p.states.length<2^20)(h2:p.messages.length<2^20)(h3:p.values.length<2^20):aj Tryz.prog 124 [.dat (.fK p)] (.int (Af p)):=by
 have hlen:(allNames p).length<2^30:=by simp only[allNames,List.length_append]; omega
 refine aj.of Bd.oO (by simp) rfl rfl ?_;refine ah.adf (r:=.strs (allNames p)) (S.ade p.states p.messages p.values h0 h1 h2 h3) (And.intro (agm (ty:=22) trivial rfl rfl) trivial) Yw ?_;refine aC.same [3,14,15] (fun i:Nat=>[(16,.int i)]) (fun i=>i<=(allNames p).length/\(List.range i).any (PO (allNames p))=false) (fun i=>(allNames p).length-i) 0 rfl (by decide) rfl (fun _=>rfl) ⟨Nat.zero_le _,rfl⟩ ⟨⟨_,rfl,rfl⟩,trivial⟩ ?_;refine⟨rfl,?_⟩;rintro i ⟨hi,hall⟩;refine⟨fun h4=>?_,fun h4=>?_⟩
 ·have hi':i<(allNames p).length:=by simpa using h4
  repeat(refine VC.mk (by simp only[Rw.rng] at *; omega) ?_)
  refine ah.pure (S.gB ((allNames p).getD i [])) rfl ?_;repeat(refine VC.mk (by first|exact fun h=>⟨h,h⟩|(intro h; (repeat' apply And.intro)<;>first|exact h|omega|(simp only[Rw.rJ]; omega)|(simp only[Rw.rng]; omega))) ?_)
  refine ah.afg (fun _=>S.slices_Contains_string ((allNames p).take i) ((allNames p).getD i []) false (by rw[List.length_take]; omega)) (fun _=>And.intro (agn (ty:=9) trivial rfl (by omega)) (And.intro (aI _) trivial)) rfl rfl ?_;refine .mk (by intro h; rw[h]; rfl) ?_;refine⟨fun h5=>?_,fun h5=>?_⟩
  ·conv=>whnf
   refine ak.int ?_;rw[Af,Ci.2 ⟨i,hi',h5⟩]; rfl
  ·conv=>whnf
   refine .mk (by simp only[okI] at *; omega) ?_;refine⟨i+1,⟨by omega,?_⟩,by omega,⟨⟨_,rfl,rfl⟩,trivial⟩,?_,rfl⟩
   ·rw[List.range_succ,List.any_append,hall];simp only[List.any_cons,List.any_nil,Bool.or_false,Bool.false_or]; exact h5
   ·repeat' (first|exact trivial|exact⟨_,rfl,rfl⟩|constructor)
 ·have hi':(allNames p).length<=i:=by simpa using h4
  have e:i=(allNames p).length:=Nat.le_antisymm hi hi';subst e;exact ak.int (by rw[Af,hall]; rfl)
theorem ah.o8{P:Program}{f:FuncId}{args:List V}{h:Hz}{hp0:Hp}{n:Nat}{K:V->Hz->Prop}{KW:Nat->V->Hz->Prop}{post:T->Hp->Prop}(S:aQ P f (V.aT args) hp0 n post)(e:h.au=hp0)(hK: ∀ t hp,post t hp-> ∃ v h',t=v.aG/\hp=Hz.au h'/\K v h'):ah P false none f args h n K KW:=by
 subst e; exact ah.heap S hK
theorem Ti{i:Nat}{a b:Option OV}{r:Hz}:Hz.au ((i,a)::(i,b)::r)=Hz.au ((i,a)::r):=funext fun j=>by
 simp only[Hz.au,Hz.get]; cases Nat.beq i j<;>rfl
structure dG(p:aH):Prop where
 states:p.states.length<2^20
 messages:p.messages.length<2^20
 values:p.values.length<2^20
 bU:p.bU.length<2^30
 initial:p.initial.length<2^30
 leader:p.leader.length<2^30
 rules:p.rules.length<2^30
 rule: ∀ i,uV (p.rules.getD i default)
 qZ:(p.rules.flatMap Rule.guards).length<2^30
def tq(p:aH)(i:Nat):Bool:= !(validName (p.rules.getD i default).name)||(p.rules.take i).any fun x=>x.name==(p.rules.getD i default).name
def rF(p:aH)(i:Nat):Bool:= !(vH (p.rules.getD i default).kind p.topology)||kM (p.rules.getD i default) p.topology
def xP(p:aH)(r:Rule):Int:=bH [cO r.fr p.states.length,cO r.to p.states.length]
def aaW(p:aH)(r:Rule):Bool:=decide (r.pos<0)||decide (r.pos>2)||(r.pos !=0&&p.topology==3)
def gK(p:aH)(i:Nat):Int :=
 let r:=p.rules.getD i default
 let n:Int:=p.states.length
 bif tq p i then 2 else bif rF p i then 6 else bif xP p r !=0 then xP p r else
 bif r.kind==1 then bH [yx p r.guards,jf r.ex n,jf r.all n,jA p r.read,jA p r.write,jf r.send p.messages.length] else
 bif r.kind==2 then bH [cO r.kG n,cO r.Di n,jA p r.read,jA p r.write] else
 bif r.kind==3 then bH [EJ r.response n,jA p r.read,jA p r.write] else
 bif r.kind==4 then bH [jf r.left n,jf r.right n,jf r.parent n,dV (aaW p r) 1] else
 bif p.topology==4 then bH [cO r.kG n,cO r.Di n,dV (decide (r.direction<3)||decide (r.direction>4)) 1]
 else bH [cO r.kG n,cO r.Di n,dV (decide (r.direction<1)||decide (r.direction>2)) 1]
theorem S.jO(p:aH)(i:Nat)(hi:i<p.rules.length)(hp:dG p):aj Tryz.prog 126 [.dat (.fK p),.int i] (.int (gK p i)):=by
 have hr:=hp.rule i;have hp1:=hp.rules;have hp2:=hp.states;have hp3:=hp.messages;refine aj.of Bd.jO (by simp) rfl rfl ?_;repeat(refine VC.mk (by first|(simp only[Rw.rJ]; omega)|(simp only[Rw.rng] at *; omega)) ?_)
 refine ah.o8 (S.PX p (p.rules.getD i default) (p.rules.take i) false (by rw[List.length_take]; omega) _) Ti ?_;rintro t hp' ⟨rfl,rfl⟩;refine⟨.bool _,hRP p (p.rules.getD i default),rfl,rfl,?_⟩;refine ah.pure (S.gB (p.rules.getD i default).name) rfl ?_;refine .mk (by intro h; rw[h]; rfl) ?_;refine⟨fun h1=>?_,fun h1=>?_⟩
 ·conv=>whnf
  exact ak.int (by rw[gK,show tq p i=true from h1]; rfl)
 ·conv=>whnf
  refine ah.pure (S.pY (p.rules.getD i default).kind p.topology) rfl ?_;repeat(refine VC.mk (by first|exact id|exact fun h=>⟨h,h⟩) ?_)
  refine ah.eG (fun _=>S.lN (p.rules.getD i default) p.topology hr) rfl ?_;refine .mk (by intro h; rw[h]; rfl) ?_;refine⟨fun h2=>?_,fun h2=>?_⟩
  ·conv=>whnf
   exact ak.int (by rw[gK,show tq p i=false from h1,show rF p i=true from h2]; rfl)
  ·conv=>whnf
   refine ah.pure (S.bV (p.rules.getD i default).fr p.states.length) rfl ?_;refine ah.pure (S.bV (p.rules.getD i default).to p.states.length) rfl ?_;refine ah.pure (S.bI [cO (p.rules.getD i default).fr p.states.length,cO (p.rules.getD i default).to p.states.length] true (show 2<2^40 by decide)) rfl ?_;refine⟨fun h3=>?_,fun h3=>?_⟩
   ·conv=>whnf
    exact ak.int (by rw[gK,show tq p i=false from h1,show rF p i=false from h2,show(xP p (p.rules.getD i default) !=0)=true from h3]; rfl)
   ·conv=>whnf
    refine⟨fun h4=>?_,fun h4=>?_⟩
    ·conv=>whnf
     refine ah.pure (S.mZ p (p.rules.getD i default).guards false (by have:=hr.guards; omega)) rfl ?_;refine ah.pure (S.dZ (p.rules.getD i default).ex p.states.length false (by have:=hr.ex; omega)) rfl ?_;refine ah.pure (S.dZ (p.rules.getD i default).all p.states.length false (by have:=hr.all; omega)) rfl ?_;refine ah.pure (S.fU p (p.rules.getD i default).read) rfl ?_;refine ah.pure (S.fU p (p.rules.getD i default).write) rfl ?_;refine ah.pure (S.dZ (p.rules.getD i default).send p.messages.length false (by have:=hr.send; omega)) rfl ?_;refine ah.pure (S.bI [yx p (p.rules.getD i default).guards,jf (p.rules.getD i default).ex p.states.length,jf (p.rules.getD i default).all p.states.length,jA p (p.rules.getD i default).read,jA p (p.rules.getD i default).write,jf (p.rules.getD i default).send p.messages.length] true (show 6<2^40 by decide)) rfl ?_;exact ak.int (by rw[gK,show tq p i=false from h1,show rF p i=false from h2,show(xP p (p.rules.getD i default) !=0)=false from h3,h4]; rfl)
    ·conv=>whnf
     refine⟨fun h5=>?_,fun h5=>?_⟩
     ·conv=>whnf
      refine ah.pure (S.bV (p.rules.getD i default).kG p.states.length) rfl ?_;refine ah.pure (S.bV (p.rules.getD i default).Di p.states.length) rfl ?_;refine ah.pure (S.fU p (p.rules.getD i default).read) rfl ?_;refine ah.pure (S.fU p (p.rules.getD i default).write) rfl ?_;refine ah.pure (S.bI [cO (p.rules.getD i default).kG p.states.length,cO (p.rules.getD i default).Di p.states.length,jA p (p.rules.getD i default).read,jA p (p.rules.getD i default).write] true (show 4<2^40 by decide)) rfl ?_;exact ak.int (by rw[gK,show tq p i=false from h1,show rF p i=false from h2,show(xP p (p.rules.getD i default) !=0)=false from h3,h4,h5]; rfl)
     ·conv=>whnf
      refine⟨fun h6=>?_,fun h6=>?_⟩
      ·conv=>whnf
       refine ah.pure (S.jP (p.rules.getD i default).response p.states.length false (by have:=hr.response; omega)) rfl ?_;refine ah.pure (S.fU p (p.rules.getD i default).read) rfl ?_;refine ah.pure (S.fU p (p.rules.getD i default).write) rfl ?_;refine ah.pure (S.bI [EJ (p.rules.getD i default).response p.states.length,jA p (p.rules.getD i default).read,jA p (p.rules.getD i default).write] true (show 3<2^40 by decide)) rfl ?_;exact ak.int (by rw[gK,show tq p i=false from h1,show rF p i=false from h2,show(xP p (p.rules.getD i default) !=0)=false from h3,h4,h5,h6]; rfl)
      ·conv=>whnf
       refine⟨fun h7=>?_,fun h7=>?_⟩
       ·conv=>whnf
        repeat(refine VC.mk (by first|exact id|(intro h; rw[h]; rfl)|(intro h; simp_all; done)) ?_)
        refine ah.pure (S.dZ (p.rules.getD i default).left p.states.length false (by have:=hr.left; omega)) rfl ?_;refine ah.pure (S.dZ (p.rules.getD i default).right p.states.length false (by have:=hr.right; omega)) rfl ?_;refine ah.pure (S.dZ (p.rules.getD i default).parent p.states.length false (by have:=hr.parent; omega)) rfl ?_;refine ah.pure (S.bT (aaW p (p.rules.getD i default)) 1) rfl ?_;refine ah.pure (S.bI [jf (p.rules.getD i default).left p.states.length,jf (p.rules.getD i default).right p.states.length,jf (p.rules.getD i default).parent p.states.length,dV (aaW p (p.rules.getD i default)) 1] true (show 4<2^40 by decide)) rfl ?_;exact ak.int (by rw[gK,show tq p i=false from h1,show rF p i=false from h2,show(xP p (p.rules.getD i default) !=0)=false from h3,h4,h5,h6,h7]; rfl)
       ·conv=>whnf
        refine⟨fun h8=>?_,fun h8=>?_⟩
        ·conv=>whnf
         refine ah.pure (S.bV (p.rules.getD i default).kG p.states.length) rfl ?_;refine ah.pure (S.bV (p.rules.getD i default).Di p.states.length) rfl ?_;repeat(refine VC.mk (by first|exact id|exact fun h=>⟨h,h⟩|(intro h; rw[h]; rfl)) ?_)
         refine ah.pure (S.bT (decide ((p.rules.getD i default).direction<3)||decide ((p.rules.getD i default).direction>4)) 1) rfl ?_;refine ah.pure (S.bI [cO (p.rules.getD i default).kG p.states.length,cO (p.rules.getD i default).Di p.states.length,dV (decide ((p.rules.getD i default).direction<3)||decide ((p.rules.getD i default).direction>4)) 1] true (show 3<2^40 by decide)) rfl ?_;exact ak.int (by rw[gK,show tq p i=false from h1,show rF p i=false from h2,show(xP p (p.rules.getD i default) !=0)=false from h3,h4,h5,h6,h7,h8]; rfl)
        ·conv=>whnf
         refine ah.pure (S.bV (p.rules.getD i default).kG p.states.length) rfl ?_;refine ah.pure (S.bV (p.rules.getD i default).Di p.states.length) rfl ?_;repeat(refine VC.mk (by first|exact id|exact fun h=>⟨h,h⟩|(intro h; rw[h]; rfl)) ?_)
         refine ah.pure (S.bT (decide ((p.rules.getD i default).direction<1)||decide ((p.rules.getD i default).direction>2)) 1) rfl ?_;refine ah.pure (S.bI [cO (p.rules.getD i default).kG p.states.length,cO (p.rules.getD i default).Di p.states.length,dV (decide ((p.rules.getD i default).direction<1)||decide ((p.rules.getD i default).direction>2)) 1] true (show 3<2^40 by decide)) rfl ?_;exact ak.int (by rw[gK,show tq p i=false from h1,show rF p i=false from h2,show(xP p (p.rules.getD i default) !=0)=false from h3,h4,h5,h6,h7,h8]; rfl)
def yw(g:Ar):List Ar->Nat->Int
 |[],_=> -1
 |x::r,i=>bif g==x then(i:Int) else yw g r (i+1)
theorem SL{g:Ar}{l:List Ar}{i:Nat}:decide (0<=yw g l i)=l.any fun x=>g==x:=by
 have: ∀ {l:List Ar} {i:Nat},0<=yw g l i↔(l.any fun x=>g==x)=true:=by
  intro l;induction l with
  |nil=>intro i; simp[yw]
  |cons x r ih =>
   intro i;rw[List.any_cons,Bool.or_eq_true,<- ih (i:=i+1)];show(0:Int)<=(bif g==x then(i:Int) else yw g r (i+1))↔_;generalize (g==x)=b;cases b<;>simp
 rw[Bool.eq_iff_iff,decide_eq_true_eq]; exact this
theorem S.aa9(l:List Ar)(g:Ar)(f:Bool)(hl:l.length<2^40):aj Tryz.prog 174 [.row 7 f (.qZ l),.dat (.Tt g)] (.int (yw g l 0)):=by
 refine aj.of Bd.eX (by simp) rfl rfl ?_;refine aC.same [0,3,6,7] (fun i:Nat=>[(8,.int i)]) (fun i=>i<=l.length/\yw g l 0=yw g (l.drop i) i) (fun i=>l.length-i) 0 rfl (by decide) rfl (fun _=>rfl) ⟨by omega,by simp⟩ ⟨⟨_,rfl,rfl⟩,trivial⟩ ?_;refine⟨rfl,?_⟩;rintro i ⟨hi,hall⟩;refine⟨fun h3=>?_,fun h3=>?_⟩
 ·have hi':i<l.length:=by simpa using h3
  rw[dA default hi'] at hall;simp only[yw] at hall;refine .mk (by simp only[Rw.rng] at *; omega) ?_;refine⟨fun h4=>?_,fun h4=>?_⟩
  ·conv=>whnf
   refine ak.int ?_;have h4':(g==l.getD i default)=true:=h4;rw[hall,h4']; rfl
  ·conv=>whnf
   refine .mk (by simp only[okI] at *; omega) ?_;refine⟨i+1,⟨by omega,?_⟩,by omega,⟨⟨_,rfl,rfl⟩,trivial⟩,?_,rfl⟩
   ·have h4':(g==l.getD i default)=false:=h4;rw[hall,h4']; rfl
   ·repeat' (first|exact trivial|exact⟨_,rfl,rfl⟩|constructor)
 ·conv=>whnf
  refine ak.int ?_;have hi':l.length<=i:=by simpa using h3
  rw[hall,List.drop_eq_nil_of_le hi']; rfl
theorem S.Tj(l:List Ar)(g:Ar)(f:Bool)(hl:l.length<2^40):aj Tryz.prog 160 [.row 7 f (.qZ l),.dat (.Tt g)] (.bool (l.any fun x=>g==x)):=by
 refine aj.of Bd.dS (by simp) rfl rfl ?_;refine ah.pure (S.aa9 l g f hl) rfl ?_;exact ak.bool SL.symm
theorem aaT{h:Hz}{j:Nat}{Z:Nat->Prop}{l:List Ar}(hz:Z j)(q:h.get j=some (.row 143 7 (.qZ l) [])):T.sub Z h.au (V.row 7 false (.qZ l)).aG (V.own j).aG:=by
 show T.sub Z h.au (.sl 7 false (l.map QT)) (.own j);simp only[T.sub];refine⟨trivial,hz,?_,by decide,143,?_⟩
 ·rw[iw]; intro t ht; obtain⟨x,_,rfl⟩:=List.mem_map.1 ht; rfl
 ·have:=aP q;rw[this]; simp[OV.aA,Rw.aT,V.aT]
theorem Cb{α β:Type}{f:β->α->β}{b:β}{l:List α}{i:Nat}{d:α}(h:i<l.length):(l.take (i+1)).foldl f b=f ((l.take i).foldl f b) (l.getD i d):=by
 rw[List.take_add_one,List.foldl_append];simp[List.getElem?_eq_getElem h]
theorem ak.agi{h:Hz}{j:Nat}{l:List Ar}(q:h.get j=some (.row 143 7 (.qZ l) [])):ak (.row 7 false (.qZ l)) (.own j) h:=⟨aaT trivial q⟩
def IV(acc:List Ar)(g:Ar):List Ar:=bif acc.any (fun x=>g==x) then acc else acc++[g]
def zC(l:List Rule):List Ar:=(l.flatMap Rule.guards).foldl IV []
theorem abb{acc:List Ar}{g:Ar}:(IV acc g).length<=acc.length+1:=by
 unfold IV; cases acc.any (fun x=>g==x)<;>simp
theorem Tm: ∀ {l acc:List Ar},(l.foldl IV acc).length<=acc.length+l.length:=by
 intro l;induction l with
 |nil=>intro acc; simp
 |cons g r ih =>
  intro acc;have:=ih (acc:=IV acc g);have h2:=abb (acc:=acc) (g:=g);simp only[List.foldl_cons,List.length_cons]; omega
abbrev rowT(l:List Ar):OV:=.row 143 7 (.qZ l) []
def zD(p:aH)(i k:Nat):List Ar:=((p.rules.getD i default).guards.take k).foldl IV (zC (p.rules.take i))
theorem SN(p:aH)(hp:dG p)(i k:Nat)(_hi:i<p.rules.length):(zD p i k).length<2^31:=by
 have h1:=Tm (l:=(p.rules.getD i default).guards.take k) (acc:=zC (p.rules.take i));have h2:=Tm (l:=(p.rules.take i).flatMap Rule.guards) (acc:=[]);have h3:=(hp.rule i).guards;have h4:((p.rules.take i).flatMap Rule.guards).length<=(p.rules.flatMap Rule.guards).length:=by
  conv=>rhs; rw[<- List.take_append_drop i p.rules,List.flatMap_append,List.length_append]
  omega
 have h5:=hp.qZ;have h6:((p.rules.getD i default).guards.take k).length<=(p.rules.getD i default).guards.length:=by simp[List.length_take]; omega
 unfold zD;unfold zC at h1 ⊢;simp only[List.length_nil,Nat.zero_add] at h2;omega
theorem N7(p:aH){i:Nat}(hi:i<p.rules.length):zC (p.rules.take (i+1))=zD p i (p.rules.getD i default).guards.length:=by
 unfold zD;rw[List.take_of_length_le (Nat.le_refl _)];unfold zC;rw[List.take_add_one,List.flatMap_append,List.foldl_append];simp[List.getElem?_eq_getElem hi]
theorem S.jl(p:aH)(hp:dG p):aj Tryz.prog 127 [.dat (.fK p)] (.row 7 false (.qZ (zC p.rules))):=by
 have hp1:=hp.rules;refine aj.of Bd.jl (by simp) rfl rfl ?_;refine aC.nil 3 143 7 (by rfl) rfl rfl rfl ?_;refine aC.objs 1 [9,10] (fun i:Nat=>[(11,.int i),(3,.own 0)]) (fun i=>[(0,rowT (zC (p.rules.take i)))]) (fun i=>i<=p.rules.length) (fun i=>p.rules.length-i) 0 [7] rfl (by decide) (fun _=>rfl) (Nat.zero_le _) ?_ ?_ ?_
 ·exact(sR rfl)
 ·exact⟨iQ rfl rfl,trivial⟩
 refine⟨(sR rfl),rfl,?_⟩;rintro i hi;refine⟨fun h3=>?_,fun h3=>?_⟩
 ·have hi':i<p.rules.length:=by simpa using h3
  refine .mk (by simp only[Rw.rng] at *; first|omega|(simp_all; done)|(simp_all; omega)) ?_;refine aC.objs 1 [9,10,11,16,17] (fun k:Nat=>[(18,.int k),(3,.own 0)]) (fun k=>[(0,rowT (zD p i k))]) (fun k=>k<=(p.rules.getD i default).guards.length) (fun k=>(p.rules.getD i default).guards.length-k) 0 [0] rfl (by decide) (fun _=>rfl) (Nat.zero_le _) ?_ ?_ ?_
  ·exact(sR rfl)
  ·exact⟨iQ rfl rfl,trivial⟩
  refine⟨(sR rfl),rfl,?_⟩;rintro k hk;have hacc:=SN p hp i k hi';have hg:=(hp.rule i).guards;refine⟨fun h4=>?_,fun h4=>?_⟩
  ·have hk':k<(p.rules.getD i default).guards.length:=by simpa using h4
   have hst:zD p i (k+1)=IV (zD p i k) ((p.rules.getD i default).guards.getD k default):=Cb hk';refine .mk (by simp only[Rw.rng] at *; first|omega|(simp_all; done)|(simp_all; omega)) ?_;refine ah.lend (S.Tj (zD p i k) ((p.rules.getD i default).guards.getD k default) false (by omega)) (And.intro (aaT trivial rfl) (And.intro (aI _) trivial)) rfl rfl ?_;refine⟨fun h5=>?_,fun h5=>?_⟩
   ·conv=>whnf
    repeat(refine VC.mk (by first|(show((zD p i k).length+(0+1))*48<=140737488355328/\(zD p i k).length+(0+1)<=1152921504606846976; omega)|(simp only[okI] at *; first|omega|(simp_all; done)|(simp_all; omega))) ?_)
    have h5':((zD p i k).any fun x=>(p.rules.getD i default).guards.getD k default==x)=false:=by simpa using h5
    refine⟨k+1,[13],by omega,by omega,(sR rfl),(sR rfl),⟨rfl,nofun,rfl,rfl,rfl,_,rfl,rfl,rfl,dQ.of_eq ?_⟩,trivial⟩;rw[hst,IV,h5'];rfl
   ·conv=>whnf
    refine .mk (by simp only[okI] at *; first|omega|(simp_all; done)|(simp_all; omega)) ?_;conv=>whnf
    have h5':((zD p i k).any fun x=>(p.rules.getD i default).guards.getD k default==x)=true:=by simpa using h5
    refine⟨k+1,[0],by omega,by omega,(sR rfl),(sR rfl),⟨rfl,nofun,rfl,rfl,rfl,_,rfl,rfl,rfl,dQ.of_eq ?_⟩,trivial⟩;rw[hst,IV,h5']; rfl
  ·have hk':(p.rules.getD i default).guards.length<=k:=by simpa using h4
   have e:k=(p.rules.getD i default).guards.length:=Nat.le_antisymm hk hk';subst e;refine .mk (by simp only[okI] at *; first|omega|(simp_all; done)|(simp_all; omega)) ?_;refine⟨i+1,[0],by omega,by omega,(sR rfl),(sR rfl),⟨rfl,nofun,rfl,rfl,rfl,_,rfl,rfl,rfl,dQ.of_eq ?_⟩,trivial⟩;rw[N7 p hi']
 ·have hi':p.rules.length<=i:=by simpa using h3
  rw[List.take_of_length_le hi'];exact ak.agi rfl
def vG(p:aH):Bool:=decide (p.topology<1)||decide (p.topology>4)||decide (p.fault<0)||decide (p.fault>3)
def wE(p:aH):Bool:=decide ((p.states.length:Int)>6)||decide ((p.messages.length:Int)>3)||decide ((p.values.length:Int)>3)||decide ((p.bU.length:Int)>4)||decide ((p.rules.length:Int)>8)
def SV(p:aH):Bool:=(!(p.topology==1)&&(decide ((p.messages.length:Int)>0)||decide ((p.values.length:Int)>0)||decide ((p.bU.length:Int)>0)||p.fault !=0))||((p.topology==1)&&decide ((p.leader.length:Int)>0))
def yN(p:aH):Int:=bH [jf p.initial p.states.length,dV ((p.initial.length:Int)==0) 1,jf p.leader p.states.length]
def DU(p:aH):Int:=bH ((List.range p.rules.length).map (gK p))
def aX(p:aH):Int :=
 bif !(validName p.name) then 2 else bif vG p then 1 else bif (p.states.length:Int)==0 then 1 else bif wE p then 4 else
 bif Af p !=0 then Af p else bif SV p then 1 else
 bif p.bU.any (fun l=> !(SE l)) then 4 else
 bif yN p !=0 then yN p else
 bif DU p !=0 then DU p else dV (decide (((zC p.rules).length:Int)>3)) 4
theorem LJ{n i:Nat}{f:Nat->Int}(h:i<n):((List.range n).drop i).map f=f i::((List.range n).drop (i+1)).map f:=by
 rw[List.drop_eq_getElem_cons (by simpa using h)]; simp
theorem S.fO(p:aH)(hp:dG p):aj Tryz.prog 94 [.dat (.fK p)] (.int (aX p)):=by
 have g1:=hp.states; have g2:=hp.messages; have g3:=hp.values; have g4:=hp.bU; have g5:=hp.initial; have g6:=hp.leader; have g7:=hp.rules;refine aj.of Bd.fO (by simp) rfl rfl ?_;refine ah.pure (S.gB p.name) rfl ?_;refine⟨fun h1=>?_,fun h1=>?_⟩
 ·conv=>whnf
  exact ak.int (by rw[aX,h1]; rfl)
 repeat(refine VC.mk (by first|exact id|(intro h; rw[h]; rfl)) ?_)
 refine⟨fun h2=>?_,fun h2=>?_⟩
 ·conv=>whnf
  exact ak.int (by rw[aX,h1,show vG p=true from h2]; rfl)
 refine⟨fun h3=>?_,fun h3=>?_⟩
 ·conv=>whnf
  exact ak.int (by rw[aX,h1,show vG p=false from h2,h3]; rfl)
 repeat(refine VC.mk (by first|exact id|(intro h; rw[h]; rfl)) ?_)
 refine⟨fun h4=>?_,fun h4=>?_⟩
 ·conv=>whnf
  exact ak.int (by rw[aX,h1,show vG p=false from h2,h3,show wE p=true from h4]; rfl)
 conv=>whnf
 have h0:0<p.states.length:=by
  rcases Nat.eq_zero_or_pos p.states.length with e|e
  ·rw[e] at h3; exact absurd h3 (by decide)
  ·exact e
 refine ah.pure (S.oO p h0 g1 g2 g3) rfl ?_;refine⟨fun h5=>?_,fun h5=>?_⟩
 ·conv=>whnf
  exact ak.int (by rw[aX,h1,show vG p=false from h2,h3,show wE p=false from h4,h5]; rfl)
 repeat(refine VC.mk (by first|exact id|(intro h; rw[h]; rfl)|(intro h; simp_all; done)) ?_)
 refine⟨fun h6=>?_,fun h6=>?_⟩
 ·conv=>whnf
  exact ak.int (by rw[aX,h1,show vG p=false from h2,h3,show wE p=false from h4,h5,show SV p=true from h6]; rfl)
 refine aC.same [1,4,111,112] (fun i:Nat=>[(113,.int i)]) (fun i=>i<=p.bU.length/\(p.bU.take i).any (fun l=> !(SE l))=false) (fun i=>p.bU.length-i) 0 rfl (by decide) rfl (fun _=>rfl) ⟨by omega,by simp⟩ ⟨⟨_,rfl,rfl⟩,trivial⟩ ?_;refine⟨rfl,?_⟩;rintro i ⟨hi,hall⟩;refine⟨fun h7=>?_,fun h7=>?_⟩
 ·have hi':i<p.bU.length:=by simpa using h7
  refine .mk (by simp only[Rw.rng] at *; omega) ?_;refine ah.pure (S.jy (p.bU.getD i default)) rfl ?_;refine⟨fun h8=>?_,fun h8=>?_⟩
  ·conv=>whnf
   exact ak.int (by rw[aX,h1,show vG p=false from h2,h3,show wE p=false from h4,h5,show SV p=false from h6,lZ (d:=default) hi' h8]; rfl)
  ·conv=>whnf
   refine .mk (by simp only[okI] at *; omega) ?_;refine⟨i+1,⟨by omega,?_⟩,by omega,⟨⟨_,rfl,rfl⟩,trivial⟩,?_,rfl⟩
   ·rw[pK (d:=default) hi' hall]; exact h8
   ·repeat' (first|exact trivial|exact⟨_,rfl,rfl⟩|constructor)
 have hi':p.bU.length<=i:=by simpa using h7
 rw[List.take_of_length_le hi'] at hall;refine ah.pure (S.dZ p.initial p.states.length false (by omega)) rfl ?_;refine ah.pure (S.bT ((p.initial.length:Int)==0) 1) rfl ?_;refine ah.pure (S.dZ p.leader p.states.length false (by omega)) rfl ?_;refine ah.pure (S.bI [jf p.initial p.states.length,dV ((p.initial.length:Int)==0) 1,jf p.leader p.states.length] true (show 3<2^40 by decide)) rfl ?_;refine⟨fun h9=>?_,fun h9=>?_⟩
 ·conv=>whnf
  exact ak.int (by rw[aX,h1,show vG p=false from h2,h3,show wE p=false from h4,h5,show SV p=false from h6,hall,show(yN p !=0)=true from h9]; rfl)
 refine aC.same [1,140,141] (fun i:Nat=>[(142,.int i)]) (fun i=>i<=p.rules.length/\DU p=bH (((List.range p.rules.length).drop i).map (gK p))) (fun i=>p.rules.length-i) 0 rfl (by decide) rfl (fun _=>rfl) ⟨by omega,by simp[DU]⟩ ⟨⟨_,rfl,rfl⟩,trivial⟩ ?_;refine⟨rfl,?_⟩;rintro i ⟨hi,hr⟩;refine⟨fun h10=>?_,fun h10=>?_⟩
 ·have hi':i<p.rules.length:=by simpa using h10
  rw[LJ hi'] at hr;simp only[bH] at hr;refine ah.pure (S.jO p i hi' hp) rfl ?_;refine⟨fun h11=>?_,fun h11=>?_⟩
  ·conv=>whnf
   have ae8:gK p i≠0:=SQ h11;rw[if_neg ae8] at hr;exact ak.int (by rw[aX,h1,show vG p=false from h2,h3,show wE p=false from h4,h5,show SV p=false from h6,hall,show(yN p !=0)=false from h9,hr,h11]; rfl)
  ·conv=>whnf
   refine .mk (by simp only[okI] at *; omega) ?_;conv=>whnf
   have ae8:gK p i=0:=AA h11;rw[if_pos ae8] at hr;refine⟨i+1,⟨by omega,hr⟩,by omega,⟨⟨_,rfl,rfl⟩,trivial⟩,?_,rfl⟩;repeat' (first|exact trivial|exact⟨_,rfl,rfl⟩|constructor)
 have hi':p.rules.length<=i:=by simpa using h10
 rw[List.drop_eq_nil_of_le (by simpa using hi')] at hr;refine ah.pure (S.jl p hp) rfl ?_;refine ah.pure (S.bT (decide (((zC p.rules).length:Int)>3)) 4) rfl ?_;exact ak.int (by rw[aX,h1,show vG p=false from h2,h3,show wE p=false from h4,h5,show SV p=false from h6,hall,show(yN p !=0)=false from h9,hr]; rfl)
theorem ak.eqv{a b:V}{h:Hz}(e:a.aG=b.aG):ak a b h:=⟨by rw[e]; exact aI _⟩
def SY(acc:Bool)(r:Rule):Bool:=acc&&(r.kind==1)&&decide (r.fr<r.to)&&((r.ex.length:Int)==0)&&((r.all.length:Int)==0)
def Yq(acc:Bool)(r:Rule):Bool:=acc||decide ((r.all.length:Int)>0)
def o9(p:aH):Bool:=(p.topology==1)&&(p.fault==0)&&((p.messages.length:Int)==0)&&((p.bU.length:Int)==0)
structure Cls where
 Tt:Bool
 cover:Bool
 word:Bool
 tree:Bool
 monadic:Bool
def gW(p:aH):Cls :=
 ⟨(p.topology==1)&&((p.values.length:Int)==0)&&p.rules.foldl SY true,o9 p&& !(p.rules.foldl Yq false),(p.topology==2)||(p.topology==3),p.topology==4,o9 p&&decide ((p.states.length:Int)<=4)⟩
def agk(c:Cls):V:=.agg [.bool c.Tt,.bool c.cover,.bool c.word,.bool c.tree,.bool c.monadic]
def EM:Cls:=⟨false,false,false,false,false⟩
def H7(p:aH):V:=.dn [agk (bif aX p !=0 then EM else gW p),.int (aX p)]
theorem S.gX(p:aH)(hp:dG p):aj Tryz.prog 50 [.dat (.fK p)] (H7 p):=by
 have g1:=hp.states; have g2:=hp.messages; have g3:=hp.values; have g4:=hp.bU; have g7:=hp.rules;refine aj.of Bd.gX (by simp) rfl rfl ?_;refine ah.pure (S.fO p hp) rfl ?_;refine⟨fun h1=>?_,fun h1=>?_⟩
 ·conv=>whnf
  refine ak.eqv ?_;rw[H7,h1]; rfl
 have h1':aX p=0:=AA h1;refine aC.same [1,2,3,18,19] (fun i:Nat=>[(20,.int i),(5,.bool ((p.rules.take i).foldl SY true)),(6,.bool ((p.rules.take i).foldl Yq false))]) (fun i=>i<=p.rules.length) (fun i=>p.rules.length-i) 0 rfl (by decide) rfl (fun _=>rfl) (Nat.zero_le _) ⟨⟨_,rfl,rfl⟩,⟨_,rfl,rfl⟩,⟨_,rfl,rfl⟩,trivial⟩ ?_;refine⟨rfl,?_⟩;rintro i hi;have g8:=hp.rule i;have g9:=g8.ex; have g10:=g8.all;refine⟨fun h7=>?_,fun h7=>?_⟩
 ·have hi':i<p.rules.length:=by simpa using h7
  repeat(refine VC.mk (by first|exact id|exact fun h=>⟨h,h⟩|(intro h; rw[h]; rfl)|(simp only[okI,Rw.rng] at *; omega)) ?_)
  refine⟨i+1,by omega,by omega,⟨⟨_,rfl,rfl⟩,⟨_,rfl,?_⟩,⟨_,rfl,?_⟩,trivial⟩,?_,rfl⟩
  ·rw[Cb (d:=default) hi']; rfl
  ·rw[Cb (d:=default) hi']; rfl
  ·repeat' (first|exact trivial|exact⟨_,rfl,rfl⟩|constructor)
 have hi':p.rules.length<=i:=by simpa using h7
 rw[List.take_of_length_le hi'];repeat(refine VC.mk (by first|exact id|(intro h; rw[h]; rfl)) ?_)
 refine ak.eqv ?_;rw[H7,h1'];rfl
def lY(r:Rule)(t:Int):Bool :=
 bif !(r.kind==1)&&(decide ((r.guards.length:Int)>0)||decide ((r.ex.length:Int)>0)||decide ((r.all.length:Int)>0)||decide ((r.send.length:Int)>0)) then true else
 bif !(r.kind==1)&& !(r.kind==2)&& !(r.kind==3)&&(r.read != -1||r.write != -1) then true else
 bif !(r.kind==2)&& !(r.kind==5)&&(r.kG !=0||r.Di !=0) then true else
 bif (!(r.kind==3)&&decide ((r.response.length:Int)>0))||(!(r.kind==5)&&r.direction !=0) then true else
 bif !(r.kind==4)&&(r.pos !=0||decide ((r.left.length:Int)>0)||decide ((r.right.length:Int)>0)) then true else
 decide ((r.parent.length:Int)>0)&& !((r.kind==4)&&(t==4))
theorem gt0{n:Nat}:decide ((n:Int)>0)= !(n==0):=by
 cases n with
 |zero=>rfl
 |succ n=>rw[decide_eq_true (by omega)]; rfl
theorem ag5(a b c d e f g h:Nat):decide ((a:Int)+b+c+d+e+f+g+h>0)=(!(a==0)|| !(b==0)|| !(c==0)|| !(d==0)|| !(e==0)|| !(f==0)|| !(g==0)|| !(h==0)):=by
 rw[Bool.eq_iff_iff];simp only[decide_eq_true_eq,Bool.or_eq_true,Bool.not_eq_true',beq_eq_false_iff_ne,ne_eq];omega
theorem AB{r:Rule}{t:Int}(h:1<=r.kind/\r.kind<=5):lY r t=kM r t:=by
 have hk:r.kind=1\/r.kind=2\/r.kind=3\/r.kind=4\/r.kind=5:=by omega
 simp only[lY,kM,ED,gt0,ag5,bne];generalize (r.guards.length==0)=g1;generalize (r.ex.length==0)=g2;generalize (r.all.length==0)=g3;generalize (r.send.length==0)=g4;generalize (r.response.length==0)=g5;generalize (r.left.length==0)=g6;generalize (r.right.length==0)=g7;generalize (r.parent.length==0)=g8;generalize (r.read== -1)=g9;generalize (r.write== -1)=g10;generalize (r.kG==0)=g11;generalize (r.Di==0)=g12;generalize (r.direction==0)=g13;generalize (r.pos==0)=g14
 rcases hk with hk|hk|hk|hk|hk<;>rw[hk] <;>
  (first
   |(simp; done)
   |(cases (t==4)<;>simp<;>grind)
   |(simp; grind))
end Go.Proofs.YtdhobgbagphngaaGreatDoor
