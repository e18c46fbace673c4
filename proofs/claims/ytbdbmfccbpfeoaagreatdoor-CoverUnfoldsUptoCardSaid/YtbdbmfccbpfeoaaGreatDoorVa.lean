/-
 A part of the proof. No condition.
-/
import Derived.Test.YtbdbmfccbpfeoaaGreatDoorNb
import Derived.Test.YtbdbmfccbpfeoaaGreatDoorLg
namespace Go.Proofs.YtbdbmfccbpfeoaaGreatDoor
open Go.Ab Go.Proofs
set_option maxRecDepth 100000
def eF(b:Bool)(e:Int):Int:=bif b then e else 0
theorem S.bV(b:Bool)(e:Int):aj Tryz.prog 103 [.bool b,.int e] (.int (eF b e)):=by
 refine aj.of Bd.bV (by simp) rfl rfl ?_;refine⟨fun h=>?_,fun h=>?_⟩
 ·conv=>whnf
  exact ak.int (by rw[h]; rfl)
 ·conv=>whnf
  exact ak.int (by rw[h]; rfl)
def sO(i n:Int):Bool:=decide (i<0)||decide (i>=n)
def dn(i n:Int):Int:=eF (sO i n) 5
theorem S.cu(i n:Int):aj Tryz.prog 131 [.int i,.int n] (.int (dn i n)):=by
 refine aj.of Bd.cu (by simp) rfl rfl ?_;repeat(refine VC.mk (by first|exact fun h=>⟨h,h⟩|(intro h; rw[h]; rfl)) ?_)
 refine ah.pure (S.bV (sO i n) 5) rfl ?_;exact ak.int rfl
def bJ:List Int->Int
 |[]=>0
 |e::r=>if e=0 then bJ r else e
theorem S.bM(l:List Int)(f:Bool)(hl:l.length<2^40):aj Tryz.prog 102 [.row 0 f (.ints l)] (.int (bJ l)):=by
 refine aj.of Bd.bM (by simp) rfl rfl ?_;refine aF.same [5,6] (fun i:Nat=>[(7,.int i)]) (fun i=>i<=l.length/\bJ l=bJ (l.drop i)) (fun i=>l.length-i) 0 rfl (by decide) rfl (fun _=>rfl) ⟨by omega,by simp⟩ ⟨⟨_,rfl,rfl⟩,trivial⟩ ?_;refine⟨rfl,?_⟩;rintro i ⟨hi,hall⟩;refine⟨fun h3=>?_,fun h3=>?_⟩
 ·have hi':i<l.length:=by simpa using h3
  rw[dh 0 hi'] at hall;simp only[bJ] at hall;refine .mk (by simp only[Rw.rng] at *; omega) ?_;refine⟨fun h4=>?_,fun h4=>?_⟩
  ·conv=>whnf
   refine ak.int ?_
   have:l.getD i 0≠0:=by simpa using h4
   rw[hall,av this]; rfl
  ·conv=>whnf
   refine .mk (by simp only[okI] at *; omega) ?_;conv=>whnf
   have:l.getD i 0=0:=by simpa using h4
   rw[ba this] at hall;refine⟨i+1,⟨by omega,hall⟩,by omega,⟨⟨_,rfl,rfl⟩,trivial⟩,?_,rfl⟩;repeat' (first|exact trivial|exact⟨_,rfl,rfl⟩|constructor)
 ·conv=>whnf
  refine ak.int ?_;have hi':l.length<=i:=by simpa using h3
  rw[hall,cD hi']; rfl
def Ii:List Int->Bool
 |a::b::r=>decide (a<b)&&Ii (b::r)
 |_=>true
def jr(l:List Int)(n:Int):Int:=bif l.any (fun i=>sO i n) then 5 else bif Ii l then 0 else 1
theorem S.eX(l:List Int)(n:Int)(f:Bool)(hl:l.length<2^40):aj Tryz.prog 101 [.row 0 f (.ints l),.int n] (.int (jr l n)):=by
 refine aj.of Bd.eX (by simp) rfl rfl ?_;refine aF.same [0,1,8,9] (fun i:Nat=>[(10,.int i)]) (fun i=>i<=l.length/\(l.take i).any (fun i=>sO i n)=false) (fun i=>l.length-i) 0 rfl (by decide) rfl (fun _=>rfl) ⟨by omega,by simp⟩ ⟨⟨_,rfl,rfl⟩,trivial⟩ ?_;refine⟨rfl,?_⟩;rintro i ⟨hi,hall⟩;refine⟨fun h3=>?_,fun h3=>?_⟩
 ·have hi':i<l.length:=by simpa using h3
  repeat(refine VC.mk (by first|exact fun h=>⟨h,h⟩|(intro h; rw[h]; rfl)|(simp only[Rw.rng] at *; omega)) ?_)
  refine⟨fun h4=>?_,fun h4=>?_⟩
  ·conv=>whnf
   refine ak.int ?_;rw[jr,oJ (d:=0) hi' h4]; rfl
  ·conv=>whnf
   refine .mk (by simp only[okI] at *; omega) ?_;refine⟨i+1,⟨by omega,?_⟩,by omega,⟨⟨_,rfl,rfl⟩,trivial⟩,?_,rfl⟩
   ·rw[sS (d:=0) hi' hall]; exact h4
   ·repeat' (first|exact trivial|exact⟨_,rfl,rfl⟩|constructor)
 ·have hi':l.length<=i:=by simpa using h3
  rw[bk hi'] at hall;refine aF.same [0] (fun i:Nat=>[(7,.int (i+1))]) (fun i=>(i<l.length\/i=0)/\Ii l=Ii (l.drop i)) (fun i=>l.length-i) 0 rfl (by decide) rfl (fun _=>rfl) ⟨by omega,by simp⟩ ⟨⟨_,rfl,rfl⟩,trivial⟩ ?_;refine⟨rfl,?_⟩;rintro i ⟨hi,hinc⟩;refine⟨fun h5=>?_,fun h5=>?_⟩
  ·have hi1:i+1<l.length:=by have:=aq h5; omega
   rw[dh 0 (show i<l.length by omega),dh 0 hi1] at hinc;simp only[Ii] at hinc;rw[<- dh 0 hi1] at hinc;repeat(refine VC.mk (by simp only[okI,Rw.rng] at *; omega) ?_)
   refine⟨fun h6=>?_,fun h6=>?_⟩
   ·conv=>whnf
    refine ak.int ?_;have e1:((i:Int)+1).toNat=i+1:=by omega
    have e2:((i:Int)+1-1).toNat=i:=by omega
    rw[e1,e2] at h6;have h6':l.getD (i+1) 0<=l.getD i 0:=aq h6;rw[jr,hall,hinc,cH (by omega)]; rfl
   ·conv=>whnf
    refine .mk (by simp only[okI] at *; omega) ?_;conv=>whnf
    have e1:((i:Int)+1).toNat=i+1:=by omega
    have e2:((i:Int)+1-1).toNat=i:=by omega
    rw[e1,e2] at h6;have h6': ¬ l.getD (i+1) 0<=l.getD i 0:=aR h6;rw[cY (by omega),cj] at hinc;refine⟨i+1,⟨by omega,hinc⟩,by omega,⟨⟨_,rfl,rfl⟩,trivial⟩,?_,rfl⟩;repeat' (first|exact trivial|exact⟨_,rfl,rfl⟩|constructor)
  ·conv=>whnf
   refine ak.int ?_;have h5': ¬ ((i:Int)+1<l.length):=aR h5
   have:Ii l=true:=by
    rw[hinc];rcases hd:l.drop i with _|⟨a,_|⟨b,r⟩⟩
    ·rfl
    ·rfl
    ·have:=eK List.length hd;simp only[bv,bN] at this;omega
   rw[jr,hall,this]; rfl
def adO(n:Int):Bool:=decide (n>= -100)&&decide (n<=100)
theorem S.iM(n:Int):aj Tryz.prog 140 [.int n] (.bool (adO n)):=by
 refine aj.of Bd.iM (by simp) rfl rfl ?_;repeat(refine VC.mk id ?_)
 exact ak.bool rfl
def UU(l:Lin):Bool:=adO l.c&&adO l.n&&adO l.t&&adO l.f
theorem S.jH(l:Lin):aj Tryz.prog 114 [.dat (.lin l)] (.bool (UU l)):=by
 refine aj.of Bd.jH (by simp) rfl rfl ?_;refine ah.pure (S.iM l.c) rfl ?_;repeat(refine VC.mk id ?_)
 refine ah.eY (fun _=>S.iM l.n) rfl ?_;repeat(refine VC.mk id ?_)
 refine ah.eY (fun _=>S.iM l.t) rfl ?_;repeat(refine VC.mk id ?_)
 refine ah.eY (fun _=>S.iM l.f) rfl ?_;refine VC.mk id ?_;exact ak.bool rfl
def jJ(p:aB)(v:Int):Int:=eF (decide (v< -1)||decide (v>=p.values.length)) 5
theorem S.gI(p:aB)(v:Int):aj Tryz.prog 146 [.dat (.fM p),.int v] (.int (jJ p v)):=by
 refine aj.of Bd.gI (by simp) rfl rfl ?_;repeat(refine VC.mk (by first|exact id|exact fun h=>⟨h,h⟩|(intro h; rw[h]; rfl)) ?_)
 refine ah.pure (S.bV _ 5) rfl ?_;exact ak.int rfl
theorem U4{a:Int}(h:(a !=0)=true):a≠0:=by simpa using h
theorem EP{a:Int}(h:(a !=0)=false):a=0:=by simpa using h
def wQ(k t:Int):Bool:=bif k==1||k==2||k==3 then t==1 else bif k==4||k==5 then !(t==1) else false
theorem S.qQ(k t:Int):aj Tryz.prog 143 [.int k,.int t] (.bool (wQ k t)):=by
 refine aj.of Bd.qQ (by simp) rfl rfl ?_;refine⟨fun h1=>?_,fun h1=>?_⟩
 ·conv=>whnf
  refine Fork.mk (fun _=>?_) (fun q=>absurd (q.symm.trans (h1)) aM);exact ak.bool (by simp[wQ,h1])
 ·conv=>whnf
  refine⟨fun h2=>?_,fun h2=>?_⟩
  ·conv=>whnf
   refine Fork.mk (fun _=>?_) (fun q=>absurd (q.symm.trans (h2)) aM);exact ak.bool (by simp[wQ,h1,h2])
  ·conv=>whnf
   refine⟨fun h3=>?_,fun h3=>?_⟩
   ·conv=>whnf
    exact ak.bool (by simp[wQ,h1,h2,h3])
   ·conv=>whnf
    refine⟨fun h4=>?_,fun h4=>?_⟩
    ·conv=>whnf
     refine Fork.mk (fun _=>?_) (fun q=>absurd (q.symm.trans (h4)) aM);exact ak.bool (by simp[wQ,h1,h2,h3,h4,bne])
    ·conv=>whnf
     refine⟨fun h5=>?_,fun h5=>?_⟩
     ·conv=>whnf
      exact ak.bool (by simp[wQ,h1,h2,h3,h4,h5,bne])
     ·conv=>whnf
      exact ak.bool (by simp[wQ,h1,h2,h3,h4,h5])
def qV:List Int->Int->Int
 |[],_=>0
 |x::r,n=>if dn x n=0 then qV r n else dn x n
def Gq(l:List Int)(n:Int):Int:=bif (l.length:Int) !=n then 1 else qV l n
theorem S.ku(l:List Int)(n:Int)(f:Bool)(hl:l.length<2^40):aj Tryz.prog 147 [.row 0 f (.ints l),.int n] (.int (Gq l n)):=by
 refine aj.of Bd.ku (by simp) rfl rfl ?_;refine⟨fun h=>?_,fun h=>?_⟩
 ·conv=>whnf
  exact ak.int (by rw[Gq,h]; rfl)
 ·conv=>whnf
  refine aF.same [0,1,12,13] (fun i:Nat=>[(14,.int i)]) (fun i=>i<=l.length/\qV l n=qV (l.drop i) n) (fun i=>l.length-i) 0 rfl (by decide) rfl (fun _=>rfl) ⟨by omega,by simp⟩ ⟨⟨_,rfl,rfl⟩,trivial⟩ ?_;refine⟨rfl,?_⟩;rintro i ⟨hi,hall⟩;refine⟨fun h3=>?_,fun h3=>?_⟩
  ·have hi':i<l.length:=by simpa using h3
   rw[dh 0 hi'] at hall;simp only[qV] at hall;refine .mk (by simp only[Rw.rng] at *; omega) ?_;refine ah.pure (S.cu (l.getD i 0) n) rfl ?_;refine⟨fun h4=>?_,fun h4=>?_⟩
   ·conv=>whnf
    refine ak.int ?_
    have:dn (l.getD i 0) n≠0:=by simpa using h4
    rw[Gq,h,bB,hall,av this]
   ·conv=>whnf
    refine .mk (by simp only[okI] at *; omega) ?_;conv=>whnf
    have:dn (l.getD i 0) n=0:=by simpa using h4
    rw[ba this] at hall;refine⟨i+1,⟨by omega,hall⟩,by omega,⟨⟨_,rfl,rfl⟩,trivial⟩,?_,rfl⟩;repeat' (first|exact trivial|exact⟨_,rfl,rfl⟩|constructor)
  ·conv=>whnf
   refine ak.int ?_;have hi':l.length<=i:=by simpa using h3
   rw[Gq,h,bB,hall,cD hi']; rfl
def guardE(p:aB)(g:BA):Int:=bJ [dn g.message p.messages.length,eF (decide (g.Hg<1)||decide (g.Hg>100)) 1,eF (!(UU g.bound)) 4]
def jo(p:aB):List BA->Int
 |[]=>0
 |g::r=>if guardE p g=0 then jo p r else guardE p g
def vI(p:aB)(l:List BA):Int:=if jo p l=0 then eF (decide ((l.length:Int)>2)) 4 else jo p l
theorem S.nI(p:aB)(l:List BA)(f:Bool)(hl:l.length<2^40):aj Tryz.prog 145 [.dat (.fM p),.row 7 f (.rC l)] (.int (vI p l)):=by
 refine aj.of Bd.nI (by simp) rfl rfl ?_;refine aF.same [1,2,8,9] (fun i:Nat=>[(10,.int i)]) (fun i=>i<=l.length/\jo p l=jo p (l.drop i)) (fun i=>l.length-i) 0 rfl (by decide) rfl (fun _=>rfl) ⟨by omega,by simp⟩ ⟨⟨_,rfl,rfl⟩,trivial⟩ ?_;refine⟨rfl,?_⟩;rintro i ⟨hi,hall⟩;refine⟨fun h3=>?_,fun h3=>?_⟩
 ·have hi':i<l.length:=by simpa using h3
  rw[dh default hi'] at hall;simp only[jo] at hall;refine .mk (by simp only[Rw.rng] at *; omega) ?_;refine ah.pure (S.cu (l.getD i default).message p.messages.length) rfl ?_;repeat(refine VC.mk (by first|exact id|(intro h; rw[h]; rfl)) ?_)
  refine ah.pure (S.bV (decide ((l.getD i default).Hg<1)||decide ((l.getD i default).Hg>100)) 1) rfl ?_;refine ah.pure (S.jH (l.getD i default).bound) rfl ?_;refine ah.pure (S.bV (!(UU (l.getD i default).bound)) 4) rfl ?_;refine ah.pure (S.bM [dn (l.getD i default).message p.messages.length,eF (decide ((l.getD i default).Hg<1)||decide ((l.getD i default).Hg>100)) 1,eF (!(UU (l.getD i default).bound)) 4] true (show 3<2^40 by decide)) rfl ?_;refine⟨fun h4=>?_,fun h4=>?_⟩
  ·conv=>whnf
   refine ak.int ?_;have h4':guardE p (l.getD i default)≠0:=U4 h4;rw[av h4'] at hall;rw[vI,hall,av h4']; rfl
  ·conv=>whnf
   refine .mk (by simp only[okI] at *; omega) ?_;conv=>whnf
   have h4':guardE p (l.getD i default)=0:=EP h4;rw[ba h4'] at hall;refine⟨i+1,⟨by omega,hall⟩,by omega,⟨⟨_,rfl,rfl⟩,trivial⟩,?_,rfl⟩;repeat' (first|exact trivial|exact⟨_,rfl,rfl⟩|constructor)
 ·have hi':l.length<=i:=by simpa using h3
  rw[cD hi'] at hall;refine ah.pure (S.bV (decide ((l.length:Int)>2)) 4) rfl ?_;exact ak.int (by rw[vI,hall]; rfl)
structure sN(r:Rule):Prop where
 response:r.response.length<2^30
 guards:r.guards.length<2^30
 ex:r.ex.length<2^30
 all:r.all.length<2^30
 send:r.send.length<2^30
 left:r.left.length<2^30
 right:r.right.length<2^30
 parent:r.parent.length<2^30
def Gm(r:Rule):Bool :=
 decide ((r.response.length:Int)+r.guards.length+r.ex.length+r.all.length+r.send.length+r.left.length+r.right.length+r.parent.length>0)||r.dZ !=0||r.y7 !=0||r.pos !=0||r.direction !=0||r.read != -1||r.write != -1
def kS(r:Rule)(t:Int):Bool :=
 bif r.kind==1 then Gm {r with guards:=[],ex:=[],all:=[],send:=[],read:= -1,write:= -1} else
 bif r.kind==2 then(bif decide ((r.response.length:Int)>0) then true else Gm {r with dZ:=0,y7:=0,response:=[],read:= -1,write:= -1}) else
 bif r.kind==3 then Gm {r with response:=[],read:= -1,write:= -1} else
 bif r.kind==4 then(bif t==4 then Gm {r with pos:=0,left:=[],right:=[],parent:=[]} else Gm {r with pos:=0,left:=[],right:=[]}) else
 bif r.kind==5 then Gm {r with dZ:=0,y7:=0,direction:=0} else Gm r
theorem S.lZ(r:Rule)(t:Int)(hs:sN r):aj Tryz.prog 144 [.dat (.rule r),.int t] (.bool (kS r t)):=by
 obtain⟨g1,g2,g3,g4,g5,g6,g7,g8⟩:=hs;refine aj.of Bd.lZ (by simp) rfl rfl ?_;refine⟨fun h1=>?_,fun h1=>?_⟩
 ·conv=>whnf
  repeat(refine VC.mk (by first|exact id|(intro h; rw[h]; rfl)|(simp only[okI] at *; omega)) ?_)
  exact ak.bool (by simp[kS,Gm,h1])
 ·conv=>whnf
  refine⟨fun h2=>?_,fun h2=>?_⟩
  ·conv=>whnf
   refine⟨fun h6=>?_,fun h6=>?_⟩
   ·conv=>whnf
    exact ak.bool (by rw[kS,h1,h2,show decide ((r.response.length:Int)>0)=true from h6]; rfl)
   ·conv=>whnf
    repeat(refine VC.mk (by first|exact id|(intro h; rw[h]; rfl)|(simp only[okI] at *; omega)) ?_)
    exact ak.bool (by rw[kS,h1,h2,show decide ((r.response.length:Int)>0)=false from h6]; simp[Gm])
  ·conv=>whnf
   refine⟨fun h3=>?_,fun h3=>?_⟩
   ·conv=>whnf
    repeat(refine VC.mk (by first|exact id|(intro h; rw[h]; rfl)|(simp only[okI] at *; omega)) ?_)
    exact ak.bool (by simp[kS,Gm,h1,h2,h3])
   ·conv=>whnf
    refine⟨fun h4=>?_,fun h4=>?_⟩
    ·conv=>whnf
     refine⟨fun h7=>?_,fun h7=>?_⟩
     ·conv=>whnf
      repeat(refine VC.mk (by first|exact id|(intro h; rw[h]; rfl)|(simp only[okI] at *; omega)) ?_)
      exact ak.bool (by simp[kS,Gm,h1,h2,h3,h4,h7])
     ·conv=>whnf
      repeat(refine VC.mk (by first|exact id|(intro h; rw[h]; rfl)|(simp only[okI] at *; omega)) ?_)
      exact ak.bool (by simp[kS,Gm,h1,h2,h3,h4,h7])
    ·conv=>whnf
     refine⟨fun h5=>?_,fun h5=>?_⟩
     ·conv=>whnf
      repeat(refine VC.mk (by first|exact id|(intro h; rw[h]; rfl)|(simp only[okI] at *; omega)) ?_)
      exact ak.bool (by simp[kS,Gm,h1,h2,h3,h4,h5])
     ·conv=>whnf
      repeat(refine VC.mk (by first|exact id|(intro h; rw[h]; rfl)|(simp only[okI] at *; omega)) ?_)
      exact ak.bool (by simp[kS,Gm,h1,h2,h3,h4,h5])
def adP(h:Hz):Hz->Prop
 |[]=>True
 |(i,o)::r=>h.get i=o/\adP h r
theorem aaI{h:Hz}: ∀ {h0:Hz},adP h h0-> ∀ {i:Nat} {o:OV},h0.get i=some o->h.get i=some o:=by
 intro h0;induction h0 with
 |nil=>intro _ i o e; cases e
 |cons p r ih =>
  obtain⟨j,u⟩:=p;intro hs i o e;simp only[Hz.get] at e;cases hb:Nat.beq j i with
  |true=>rw[hb] at e; simp only[bS] at e; rw[<- dm hb,hs.1,e]
  |false=>rw[hb] at e; exact ih hs.2 e
def aaJ:Hz->Bool
 |[]=>true
 |(_,some o)::r=>o.Ce&&aaJ r
 |(_,none)::r=>aaJ r
theorem Va: ∀ {h0:Hz},aaJ h0=true-> ∀ {i:Nat} {o:OV},h0.get i=some o->o.Ce=true:=by
 intro h0;induction h0 with
 |nil=>intro _ i o e; cases e
 |cons p r ih =>
  obtain⟨j,u⟩:=p;intro hs i o e;simp only[Hz.get] at e;cases hb:Nat.beq j i with
  |true =>
   rw[hb] at e; simp only[bS] at e; subst e;simp only[aaJ,aD] at hs; exact hs.1
  |false =>
   rw[hb] at e;refine ih ?_ e;cases u with
   |none=>exact hs
   |some o=>simp only[aaJ,aD] at hs; exact hs.2
theorem OV.Vb{o:OV}(h:o.Ce=true):T.aN (fun _=>False) o.ay.l:=OV.wW h
theorem gG.same{nx:Nat}{h0 h:Hz}{n:Nat}{post:T->Hp->Prop}{v:V}(hf:v.free=true)(hs:adP h h0)(hg:Ar nx h0=true)(hfr:aaJ h0=true)(hp:post v.aI h0.au):gG h0 n post v h:=by
 have hG:=Au hg;have get: ∀ i ob,h0.au i=some ob-> ∃ o,h0.get i=some o/\ob=o.ay:=fun i ob e=>by
  simp only[Hz.au,bX] at e;obtain⟨o,e1,e2⟩:=e;exact⟨o,e1,e2.symm⟩
 have hfree:=V.iZ v hf;refine⟨fun _=>False,id,v.aI,h0.au,hp,?_,fun i ob hi=>?_,fun i j _ _ e=>e,T.aT (fun _ h=>h.elim) _ (dP hfree),fun i ob hi=>?_,fun i _ _=>rfl⟩
 ·rw[Ws]; exact aG _
 ·obtain⟨o,e1,rfl⟩:=get i ob hi;refine⟨o.ay,aP (aaI hs e1),fun h=>h,rfl,rfl,?_,yN (hG i _ hi).2.2⟩;rw[wV _ (OV.Vb (Va hfr e1))]; exact dL _
 ·obtain⟨o,e1,rfl⟩:=get i ob hi;exact⟨.inl (by rw[hi]; rfl),T.aA (fun _ h=>h.elim) _ (OV.Vb (Va hfr e1))⟩
abbrev hRP(p:aB)(r:Rule):Hz:=[(7,some (.box 59 19 (.dat (.rule r)))),(0,some (.box 27 11 (.dat (.fM p))))]
theorem S.Rz(p:aB)(r x:Rule)(n:Nat):aO Tryz.prog 142 (V.aQ [.dat (.rule x),.ptr 7 0 0]) (hRP p r).au n (fun t hp=>t= .bool (x.name==r.name)/\hp=(hRP p r).au):=by
 refine og.of (nx:=8) Bd.nZ (by simp) ⟨_,_,rfl,rfl⟩ rfl rfl ?_;exact gG.same (nx:=8) rfl ⟨rfl,rfl,trivial⟩ rfl rfl ⟨rfl,rfl⟩
def Ir(s:Str):List Rule->Nat->Int
 |[],_=> -1
 |x::r,i=>bif x.name==s then(i:Int) else Ir s r (i+1)
theorem S.aaK(p:aB)(r:Rule)(l:List Rule)(f:Bool)(hl:l.length<2^30)(n:Nat):aO Tryz.prog 161 (V.aQ [.row 19 f (.rules l),.fn 142 [.ptr 7 0 0]]) (hRP p r).au n (fun t hp=>t= .int (Ir r.name l 0)/\hp=(hRP p r).au):=by
 refine og.of (nx:=8) Bd.gJ (by simp) ⟨_,_,rfl,rfl⟩ rfl rfl ?_;refine aF.same [0,1,6,7] (fun i:Nat=>[(8,.int i)]) (fun i=>i<=l.length/\Ir r.name l 0=Ir r.name (l.drop i) i) (fun i=>l.length-i) 0 rfl (by decide) rfl (fun _=>rfl) ⟨by omega,by simp⟩ ⟨⟨_,rfl,rfl⟩,trivial⟩ ?_;refine⟨rfl,?_⟩;rintro i ⟨hi,hall⟩;refine⟨fun h3=>?_,fun h3=>?_⟩
 ·have hi':i<l.length:=by simpa using h3
  rw[dh default hi'] at hall;simp only[Ir] at hall;refine .mk (by simp only[Rw.rng] at *; omega) ?_;refine ah.heap (S.Rz p r (l.getD i default) _) ?_;rintro t hp ⟨rfl,rfl⟩;refine⟨.bool _,hRP p r,rfl,rfl,?_⟩;refine⟨fun h4=>?_,fun h4=>?_⟩
  ·conv=>whnf
   rw[h4] at hall;exact gG.same (nx:=8) rfl ⟨rfl,rfl,trivial⟩ rfl rfl ⟨by rw[hall]; rfl,rfl⟩
  ·conv=>whnf
   refine .mk (by simp only[okI] at *; omega) ?_;conv=>whnf
   rw[h4] at hall;refine⟨i+1,⟨by omega,hall⟩,by omega,⟨⟨_,rfl,rfl⟩,trivial⟩,?_,rfl⟩;repeat' (first|exact trivial|exact⟨_,rfl,rfl⟩|constructor)
 ·conv=>whnf
  have hi':l.length<=i:=by simpa using h3
  rw[cD hi'] at hall;exact gG.same (nx:=8) rfl ⟨rfl,rfl,trivial⟩ rfl rfl ⟨by rw[hall]; rfl,rfl⟩
theorem adQ{s:Str}{l:List Rule}{i:Nat}:decide (0<=Ir s l i)=l.any fun x=>x.name==s:=by
 have: ∀ {l:List Rule} {i:Nat},0<=Ir s l i↔(l.any fun x=>x.name==s)=true:=by
  intro l;induction l with
  |nil=>intro i; simp[Ir]
  |cons x r ih =>
   intro i;rw[ez,cS,<- ih (i:=i+1)];show(0:Int)<=(bif x.name==s then(i:Int) else Ir s r (i+1))↔_;generalize (x.name==s)=b;cases b<;>simp
 rw[cF,ab]; exact this
theorem S.RD(p:aB)(r:Rule)(l:List Rule)(f:Bool)(hl:l.length<2^30)(n:Nat):aO Tryz.prog 141 (V.aQ [.row 19 f (.rules l),.fn 142 [.ptr 7 0 0]]) (hRP p r).au n (fun t hp=>t= .bool (l.any fun x=>x.name==r.name)/\hp=(hRP p r).au):=by
 refine og.of (nx:=8) Bd.fK (by simp) ⟨_,_,rfl,rfl⟩ rfl rfl ?_;refine ah.heap (S.aaK p r l f hl _) ?_;rintro t hp ⟨rfl,rfl⟩;refine⟨.int _,hRP p r,rfl,rfl,?_⟩;exact gG.same (nx:=8) rfl ⟨rfl,rfl,trivial⟩ rfl rfl ⟨by rw[<- adQ (i:=0)]; rfl,rfl⟩
theorem ah.mkRow{P:Program}{f:FuncId}{args:List V}{h:Hz}{n ty k:Nat}{r:Rw}{K:V->Hz->Prop}{KW:Nat->V->Hz->Prop}(H:zL P f (V.aQ args) (fun n=>.own n) (some ⟨ty,k,r.aQ⟩))(hK:K (.own n) ((n,some (.row ty k r []))::h)):ah P false none f args h n K KW :=
 ah.heap (zL.frame H _ _) (by rintro t hp ⟨rfl,rfl⟩; exact⟨.own n,_,rfl,by rw[bK]; simp[iL,OV.ay,V.aQ],hK⟩)
theorem S.Concat(a b c:List Str)(n:Nat)(h0:0<a.length)(ha:a.length<2^20)(hb:b.length<2^20)(hc:c.length<2^20) :
  aO Tryz.prog 138 (V.aQ [.Cj 0 false [.row 0 false (.strs a),.row 0 false (.strs b),.row 0 false (.strs c)]]) no n (fun t hp=>t= .own n/\hp=Hz.au [(n,some (.row 9 0 (.strs (a++b++c)) []))]):=by
 refine og.of (nx:=0) (h0:=[]) Bd.jy (by simp) ⟨_,_,rfl,rfl⟩ rfl rfl ?_;refine aF.times 4 rfl ?_;refine Fork.mk (fun _=>?_) (fun q=>absurd (q.symm.trans (rfl)) aM);repeat(refine VC.mk (by first|(omega)|(simp only[okI] at *; omega)) ?_)
 refine Fork.mk (fun q=>absurd (q.symm.trans (cH (by omega))).symm aM) (fun _=>?_);refine .mk (by simp only[okI] at *; omega) ?_;refine Fork.mk (fun _=>?_) (fun q=>absurd (q.symm.trans (rfl)) aM);repeat(refine VC.mk (by first|(omega)|(simp only[okI] at *; omega)) ?_)
 refine Fork.mk (fun q=>absurd (q.symm.trans (cH (by omega))).symm aM) (fun _=>?_);refine .mk (by simp only[okI] at *; omega) ?_;refine Fork.mk (fun _=>?_) (fun q=>absurd (q.symm.trans (rfl)) aM);repeat(refine VC.mk (by first|(omega)|(simp only[okI] at *; omega)) ?_)
 refine Fork.mk (fun q=>absurd (q.symm.trans (cH (by omega))).symm aM) (fun _=>?_);refine .mk (by simp only[okI] at *; omega) ?_;refine Fork.mk (fun q=>absurd (q.symm.trans (rfl)).symm aM) (fun _=>?_);conv=>whnf
 have e:(0+(a.length:Int)+b.length+c.length)=((a.length+b.length+c.length:Nat):Int):=by omega
 rw[e];refine ah.mkRow (r:=.strs []) (S.Grow (a.length+b.length+c.length) (by omega) (by omega)) ?_;refine aF.times 4 rfl ?_;refine Fork.mk (fun _=>?_) (fun q=>absurd (q.symm.trans (rfl)) aM);repeat(refine VC.mk (by first|(omega)|(simp only[mD,mV,Rw.len,bw]; omega)|(simp only[okI] at *; omega)) ?_)
 refine Fork.mk (fun _=>?_) (fun q=>absurd (q.symm.trans (rfl)) aM);repeat(refine VC.mk (by first|(omega)|(simp only[mD,mV,Rw.len,aL,bw]; omega)|(simp only[okI] at *; omega)) ?_)
 refine Fork.mk (fun _=>?_) (fun q=>absurd (q.symm.trans (rfl)) aM);repeat(refine VC.mk (by first|(omega)|(simp only[mD,mV,Rw.len,aL,bw]; omega)|(simp only[okI] at *; omega)) ?_)
 refine Fork.mk (fun q=>absurd (q.symm.trans (rfl)).symm aM) (fun _=>?_);refine gG.one (c:=n) (o:=.row 9 0 (.strs (a++b++c)) []) (t:=.own n) rfl rfl rfl nofun (.inr rfl) rfl (.eq rfl) ⟨rfl,rfl⟩
theorem S.afX(a b c:List Str)(h0:0<a.length)(ha:a.length<2^20)(hb:b.length<2^20)(hc:c.length<2^20) :
  zL Tryz.prog 138 (V.aQ [.Cj 0 false [.row 0 false (.strs a),.row 0 false (.strs b),.row 0 false (.strs c)]]) (fun n=>.own n) (some ⟨9,0,(Rw.strs (a++b++c)).aQ⟩):=by
 refine⟨rfl,fun _=>rfl,(fun ob h=>by cases h; rw[ig]; intro t ht; obtain⟨x,_,rfl⟩:=bA.1 ht; rfl),(fun ob h=>by cases h; exact fun e=>absurd e (by decide:(0:Nat)≠iE)),fun n=>(S.Concat a b c n h0 ha hb hc).mono ?_⟩;rintro t hp ⟨rfl,rfl⟩;refine⟨rfl,?_⟩;rw[bK]; simp[iL,OV.ay,V.aQ]; rfl
theorem ah.afY{P:Program}{f:FuncId}{args:List V}{ts:List T}{h:Hz}{n ty k:Nat}{r:Rw}{K:V->Hz->Prop}{KW:Nat->V->Hz->Prop}(H:zL P f ts (fun n=>.own n) (some ⟨ty,k,r.aQ⟩))(hs:T.dG (fun _=>True) h.au ts (V.aQ args))(hh:T.yM r.aQ=true)(hK:K (.own n) ((n,some (.row ty k r []))::h)):ah P false none f args h n K KW :=
 ⟨.inl (zL.lend H hs rfl (fun _ e=>by cases e; exact hh) ⟨.own n,_,rfl,by rw[bK]; simp[iL,OV.ay,V.aQ],(fun e=>by cases e),hK⟩)⟩
theorem ai1{h:Hz}{j ty:Nat}{Z:Nat->Prop}{l:List V}(hz:Z j)(q:h.get j=some (.row ty 0 .nil l))(hf:V.bG l=true):T.sub Z h.au (V.Cj 0 false l).aI (V.own j).aI:=by
 show T.sub Z h.au (.sl 0 false (V.aQ l)) (.own j);simp only[T.sub];exact⟨trivial,hz,V.fE l hf,by decide,ty,by rw[aP q]; rfl⟩
theorem aaL{l:List Str}:T.yM (Rw.strs l).aQ=true:=by
 show T.yM (l.map eS)=true;induction l with
 |nil=>rfl
 |cons s r ih=>simp only[bp,T.yM,ih]; rfl
theorem ai2{h:Hz}{j i ty:Nat}{Z:Nat->Prop}{l:List Str}(hz:Z j)(q:h.get j=some (.row ty 0 (.strs l) []))(hi:i<=l.length):T.sub Z h.au (V.row 0 false (.strs (l.take i))).aI (V.oG j 0 i).aI:=by
 show T.sub Z h.au (.sl 0 false ((l.take i).map eS)) (.oG j 0 i);simp only[T.sub];refine⟨trivial,hz,?_,by decide,ty,l.map eS,?_,by simpa using hi,by simp[List.map_take]⟩
 ·rw[ig]; intro t ht; obtain⟨x,_,rfl⟩:=bA.1 ht; rfl
 ·rw[aP q]; simp[OV.ay,Rw.aQ,V.aQ]
def allNames(p:aB):List Str:=p.states++p.messages++p.values
def Rt(l:List Str)(i:Nat):Bool:= !(validName (l.getD i []))||(l.take i).any fun x=>l.getD i []==x
def BP(p:aB):Int:=bif (List.range (allNames p).length).any (Rt (allNames p)) then 2 else 0
theorem xg{n:Nat}{f:Nat->Bool}:(List.range n).any f=true↔ ∃ i,i<n/\f i=true:=by
 simp[List.any_eq_true]
theorem S.pF(p:aB)(h0:0<p.states.length)(h1:p.states.length<2^20)(h2:p.messages.length<2^20)(h3:p.values.length<2^20):aj Tryz.prog 113 [.dat (.fM p)] (.int (BP p)):=by
 have hlen:(allNames p).length<2^30:=by simp only[allNames,aL]; omega
 refine aj.of Bd.pF (by simp) rfl rfl ?_;refine ah.afY (r:=.strs (allNames p)) (S.afX p.states p.messages p.values h0 h1 h2 h3) (And.intro (ai1 (ty:=22) trivial rfl rfl) trivial) aaL ?_;refine aF.same [3,14,15] (fun i:Nat=>[(16,.int i)]) (fun i=>i<=(allNames p).length/\(List.range i).any (Rt (allNames p))=false) (fun i=>(allNames p).length-i) 0 rfl (by decide) rfl (fun _=>rfl) ⟨ap _,rfl⟩ ⟨⟨_,rfl,rfl⟩,trivial⟩ ?_;refine⟨rfl,?_⟩;rintro i ⟨hi,hall⟩;refine⟨fun h4=>?_,fun h4=>?_⟩
 ·have hi':i<(allNames p).length:=by simpa using h4
  repeat(refine VC.mk (by simp only[Rw.rng] at *; omega) ?_)
  refine ah.pure (S.gW ((allNames p).getD i [])) rfl ?_;repeat(refine VC.mk (by first|exact fun h=>⟨h,h⟩|(intro h; (repeat' apply And.intro)<;>first|exact h|omega|(simp only[Rw.sH]; omega)|(simp only[Rw.rng]; omega))) ?_)
  refine ah.aa2 (fun _=>S.slices_Contains_string ((allNames p).take i) ((allNames p).getD i []) false (by rw[bL]; omega)) (fun _=>And.intro (ai2 (ty:=9) trivial rfl (by omega)) (And.intro (aG _) trivial)) rfl rfl ?_;refine .mk (by intro h; rw[h]; rfl) ?_;refine⟨fun h5=>?_,fun h5=>?_⟩
  ·conv=>whnf
   refine ak.int ?_;rw[BP,xg.2 ⟨i,hi',h5⟩]; rfl
  ·conv=>whnf
   refine .mk (by simp only[okI] at *; omega) ?_;refine⟨i+1,⟨by omega,?_⟩,by omega,⟨⟨_,rfl,rfl⟩,trivial⟩,?_,rfl⟩
   ·rw[ce,dz,hall];simp only[ez,List.any_nil,fk,cv]; exact h5
   ·repeat' (first|exact trivial|exact⟨_,rfl,rfl⟩|constructor)
 ·have hi':(allNames p).length<=i:=by simpa using h4
  have e:i=(allNames p).length:=fc hi hi';subst e;exact ak.int (by rw[BP,hall]; rfl)
theorem ah.pY{P:Program}{f:FuncId}{args:List V}{h:Hz}{hp0:Hp}{n:Nat}{K:V->Hz->Prop}{KW:Nat->V->Hz->Prop}{post:T->Hp->Prop}(S:aO P f (V.aQ args) hp0 n post)(e:h.au=hp0)(hK: ∀ t hp,post t hp-> ∃ v h',t=v.aI/\hp=Hz.au h'/\K v h'):ah P false none f args h n K KW:=by
 subst e; exact ah.heap S hK
theorem Vd{i:Nat}{a b:Option OV}{r:Hz}:Hz.au ((i,a)::(i,b)::r)=Hz.au ((i,a)::r):=funext fun j=>by
 simp only[Hz.au,Hz.get]; cases Nat.beq i j<;>rfl
structure dJ(p:aB):Prop where
 states:p.states.length<2^20
 messages:p.messages.length<2^20
 values:p.values.length<2^20
 bY:p.bY.length<2^30
 initial:p.initial.length<2^30
 leader:p.leader.length<2^30
 rules:p.rules.length<2^30
 rule: ∀ i,sN (p.rules.getD i default)
 rC:(p.rules.flatMap Rule.guards).length<2^30
def uD(p:aB)(i:Nat):Bool:= !(validName (p.rules.getD i default).name)||(p.rules.take i).any fun x=>x.name==(p.rules.getD i default).name
def qR(p:aB)(i:Nat):Bool:= !(wQ (p.rules.getD i default).kind p.topology)||kS (p.rules.getD i default) p.topology
def y5(p:aB)(r:Rule):Int:=bJ [dn r.fr p.states.length,dn r.to p.states.length]
def adE(p:aB)(r:Rule):Bool:=decide (r.pos<0)||decide (r.pos>2)||(r.pos !=0&&p.topology==3)
def gQ(p:aB)(i:Nat):Int :=
 let r:=p.rules.getD i default
 let n:Int:=p.states.length
 bif uD p i then 2 else bif qR p i then 6 else bif y5 p r !=0 then y5 p r else
 bif r.kind==1 then bJ [vI p r.guards,jr r.ex n,jr r.all n,jJ p r.read,jJ p r.write,jr r.send p.messages.length] else
 bif r.kind==2 then bJ [dn r.dZ n,dn r.y7 n,jJ p r.read,jJ p r.write] else
 bif r.kind==3 then bJ [Gq r.response n,jJ p r.read,jJ p r.write] else
 bif r.kind==4 then bJ [jr r.left n,jr r.right n,jr r.parent n,eF (adE p r) 1] else
 bif p.topology==4 then bJ [dn r.dZ n,dn r.y7 n,eF (decide (r.direction<3)||decide (r.direction>4)) 1]
 else bJ [dn r.dZ n,dn r.y7 n,eF (decide (r.direction<1)||decide (r.direction>2)) 1]
theorem S.jZ(p:aB)(i:Nat)(hi:i<p.rules.length)(hp:dJ p):aj Tryz.prog 115 [.dat (.fM p),.int i] (.int (gQ p i)):=by
 have hr:=hp.rule i;have hp1:=hp.rules;have hp2:=hp.states;have hp3:=hp.messages;refine aj.of Bd.jZ (by simp) rfl rfl ?_;repeat(refine VC.mk (by first|(simp only[Rw.sH]; omega)|(simp only[Rw.rng] at *; omega)) ?_)
 refine ah.pY (S.RD p (p.rules.getD i default) (p.rules.take i) false (by rw[bL]; omega) _) Vd ?_;rintro t hp' ⟨rfl,rfl⟩;refine⟨.bool _,hRP p (p.rules.getD i default),rfl,rfl,?_⟩;refine ah.pure (S.gW (p.rules.getD i default).name) rfl ?_;refine .mk (by intro h; rw[h]; rfl) ?_;refine⟨fun h1=>?_,fun h1=>?_⟩
 ·conv=>whnf
  exact ak.int (by rw[gQ,show uD p i=true from h1]; rfl)
 ·conv=>whnf
  refine ah.pure (S.qQ (p.rules.getD i default).kind p.topology) rfl ?_;repeat(refine VC.mk (by first|exact id|exact fun h=>⟨h,h⟩) ?_)
  refine ah.eY (fun _=>S.lZ (p.rules.getD i default) p.topology hr) rfl ?_;refine .mk (by intro h; rw[h]; rfl) ?_;refine⟨fun h2=>?_,fun h2=>?_⟩
  ·conv=>whnf
   exact ak.int (by rw[gQ,show uD p i=false from h1,show qR p i=true from h2]; rfl)
  ·conv=>whnf
   refine ah.pure (S.cu (p.rules.getD i default).fr p.states.length) rfl ?_;refine ah.pure (S.cu (p.rules.getD i default).to p.states.length) rfl ?_;refine ah.pure (S.bM [dn (p.rules.getD i default).fr p.states.length,dn (p.rules.getD i default).to p.states.length] true (show 2<2^40 by decide)) rfl ?_;refine⟨fun h3=>?_,fun h3=>?_⟩
   ·conv=>whnf
    exact ak.int (by rw[gQ,show uD p i=false from h1,show qR p i=false from h2,show(y5 p (p.rules.getD i default) !=0)=true from h3]; rfl)
   ·conv=>whnf
    refine⟨fun h4=>?_,fun h4=>?_⟩
    ·conv=>whnf
     refine ah.pure (S.nI p (p.rules.getD i default).guards false (by have:=hr.guards; omega)) rfl ?_;refine ah.pure (S.eX (p.rules.getD i default).ex p.states.length false (by have:=hr.ex; omega)) rfl ?_;refine ah.pure (S.eX (p.rules.getD i default).all p.states.length false (by have:=hr.all; omega)) rfl ?_;refine ah.pure (S.gI p (p.rules.getD i default).read) rfl ?_;refine ah.pure (S.gI p (p.rules.getD i default).write) rfl ?_;refine ah.pure (S.eX (p.rules.getD i default).send p.messages.length false (by have:=hr.send; omega)) rfl ?_;refine ah.pure (S.bM [vI p (p.rules.getD i default).guards,jr (p.rules.getD i default).ex p.states.length,jr (p.rules.getD i default).all p.states.length,jJ p (p.rules.getD i default).read,jJ p (p.rules.getD i default).write,jr (p.rules.getD i default).send p.messages.length] true (show 6<2^40 by decide)) rfl ?_;exact ak.int (by rw[gQ,show uD p i=false from h1,show qR p i=false from h2,show(y5 p (p.rules.getD i default) !=0)=false from h3,h4]; rfl)
    ·conv=>whnf
     refine⟨fun h5=>?_,fun h5=>?_⟩
     ·conv=>whnf
      refine ah.pure (S.cu (p.rules.getD i default).dZ p.states.length) rfl ?_;refine ah.pure (S.cu (p.rules.getD i default).y7 p.states.length) rfl ?_;refine ah.pure (S.gI p (p.rules.getD i default).read) rfl ?_;refine ah.pure (S.gI p (p.rules.getD i default).write) rfl ?_;refine ah.pure (S.bM [dn (p.rules.getD i default).dZ p.states.length,dn (p.rules.getD i default).y7 p.states.length,jJ p (p.rules.getD i default).read,jJ p (p.rules.getD i default).write] true (show 4<2^40 by decide)) rfl ?_;exact ak.int (by rw[gQ,show uD p i=false from h1,show qR p i=false from h2,show(y5 p (p.rules.getD i default) !=0)=false from h3,h4,h5]; rfl)
     ·conv=>whnf
      refine⟨fun h6=>?_,fun h6=>?_⟩
      ·conv=>whnf
       refine ah.pure (S.ku (p.rules.getD i default).response p.states.length false (by have:=hr.response; omega)) rfl ?_;refine ah.pure (S.gI p (p.rules.getD i default).read) rfl ?_;refine ah.pure (S.gI p (p.rules.getD i default).write) rfl ?_;refine ah.pure (S.bM [Gq (p.rules.getD i default).response p.states.length,jJ p (p.rules.getD i default).read,jJ p (p.rules.getD i default).write] true (show 3<2^40 by decide)) rfl ?_;exact ak.int (by rw[gQ,show uD p i=false from h1,show qR p i=false from h2,show(y5 p (p.rules.getD i default) !=0)=false from h3,h4,h5,h6]; rfl)
      ·conv=>whnf
       refine⟨fun h7=>?_,fun h7=>?_⟩
       ·conv=>whnf
        repeat(refine VC.mk (by first|exact id|(intro h; rw[h]; rfl)|(intro h; simp_all; done)) ?_)
        refine ah.pure (S.eX (p.rules.getD i default).left p.states.length false (by have:=hr.left; omega)) rfl ?_;refine ah.pure (S.eX (p.rules.getD i default).right p.states.length false (by have:=hr.right; omega)) rfl ?_;refine ah.pure (S.eX (p.rules.getD i default).parent p.states.length false (by have:=hr.parent; omega)) rfl ?_;refine ah.pure (S.bV (adE p (p.rules.getD i default)) 1) rfl ?_;refine ah.pure (S.bM [jr (p.rules.getD i default).left p.states.length,jr (p.rules.getD i default).right p.states.length,jr (p.rules.getD i default).parent p.states.length,eF (adE p (p.rules.getD i default)) 1] true (show 4<2^40 by decide)) rfl ?_;exact ak.int (by rw[gQ,show uD p i=false from h1,show qR p i=false from h2,show(y5 p (p.rules.getD i default) !=0)=false from h3,h4,h5,h6,h7]; rfl)
       ·conv=>whnf
        refine⟨fun h8=>?_,fun h8=>?_⟩
        ·conv=>whnf
         refine ah.pure (S.cu (p.rules.getD i default).dZ p.states.length) rfl ?_;refine ah.pure (S.cu (p.rules.getD i default).y7 p.states.length) rfl ?_;repeat(refine VC.mk (by first|exact id|exact fun h=>⟨h,h⟩|(intro h; rw[h]; rfl)) ?_)
         refine ah.pure (S.bV (decide ((p.rules.getD i default).direction<3)||decide ((p.rules.getD i default).direction>4)) 1) rfl ?_;refine ah.pure (S.bM [dn (p.rules.getD i default).dZ p.states.length,dn (p.rules.getD i default).y7 p.states.length,eF (decide ((p.rules.getD i default).direction<3)||decide ((p.rules.getD i default).direction>4)) 1] true (show 3<2^40 by decide)) rfl ?_;exact ak.int (by rw[gQ,show uD p i=false from h1,show qR p i=false from h2,show(y5 p (p.rules.getD i default) !=0)=false from h3,h4,h5,h6,h7,h8]; rfl)
        ·conv=>whnf
         refine ah.pure (S.cu (p.rules.getD i default).dZ p.states.length) rfl ?_;refine ah.pure (S.cu (p.rules.getD i default).y7 p.states.length) rfl ?_;repeat(refine VC.mk (by first|exact id|exact fun h=>⟨h,h⟩|(intro h; rw[h]; rfl)) ?_)
         refine ah.pure (S.bV (decide ((p.rules.getD i default).direction<1)||decide ((p.rules.getD i default).direction>2)) 1) rfl ?_;refine ah.pure (S.bM [dn (p.rules.getD i default).dZ p.states.length,dn (p.rules.getD i default).y7 p.states.length,eF (decide ((p.rules.getD i default).direction<1)||decide ((p.rules.getD i default).direction>2)) 1] true (show 3<2^40 by decide)) rfl ?_;exact ak.int (by rw[gQ,show uD p i=false from h1,show qR p i=false from h2,show(y5 p (p.rules.getD i default) !=0)=false from h3,h4,h5,h6,h7,h8]; rfl)
def zx(g:BA):List BA->Nat->Int
 |[],_=> -1
 |x::r,i=>bif g==x then(i:Int) else zx g r (i+1)
theorem U0{g:BA}{l:List BA}{i:Nat}:decide (0<=zx g l i)=l.any fun x=>g==x:=by
 have: ∀ {l:List BA} {i:Nat},0<=zx g l i↔(l.any fun x=>g==x)=true:=by
  intro l;induction l with
  |nil=>intro i; simp[zx]
  |cons x r ih =>
   intro i;rw[ez,cS,<- ih (i:=i+1)];show(0:Int)<=(bif g==x then(i:Int) else zx g r (i+1))↔_;generalize (g==x)=b;cases b<;>simp
 rw[cF,ab]; exact this
theorem S.adR(l:List BA)(g:BA)(f:Bool)(hl:l.length<2^40):aj Tryz.prog 162 [.row 7 f (.rC l),.dat (.RF g)] (.int (zx g l 0)):=by
 refine aj.of Bd.fC (by simp) rfl rfl ?_;refine aF.same [0,3,6,7] (fun i:Nat=>[(8,.int i)]) (fun i=>i<=l.length/\zx g l 0=zx g (l.drop i) i) (fun i=>l.length-i) 0 rfl (by decide) rfl (fun _=>rfl) ⟨by omega,by simp⟩ ⟨⟨_,rfl,rfl⟩,trivial⟩ ?_;refine⟨rfl,?_⟩;rintro i ⟨hi,hall⟩;refine⟨fun h3=>?_,fun h3=>?_⟩
 ·have hi':i<l.length:=by simpa using h3
  rw[dh default hi'] at hall;simp only[zx] at hall;refine .mk (by simp only[Rw.rng] at *; omega) ?_;refine⟨fun h4=>?_,fun h4=>?_⟩
  ·conv=>whnf
   refine ak.int ?_;have h4':(g==l.getD i default)=true:=h4;rw[hall,h4']; rfl
  ·conv=>whnf
   refine .mk (by simp only[okI] at *; omega) ?_;refine⟨i+1,⟨by omega,?_⟩,by omega,⟨⟨_,rfl,rfl⟩,trivial⟩,?_,rfl⟩
   ·have h4':(g==l.getD i default)=false:=h4;rw[hall,h4']; rfl
   ·repeat' (first|exact trivial|exact⟨_,rfl,rfl⟩|constructor)
 ·conv=>whnf
  refine ak.int ?_;have hi':l.length<=i:=by simpa using h3
  rw[hall,cD hi']; rfl
theorem S.Ve(l:List BA)(g:BA)(f:Bool)(hl:l.length<2^40):aj Tryz.prog 148 [.row 7 f (.rC l),.dat (.RF g)] (.bool (l.any fun x=>g==x)):=by
 refine aj.of Bd.dY (by simp) rfl rfl ?_;refine ah.pure (S.adR l g f hl) rfl ?_;exact ak.bool U0.symm
theorem adB{h:Hz}{j:Nat}{Z:Nat->Prop}{l:List BA}(hz:Z j)(q:h.get j=some (.row 131 7 (.rC l) [])):T.sub Z h.au (V.row 7 false (.rC l)).aI (V.own j).aI:=by
 show T.sub Z h.au (.sl 7 false (l.map Oo)) (.own j);simp only[T.sub];refine⟨trivial,hz,?_,by decide,131,?_⟩
 ·rw[ig]; intro t ht; obtain⟨x,_,rfl⟩:=bA.1 ht; rfl
 ·have:=aP q;rw[this]; simp[OV.ay,Rw.aQ,V.aQ]
theorem DY{α β:Type}{f:β->α->β}{b:β}{l:List α}{i:Nat}{d:α}(h:i<l.length):(l.take (i+1)).foldl f b=f ((l.take i).foldl f b) (l.getD i d):=by
 rw[cJ,eJ];simp[List.getElem?_eq_getElem h]
theorem ak.aiX{h:Hz}{j:Nat}{l:List BA}(q:h.get j=some (.row 131 7 (.rC l) [])):ak (.row 7 false (.rC l)) (.own j) h:=⟨adB trivial q⟩
def J6(acc:List BA)(g:BA):List BA:=bif acc.any (fun x=>g==x) then acc else acc++[g]
def AP(l:List Rule):List BA:=(l.flatMap Rule.guards).foldl J6 []
theorem adS{acc:List BA}{g:BA}:(J6 acc g).length<=acc.length+1:=by
 unfold J6; cases acc.any (fun x=>g==x)<;>simp
theorem Vf: ∀ {l acc:List BA},(l.foldl J6 acc).length<=acc.length+l.length:=by
 intro l;induction l with
 |nil=>intro acc; simp
 |cons g r ih =>
  intro acc;have:=ih (acc:=J6 acc g);have h2:=adS (acc:=acc) (g:=g);simp only[dq,bN]; omega
abbrev rowT(l:List BA):OV:=.row 131 7 (.rC l) []
def AQ(p:aB)(i k:Nat):List BA:=((p.rules.getD i default).guards.take k).foldl J6 (AP (p.rules.take i))
theorem U3(p:aB)(hp:dJ p)(i k:Nat)(_hi:i<p.rules.length):(AQ p i k).length<2^31:=by
 have h1:=Vf (l:=(p.rules.getD i default).guards.take k) (acc:=AP (p.rules.take i));have h2:=Vf (l:=(p.rules.take i).flatMap Rule.guards) (acc:=[]);have h3:=(hp.rule i).guards;have h4:((p.rules.take i).flatMap Rule.guards).length<=(p.rules.flatMap Rule.guards).length:=by
  conv=>rhs; rw[<- bx i p.rules,dc,aL]
  omega
 have h5:=hp.rC;have h6:((p.rules.getD i default).guards.take k).length<=(p.rules.getD i default).guards.length:=by simp[List.length_take]; omega
 unfold AQ;unfold AP at h1 ⊢;simp only[bw,fx] at h2;omega
theorem Qb(p:aB){i:Nat}(hi:i<p.rules.length):AP (p.rules.take (i+1))=AQ p i (p.rules.getD i default).guards.length:=by
 unfold AQ;rw[bk (bO _)];unfold AP;rw[cJ,dc,eJ];simp[List.getElem?_eq_getElem hi]
theorem S.jC(p:aB)(hp:dJ p):aj Tryz.prog 116 [.dat (.fM p)] (.row 7 false (.rC (AP p.rules))):=by
 have hp1:=hp.rules;refine aj.of Bd.jC (by simp) rfl rfl ?_;refine aF.nil 3 131 7 (by rfl) rfl rfl rfl ?_;refine aF.objs 1 [9,10] (fun i:Nat=>[(11,.int i),(3,.own 0)]) (fun i=>[(0,rowT (AP (p.rules.take i)))]) (fun i=>i<=p.rules.length) (fun i=>p.rules.length-i) 0 [7] rfl (by decide) (fun _=>rfl) (ap _) ?_ ?_ ?_
 ·exact(sR rfl)
 ·exact⟨gK rfl rfl,trivial⟩
 refine⟨(sR rfl),rfl,?_⟩;rintro i hi;refine⟨fun h3=>?_,fun h3=>?_⟩
 ·have hi':i<p.rules.length:=by simpa using h3
  refine .mk (by simp only[Rw.rng] at *; first|omega|(simp_all; done)|(simp_all; omega)) ?_;refine aF.objs 1 [9,10,11,16,17] (fun k:Nat=>[(18,.int k),(3,.own 0)]) (fun k=>[(0,rowT (AQ p i k))]) (fun k=>k<=(p.rules.getD i default).guards.length) (fun k=>(p.rules.getD i default).guards.length-k) 0 [0] rfl (by decide) (fun _=>rfl) (ap _) ?_ ?_ ?_
  ·exact(sR rfl)
  ·exact⟨gK rfl rfl,trivial⟩
  refine⟨(sR rfl),rfl,?_⟩;rintro k hk;have hacc:=U3 p hp i k hi';have hg:=(hp.rule i).guards;refine⟨fun h4=>?_,fun h4=>?_⟩
  ·have hk':k<(p.rules.getD i default).guards.length:=by simpa using h4
   have hst:AQ p i (k+1)=J6 (AQ p i k) ((p.rules.getD i default).guards.getD k default):=DY hk';refine .mk (by simp only[Rw.rng] at *; first|omega|(simp_all; done)|(simp_all; omega)) ?_;refine ah.lend (S.Ve (AQ p i k) ((p.rules.getD i default).guards.getD k default) false (by omega)) (And.intro (adB trivial rfl) (And.intro (aG _) trivial)) rfl rfl ?_;refine⟨fun h5=>?_,fun h5=>?_⟩
   ·conv=>whnf
    repeat(refine VC.mk (by first|(show((AQ p i k).length+(0+1))*48<=140737488355328/\(AQ p i k).length+(0+1)<=1152921504606846976; omega)|(simp only[okI] at *; first|omega|(simp_all; done)|(simp_all; omega))) ?_)
    have h5':((AQ p i k).any fun x=>(p.rules.getD i default).guards.getD k default==x)=false:=by simpa using h5
    refine⟨k+1,[13],by omega,by omega,(sR rfl),(sR rfl),⟨rfl,nofun,rfl,rfl,rfl,_,rfl,rfl,rfl,dH.of_eq ?_⟩,trivial⟩;rw[hst,J6,h5'];rfl
   ·conv=>whnf
    refine .mk (by simp only[okI] at *; first|omega|(simp_all; done)|(simp_all; omega)) ?_;conv=>whnf
    have h5':((AQ p i k).any fun x=>(p.rules.getD i default).guards.getD k default==x)=true:=by simpa using h5
    refine⟨k+1,[0],by omega,by omega,(sR rfl),(sR rfl),⟨rfl,nofun,rfl,rfl,rfl,_,rfl,rfl,rfl,dH.of_eq ?_⟩,trivial⟩;rw[hst,J6,h5']; rfl
  ·have hk':(p.rules.getD i default).guards.length<=k:=by simpa using h4
   have e:k=(p.rules.getD i default).guards.length:=fc hk hk';subst e;refine .mk (by simp only[okI] at *; first|omega|(simp_all; done)|(simp_all; omega)) ?_;refine⟨i+1,[0],by omega,by omega,(sR rfl),(sR rfl),⟨rfl,nofun,rfl,rfl,rfl,_,rfl,rfl,rfl,dH.of_eq ?_⟩,trivial⟩;rw[Qb p hi']
 ·have hi':p.rules.length<=i:=by simpa using h3
  rw[bk hi'];exact ak.aiX rfl
def wP(p:aB):Bool:=decide (p.topology<1)||decide (p.topology>4)||decide (p.fault<0)||decide (p.fault>3)
def xO(p:aB):Bool:=decide ((p.states.length:Int)>6)||decide ((p.messages.length:Int)>3)||decide ((p.values.length:Int)>3)||decide ((p.bY.length:Int)>4)||decide ((p.rules.length:Int)>8)
def U5(p:aB):Bool:=(!(p.topology==1)&&(decide ((p.messages.length:Int)>0)||decide ((p.values.length:Int)>0)||decide ((p.bY.length:Int)>0)||p.fault !=0))||((p.topology==1)&&decide ((p.leader.length:Int)>0))
def zM(p:aB):Int:=bJ [jr p.initial p.states.length,eF ((p.initial.length:Int)==0) 1,jr p.leader p.states.length]
def Fp(p:aB):Int:=bJ ((List.range p.rules.length).map (gQ p))
def aW(p:aB):Int :=
 bif !(validName p.name) then 2 else bif wP p then 1 else bif (p.states.length:Int)==0 then 1 else bif xO p then 4 else
 bif BP p !=0 then BP p else bif U5 p then 1 else
 bif p.bY.any (fun l=> !(UU l)) then 4 else
 bif zM p !=0 then zM p else
 bif Fp p !=0 then Fp p else eF (decide (((AP p.rules).length:Int)>3)) 4
theorem NY{n i:Nat}{f:Nat->Int}(h:i<n):((List.range n).drop i).map f=f i::((List.range n).drop (i+1)).map f:=by
 rw[eE (by simpa using h)]; simp
theorem S.fU(p:aB)(hp:dJ p):aj Tryz.prog 86 [.dat (.fM p)] (.int (aW p)):=by
 have g1:=hp.states; have g2:=hp.messages; have g3:=hp.values; have g4:=hp.bY; have g5:=hp.initial; have g6:=hp.leader; have g7:=hp.rules;refine aj.of Bd.fU (by simp) rfl rfl ?_;refine ah.pure (S.gW p.name) rfl ?_;refine⟨fun h1=>?_,fun h1=>?_⟩
 ·conv=>whnf
  exact ak.int (by rw[aW,h1]; rfl)
 repeat(refine VC.mk (by first|exact id|(intro h; rw[h]; rfl)) ?_)
 refine⟨fun h2=>?_,fun h2=>?_⟩
 ·conv=>whnf
  exact ak.int (by rw[aW,h1,show wP p=true from h2]; rfl)
 refine⟨fun h3=>?_,fun h3=>?_⟩
 ·conv=>whnf
  exact ak.int (by rw[aW,h1,show wP p=false from h2,h3]; rfl)
 repeat(refine VC.mk (by first|exact id|(intro h; rw[h]; rfl)) ?_)
 refine⟨fun h4=>?_,fun h4=>?_⟩
 ·conv=>whnf
  exact ak.int (by rw[aW,h1,show wP p=false from h2,h3,show xO p=true from h4]; rfl)
 conv=>whnf
 have h0:0<p.states.length:=by
  rcases Nat.eq_zero_or_pos p.states.length with e|e
  ·rw[e] at h3; exact absurd h3 (by decide)
  ·exact e
 refine ah.pure (S.pF p h0 g1 g2 g3) rfl ?_;refine⟨fun h5=>?_,fun h5=>?_⟩
 ·conv=>whnf
  exact ak.int (by rw[aW,h1,show wP p=false from h2,h3,show xO p=false from h4,h5]; rfl)
 repeat(refine VC.mk (by first|exact id|(intro h; rw[h]; rfl)|(intro h; simp_all; done)) ?_)
 refine⟨fun h6=>?_,fun h6=>?_⟩
 ·conv=>whnf
  exact ak.int (by rw[aW,h1,show wP p=false from h2,h3,show xO p=false from h4,h5,show U5 p=true from h6]; rfl)
 refine aF.same [1,4,111,112] (fun i:Nat=>[(113,.int i)]) (fun i=>i<=p.bY.length/\(p.bY.take i).any (fun l=> !(UU l))=false) (fun i=>p.bY.length-i) 0 rfl (by decide) rfl (fun _=>rfl) ⟨by omega,by simp⟩ ⟨⟨_,rfl,rfl⟩,trivial⟩ ?_;refine⟨rfl,?_⟩;rintro i ⟨hi,hall⟩;refine⟨fun h7=>?_,fun h7=>?_⟩
 ·have hi':i<p.bY.length:=by simpa using h7
  refine .mk (by simp only[Rw.rng] at *; omega) ?_;refine ah.pure (S.jH (p.bY.getD i default)) rfl ?_;refine⟨fun h8=>?_,fun h8=>?_⟩
  ·conv=>whnf
   exact ak.int (by rw[aW,h1,show wP p=false from h2,h3,show xO p=false from h4,h5,show U5 p=false from h6,oJ (d:=default) hi' h8]; rfl)
  ·conv=>whnf
   refine .mk (by simp only[okI] at *; omega) ?_;refine⟨i+1,⟨by omega,?_⟩,by omega,⟨⟨_,rfl,rfl⟩,trivial⟩,?_,rfl⟩
   ·rw[sS (d:=default) hi' hall]; exact h8
   ·repeat' (first|exact trivial|exact⟨_,rfl,rfl⟩|constructor)
 have hi':p.bY.length<=i:=by simpa using h7
 rw[bk hi'] at hall;refine ah.pure (S.eX p.initial p.states.length false (by omega)) rfl ?_;refine ah.pure (S.bV ((p.initial.length:Int)==0) 1) rfl ?_;refine ah.pure (S.eX p.leader p.states.length false (by omega)) rfl ?_;refine ah.pure (S.bM [jr p.initial p.states.length,eF ((p.initial.length:Int)==0) 1,jr p.leader p.states.length] true (show 3<2^40 by decide)) rfl ?_;refine⟨fun h9=>?_,fun h9=>?_⟩
 ·conv=>whnf
  exact ak.int (by rw[aW,h1,show wP p=false from h2,h3,show xO p=false from h4,h5,show U5 p=false from h6,hall,show(zM p !=0)=true from h9]; rfl)
 refine aF.same [1,140,141] (fun i:Nat=>[(142,.int i)]) (fun i=>i<=p.rules.length/\Fp p=bJ (((List.range p.rules.length).drop i).map (gQ p))) (fun i=>p.rules.length-i) 0 rfl (by decide) rfl (fun _=>rfl) ⟨by omega,by simp[Fp]⟩ ⟨⟨_,rfl,rfl⟩,trivial⟩ ?_;refine⟨rfl,?_⟩;rintro i ⟨hi,hr⟩;refine⟨fun h10=>?_,fun h10=>?_⟩
 ·have hi':i<p.rules.length:=by simpa using h10
  rw[NY hi'] at hr;simp only[bJ] at hr;refine ah.pure (S.jZ p i hi' hp) rfl ?_;refine⟨fun h11=>?_,fun h11=>?_⟩
  ·conv=>whnf
   have ahL:gQ p i≠0:=U4 h11;rw[av ahL] at hr;exact ak.int (by rw[aW,h1,show wP p=false from h2,h3,show xO p=false from h4,h5,show U5 p=false from h6,hall,show(zM p !=0)=false from h9,hr,h11]; rfl)
  ·conv=>whnf
   refine .mk (by simp only[okI] at *; omega) ?_;conv=>whnf
   have ahL:gQ p i=0:=EP h11;rw[ba ahL] at hr;refine⟨i+1,⟨by omega,hr⟩,by omega,⟨⟨_,rfl,rfl⟩,trivial⟩,?_,rfl⟩;repeat' (first|exact trivial|exact⟨_,rfl,rfl⟩|constructor)
 have hi':p.rules.length<=i:=by simpa using h10
 rw[cD (by simpa using hi')] at hr;refine ah.pure (S.jC p hp) rfl ?_;refine ah.pure (S.bV (decide (((AP p.rules).length:Int)>3)) 4) rfl ?_;exact ak.int (by rw[aW,h1,show wP p=false from h2,h3,show xO p=false from h4,h5,show U5 p=false from h6,hall,show(zM p !=0)=false from h9,hr]; rfl)
theorem ak.eqv{a b:V}{h:Hz}(e:a.aI=b.aI):ak a b h:=⟨by rw[e]; exact aG _⟩
def U7(acc:Bool)(r:Rule):Bool:=acc&&(r.kind==1)&&decide (r.fr<r.to)&&((r.ex.length:Int)==0)&&((r.all.length:Int)==0)
def aaG(acc:Bool)(r:Rule):Bool:=acc||decide ((r.all.length:Int)>0)
def qg(p:aB):Bool:=(p.topology==1)&&(p.fault==0)&&((p.messages.length:Int)==0)&&((p.bY.length:Int)==0)
structure Cls where
 RF:Bool
 cover:Bool
 word:Bool
 tree:Bool
 monadic:Bool
def iF(p:aB):Cls :=
 ⟨(p.topology==1)&&((p.values.length:Int)==0)&&p.rules.foldl U7 true,qg p&& !(p.rules.foldl aaG false),(p.topology==2)||(p.topology==3),p.topology==4,qg p&&decide ((p.states.length:Int)<=4)⟩
def aiZ(c:Cls):V:=.agg [.bool c.RF,.bool c.cover,.bool c.word,.bool c.tree,.bool c.monadic]
def Gw:Cls:=⟨false,false,false,false,false⟩
def Js(p:aB):V:=.bU [aiZ (bif aW p !=0 then Gw else iF p),.int (aW p)]
theorem S.iG(p:aB)(hp:dJ p):aj Tryz.prog 53 [.dat (.fM p)] (Js p):=by
 have g1:=hp.states; have g2:=hp.messages; have g3:=hp.values; have g4:=hp.bY; have g7:=hp.rules;refine aj.of Bd.iG (by simp) rfl rfl ?_;refine ah.pure (S.fU p hp) rfl ?_;refine⟨fun h1=>?_,fun h1=>?_⟩
 ·conv=>whnf
  refine ak.eqv ?_;rw[Js,h1]; rfl
 have h1':aW p=0:=EP h1;refine aF.same [1,2,3,18,19] (fun i:Nat=>[(20,.int i),(5,.bool ((p.rules.take i).foldl U7 true)),(6,.bool ((p.rules.take i).foldl aaG false))]) (fun i=>i<=p.rules.length) (fun i=>p.rules.length-i) 0 rfl (by decide) rfl (fun _=>rfl) (ap _) ⟨⟨_,rfl,rfl⟩,⟨_,rfl,rfl⟩,⟨_,rfl,rfl⟩,trivial⟩ ?_;refine⟨rfl,?_⟩;rintro i hi;have g8:=hp.rule i;have g9:=g8.ex; have g10:=g8.all;refine⟨fun h7=>?_,fun h7=>?_⟩
 ·have hi':i<p.rules.length:=by simpa using h7
  repeat(refine VC.mk (by first|exact id|exact fun h=>⟨h,h⟩|(intro h; rw[h]; rfl)|(simp only[okI,Rw.rng] at *; omega)) ?_)
  refine⟨i+1,by omega,by omega,⟨⟨_,rfl,rfl⟩,⟨_,rfl,?_⟩,⟨_,rfl,?_⟩,trivial⟩,?_,rfl⟩
  ·rw[DY (d:=default) hi']; rfl
  ·rw[DY (d:=default) hi']; rfl
  ·repeat' (first|exact trivial|exact⟨_,rfl,rfl⟩|constructor)
 have hi':p.rules.length<=i:=by simpa using h7
 rw[bk hi'];repeat(refine VC.mk (by first|exact id|(intro h; rw[h]; rfl)) ?_)
 refine ak.eqv ?_;rw[Js,h1'];rfl
def lC(r:Rule)(t:Int):Bool :=
 bif !(r.kind==1)&&(decide ((r.guards.length:Int)>0)||decide ((r.ex.length:Int)>0)||decide ((r.all.length:Int)>0)||decide ((r.send.length:Int)>0)) then true else
 bif !(r.kind==1)&& !(r.kind==2)&& !(r.kind==3)&&(r.read != -1||r.write != -1) then true else
 bif !(r.kind==2)&& !(r.kind==5)&&(r.dZ !=0||r.y7 !=0) then true else
 bif (!(r.kind==3)&&decide ((r.response.length:Int)>0))||(!(r.kind==5)&&r.direction !=0) then true else
 bif !(r.kind==4)&&(r.pos !=0||decide ((r.left.length:Int)>0)||decide ((r.right.length:Int)>0)) then true else
 decide ((r.parent.length:Int)>0)&& !((r.kind==4)&&(t==4))
theorem gt0{n:Nat}:decide ((n:Int)>0)= !(n==0):=by
 cases n with
 |zero=>rfl
 |succ n=>rw[cY (by omega)]; rfl
theorem ajK(a b c d e f g h:Nat):decide ((a:Int)+b+c+d+e+f+g+h>0)=(!(a==0)|| !(b==0)|| !(c==0)|| !(d==0)|| !(e==0)|| !(f==0)|| !(g==0)|| !(h==0)):=by
 rw[cF];simp only[ab,cS,bl,cE,ne_eq];omega
theorem xP{r:Rule}{t:Int}(h:1<=r.kind/\r.kind<=5):lC r t=kS r t:=by
 have hk:r.kind=1\/r.kind=2\/r.kind=3\/r.kind=4\/r.kind=5:=by omega
 simp only[lC,kS,Gm,gt0,ajK,bne];generalize (r.guards.length==0)=g1;generalize (r.ex.length==0)=g2;generalize (r.all.length==0)=g3;generalize (r.send.length==0)=g4;generalize (r.response.length==0)=g5;generalize (r.left.length==0)=g6;generalize (r.right.length==0)=g7;generalize (r.parent.length==0)=g8;generalize (r.read== -1)=g9;generalize (r.write== -1)=g10;generalize (r.dZ==0)=g11;generalize (r.y7==0)=g12;generalize (r.direction==0)=g13;generalize (r.pos==0)=g14
 rcases hk with hk|hk|hk|hk|hk<;>rw[hk] <;>
  (first
   |(simp; done)
   |(cases (t==4)<;>simp<;>grind)
   |(simp; grind))
end Go.Proofs.YtbdbmfccbpfeoaaGreatDoor
