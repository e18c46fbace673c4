/-
 A part of the proof. No condition.
-/
import Derived.Test.YtbigdcimbhgjbaaGreatDoorNb
import Derived.Test.YtbigdcimbhgjbaaGreatDoorLg
namespace Go.Proofs.YtbigdcimbhgjbaaGreatDoor
open Go.Ab Go.Proofs
set_option maxRecDepth 100000
def eG(b:Bool)(e:Int):Int:=bif b then e else 0
theorem S.bU(b:Bool)(e:Int):ak Tryz.prog 71 [.bool b,.int e] (.int (eG b e)):=by
 refine ak.of Bd.bU (by simp) rfl rfl ?_
 refine⟨fun h=>?_,fun h=>?_⟩
 ·conv=>whnf
  exact au.int (by rw[h]; rfl)
 ·conv=>whnf
  exact au.int (by rw[h]; rfl)
def oI(i n:Int):Bool:=decide (i<0)||decide (i>=n)
def cu(i n:Int):Int:=eG (oI i n) 5
theorem S.bV(i n:Int):ak Tryz.prog 106 [.int i,.int n] (.int (cu i n)):=by
 refine ak.of Bd.bV (by simp) rfl rfl ?_
 repeat(refine VC.mk (by first|exact fun h=>⟨h,h⟩|(intro h; rw[h]; rfl)) ?_)
 refine ah.pure (S.bU (oI i n) 5) rfl ?_
 exact au.int rfl
def aU:List Int->Int
 |[]=>0
 |e::r=>if e=0 then aU r else e
theorem S.bP(l:List Int)(f:Bool)(hl:l.length<2^40):ak Tryz.prog 69 [.row 0 f (.ints l)] (.int (aU l)):=by
 refine ak.of Bd.bP (by simp) rfl rfl ?_
 refine aQ.same [5,6] (fun i:Nat=>[(7,.int i)]) (fun i=>i<=l.length/\aU l=aU (l.drop i)) (fun i=>l.length-i) 0 rfl (by decide) rfl (fun _=>rfl) ⟨by omega,by simp⟩ ⟨⟨_,rfl,rfl⟩,trivial⟩ ?_
 refine⟨rfl,?_⟩
 rintro i ⟨hi,hall⟩
 refine⟨fun h3=>?_,fun h3=>?_⟩
 ·have hi':i<l.length:=by simpa using h3
  rw[aZ 0 hi'] at hall
  simp only[aU] at hall
  refine .mk (by simp only[Rw.rng] at *; omega) ?_
  refine⟨fun h4=>?_,fun h4=>?_⟩
  ·conv=>whnf
   refine au.int ?_
   have:l.getD i 0≠0:=by simpa using h4
   rw[hall,if_neg this]; rfl
  ·conv=>whnf
   refine .mk (by simp only[okI] at *; omega) ?_
   conv=>whnf
   have:l.getD i 0=0:=by simpa using h4
   rw[if_pos this] at hall
   refine⟨i+1,⟨by omega,hall⟩,by omega,⟨⟨_,rfl,rfl⟩,trivial⟩,?_,rfl⟩
   repeat' (first|exact trivial|exact⟨_,rfl,rfl⟩|constructor)
 ·conv=>whnf
  refine au.int ?_
  have hi':l.length<=i:=by simpa using h3
  rw[hall,List.drop_eq_nil_of_le hi']; rfl
def wM:List Int->Bool
 |a::b::r=>decide (a<b)&&wM (b::r)
 |_=>true
def dX(l:List Int)(n:Int):Int:=bif l.any (fun i=>oI i n) then 5 else bif wM l then 0 else 1
theorem S.dO(l:List Int)(n:Int)(f:Bool)(hl:l.length<2^40):ak Tryz.prog 70 [.row 0 f (.ints l),.int n] (.int (dX l n)):=by
 refine ak.of Bd.dO (by simp) rfl rfl ?_
 refine aQ.same [0,1,8,9] (fun i:Nat=>[(10,.int i)]) (fun i=>i<=l.length/\(l.take i).any (fun i=>oI i n)=false) (fun i=>l.length-i) 0 rfl (by decide) rfl (fun _=>rfl) ⟨by omega,by simp⟩ ⟨⟨_,rfl,rfl⟩,trivial⟩ ?_
 refine⟨rfl,?_⟩
 rintro i ⟨hi,hall⟩
 refine⟨fun h3=>?_,fun h3=>?_⟩
 ·have hi':i<l.length:=by simpa using h3
  repeat(refine VC.mk (by first|exact fun h=>⟨h,h⟩|(intro h; rw[h]; rfl)|(simp only[Rw.rng] at *; omega)) ?_)
  refine⟨fun h4=>?_,fun h4=>?_⟩
  ·conv=>whnf
   refine au.int ?_
   rw[dX,mQ (d:=0) hi' h4]; rfl
  ·conv=>whnf
   refine .mk (by simp only[okI] at *; omega) ?_
   refine⟨i+1,⟨by omega,?_⟩,by omega,⟨⟨_,rfl,rfl⟩,trivial⟩,?_,rfl⟩
   ·rw[pO (d:=0) hi' hall]; exact h4
   ·repeat' (first|exact trivial|exact⟨_,rfl,rfl⟩|constructor)
 ·have hi':l.length<=i:=by simpa using h3
  rw[List.take_of_length_le hi'] at hall
  refine aQ.same [0] (fun i:Nat=>[(7,.int (i+1))]) (fun i=>(i<l.length\/i=0)/\wM l=wM (l.drop i)) (fun i=>l.length-i) 0 rfl (by decide) rfl (fun _=>rfl) ⟨by omega,by simp⟩ ⟨⟨_,rfl,rfl⟩,trivial⟩ ?_
  refine⟨rfl,?_⟩
  rintro i ⟨hi,hinc⟩
  refine⟨fun h5=>?_,fun h5=>?_⟩
  ·have hi1:i+1<l.length:=by have:=of_decide_eq_true h5; omega
   rw[aZ 0 (show i<l.length by omega),aZ 0 hi1] at hinc
   simp only[wM] at hinc
   rw[<- aZ 0 hi1] at hinc
   repeat(refine VC.mk (by simp only[okI,Rw.rng] at *; omega) ?_)
   refine⟨fun h6=>?_,fun h6=>?_⟩
   ·conv=>whnf
    refine au.int ?_
    have e1:((i:Int)+1).toNat=i+1:=by omega
    have e2:((i:Int)+1-1).toNat=i:=by omega
    rw[e1,e2] at h6
    have h6':l.getD (i+1) 0<=l.getD i 0:=of_decide_eq_true h6
    rw[dX,hall,hinc,decide_eq_false (by omega)]; rfl
   ·conv=>whnf
    refine .mk (by simp only[okI] at *; omega) ?_
    conv=>whnf
    have e1:((i:Int)+1).toNat=i+1:=by omega
    have e2:((i:Int)+1-1).toNat=i:=by omega
    rw[e1,e2] at h6
    have h6': ¬ l.getD (i+1) 0<=l.getD i 0:=of_decide_eq_false h6
    rw[decide_eq_true (by omega),Bool.true_and] at hinc
    refine⟨i+1,⟨by omega,hinc⟩,by omega,⟨⟨_,rfl,rfl⟩,trivial⟩,?_,rfl⟩
    repeat' (first|exact trivial|exact⟨_,rfl,rfl⟩|constructor)
  ·conv=>whnf
   refine au.int ?_
   have h5': ¬ ((i:Int)+1<l.length):=of_decide_eq_false h5
   have:wM l=true:=by
    rw[hinc]
    rcases hd:l.drop i with _|⟨a,_|⟨b,r⟩⟩
    ·rfl
    ·rfl
    ·have:=congrArg List.length hd
     simp only[List.length_drop,List.length_cons] at this
     omega
   rw[dX,hall,this]; rfl
def Yv(n:Int):Bool:=decide (n>= -100)&&decide (n<=100)
theorem S.gQ(n:Int):ak Tryz.prog 101 [.int n] (.bool (Yv n)):=by
 refine ak.of Bd.gQ (by simp) rfl rfl ?_
 repeat(refine VC.mk id ?_)
 exact au.bool rfl
def OT(l:Zz):Bool:=Yv l.c&&Yv l.n&&Yv l.t&&Yv l.f
theorem S.jv(l:Zz):ak Tryz.prog 68 [.dat (.lin l)] (.bool (OT l)):=by
 refine ak.of Bd.jv (by simp) rfl rfl ?_
 refine ah.pure (S.gQ l.c) rfl ?_
 repeat(refine VC.mk id ?_)
 refine ah.iD (fun _=>S.gQ l.n) rfl ?_
 repeat(refine VC.mk id ?_)
 refine ah.iD (fun _=>S.gQ l.t) rfl ?_
 repeat(refine VC.mk id ?_)
 refine ah.iD (fun _=>S.gQ l.f) rfl ?_
 refine VC.mk id ?_
 exact au.bool rfl
def jy(p:aS)(v:Int):Int:=eG (decide (v< -1)||decide (v>=p.values.length)) 5
theorem S.fF(p:aS)(v:Int):ak Tryz.prog 108 [.dat (.eu p),.int v] (.int (jy p v)):=by
 refine ak.of Bd.fF (by simp) rfl rfl ?_
 repeat(refine VC.mk (by first|exact id|exact fun h=>⟨h,h⟩|(intro h; rw[h]; rfl)) ?_)
 refine ah.pure (S.bU _ 5) rfl ?_
 exact au.int rfl
theorem JB{a:Int}(h:(a !=0)=true):a≠0:=by simpa using h
theorem Ce{a:Int}(h:(a !=0)=false):a=0:=by simpa using h
def sV(k t:Int):Bool:=bif k==1||k==2||k==3 then t==1 else bif k==4||k==5 then !(t==1) else false
theorem S.oG(k t:Int):ak Tryz.prog 104 [.int k,.int t] (.bool (sV k t)):=by
 refine ak.of Bd.oG (by simp) rfl rfl ?_
 refine⟨fun h1=>?_,fun h1=>?_⟩
 ·conv=>whnf
  refine Fork.mk (fun _=>?_) (fun q=>absurd (q.symm.trans (h1)) Bool.false_ne_true)
  exact au.bool (by simp[sV,h1])
 ·conv=>whnf
  refine⟨fun h2=>?_,fun h2=>?_⟩
  ·conv=>whnf
   refine Fork.mk (fun _=>?_) (fun q=>absurd (q.symm.trans (h2)) Bool.false_ne_true)
   exact au.bool (by simp[sV,h1,h2])
  ·conv=>whnf
   refine⟨fun h3=>?_,fun h3=>?_⟩
   ·conv=>whnf
    exact au.bool (by simp[sV,h1,h2,h3])
   ·conv=>whnf
    refine⟨fun h4=>?_,fun h4=>?_⟩
    ·conv=>whnf
     refine Fork.mk (fun _=>?_) (fun q=>absurd (q.symm.trans (h4)) Bool.false_ne_true)
     exact au.bool (by simp[sV,h1,h2,h3,h4,bne])
    ·conv=>whnf
     refine⟨fun h5=>?_,fun h5=>?_⟩
     ·conv=>whnf
      exact au.bool (by simp[sV,h1,h2,h3,h4,h5,bne])
     ·conv=>whnf
      exact au.bool (by simp[sV,h1,h2,h3,h4,h5])
def oJ:List Int->Int->Int
 |[],_=>0
 |x::r,n=>if cu x n=0 then oJ r n else cu x n
def CS(l:List Int)(n:Int):Int:=bif (l.length:Int) !=n then 1 else oJ l n
theorem S.jH(l:List Int)(n:Int)(f:Bool)(hl:l.length<2^40):ak Tryz.prog 109 [.row 0 f (.ints l),.int n] (.int (CS l n)):=by
 refine ak.of Bd.jH (by simp) rfl rfl ?_
 refine⟨fun h=>?_,fun h=>?_⟩
 ·conv=>whnf
  exact au.int (by rw[CS,h]; rfl)
 ·conv=>whnf
  refine aQ.same [0,1,12,13] (fun i:Nat=>[(14,.int i)]) (fun i=>i<=l.length/\oJ l n=oJ (l.drop i) n) (fun i=>l.length-i) 0 rfl (by decide) rfl (fun _=>rfl) ⟨by omega,by simp⟩ ⟨⟨_,rfl,rfl⟩,trivial⟩ ?_
  refine⟨rfl,?_⟩
  rintro i ⟨hi,hall⟩
  refine⟨fun h3=>?_,fun h3=>?_⟩
  ·have hi':i<l.length:=by simpa using h3
   rw[aZ 0 hi'] at hall
   simp only[oJ] at hall
   refine .mk (by simp only[Rw.rng] at *; omega) ?_
   refine ah.pure (S.bV (l.getD i 0) n) rfl ?_
   refine⟨fun h4=>?_,fun h4=>?_⟩
   ·conv=>whnf
    refine au.int ?_
    have:cu (l.getD i 0) n≠0:=by simpa using h4
    rw[CS,h,cond_false,hall,if_neg this]
   ·conv=>whnf
    refine .mk (by simp only[okI] at *; omega) ?_
    conv=>whnf
    have:cu (l.getD i 0) n=0:=by simpa using h4
    rw[if_pos this] at hall
    refine⟨i+1,⟨by omega,hall⟩,by omega,⟨⟨_,rfl,rfl⟩,trivial⟩,?_,rfl⟩
    repeat' (first|exact trivial|exact⟨_,rfl,rfl⟩|constructor)
  ·conv=>whnf
   refine au.int ?_
   have hi':l.length<=i:=by simpa using h3
   rw[CS,h,cond_false,hall,List.drop_eq_nil_of_le hi']; rfl
def guardE(p:aS)(g:yM):Int:=aU [cu g.message p.messages.length,eG (decide (g.DK<1)||decide (g.DK>100)) 1,eG (!(OT g.bound)) 4]
def jR(p:aS):List yM->Int
 |[]=>0
 |g::r=>if guardE p g=0 then jR p r else guardE p g
def wE(p:aS)(l:List yM):Int:=if jR p l=0 then eG (decide ((l.length:Int)>2)) 4 else jR p l
theorem S.lV(p:aS)(l:List yM)(f:Bool)(hl:l.length<2^40):ak Tryz.prog 107 [.dat (.eu p),.row 7 f (.pG l)] (.int (wE p l)):=by
 refine ak.of Bd.lV (by simp) rfl rfl ?_
 refine aQ.same [1,2,8,9] (fun i:Nat=>[(10,.int i)]) (fun i=>i<=l.length/\jR p l=jR p (l.drop i)) (fun i=>l.length-i) 0 rfl (by decide) rfl (fun _=>rfl) ⟨by omega,by simp⟩ ⟨⟨_,rfl,rfl⟩,trivial⟩ ?_
 refine⟨rfl,?_⟩
 rintro i ⟨hi,hall⟩
 refine⟨fun h3=>?_,fun h3=>?_⟩
 ·have hi':i<l.length:=by simpa using h3
  rw[aZ default hi'] at hall
  simp only[jR] at hall
  refine .mk (by simp only[Rw.rng] at *; omega) ?_
  refine ah.pure (S.bV (l.getD i default).message p.messages.length) rfl ?_
  repeat(refine VC.mk (by first|exact id|(intro h; rw[h]; rfl)) ?_)
  refine ah.pure (S.bU (decide ((l.getD i default).DK<1)||decide ((l.getD i default).DK>100)) 1) rfl ?_
  refine ah.pure (S.jv (l.getD i default).bound) rfl ?_
  refine ah.pure (S.bU (!(OT (l.getD i default).bound)) 4) rfl ?_
  refine ah.pure (S.bP [cu (l.getD i default).message p.messages.length,eG (decide ((l.getD i default).DK<1)||decide ((l.getD i default).DK>100)) 1,eG (!(OT (l.getD i default).bound)) 4] true (show 3<2^40 by decide)) rfl ?_
  refine⟨fun h4=>?_,fun h4=>?_⟩
  ·conv=>whnf
   refine au.int ?_
   have h4':guardE p (l.getD i default)≠0:=JB h4
   rw[if_neg h4'] at hall
   rw[wE,hall,if_neg h4']; rfl
  ·conv=>whnf
   refine .mk (by simp only[okI] at *; omega) ?_
   conv=>whnf
   have h4':guardE p (l.getD i default)=0:=Ce h4
   rw[if_pos h4'] at hall
   refine⟨i+1,⟨by omega,hall⟩,by omega,⟨⟨_,rfl,rfl⟩,trivial⟩,?_,rfl⟩
   repeat' (first|exact trivial|exact⟨_,rfl,rfl⟩|constructor)
 ·have hi':l.length<=i:=by simpa using h3
  rw[List.drop_eq_nil_of_le hi'] at hall
  refine ah.pure (S.bU (decide ((l.length:Int)>2)) 4) rfl ?_
  exact au.int (by rw[wE,hall]; rfl)
structure wG(r:Rule):Prop where
 response:r.response.length<2^30
 guards:r.guards.length<2^30
 ex:r.ex.length<2^30
 all:r.all.length<2^30
 send:r.send.length<2^30
 left:r.left.length<2^30
 right:r.right.length<2^30
 parent:r.parent.length<2^30
def Cc(r:Rule):Bool :=
 decide ((r.response.length:Int)+r.guards.length+r.ex.length+r.all.length+r.send.length+r.left.length+r.right.length+r.parent.length>0)||r.jk !=0||r.CO !=0||r.pos !=0||r.direction !=0||r.read != -1||r.write != -1
def kJ(r:Rule)(t:Int):Bool :=
 bif r.kind==1 then Cc {r with guards:=[],ex:=[],all:=[],send:=[],read:= -1,write:= -1} else
 bif r.kind==2 then(bif decide ((r.response.length:Int)>0) then true else Cc {r with jk:=0,CO:=0,response:=[],read:= -1,write:= -1}) else
 bif r.kind==3 then Cc {r with response:=[],read:= -1,write:= -1} else
 bif r.kind==4 then(bif t==4 then Cc {r with pos:=0,left:=[],right:=[],parent:=[]} else Cc {r with pos:=0,left:=[],right:=[]}) else
 bif r.kind==5 then Cc {r with jk:=0,CO:=0,direction:=0} else Cc r
theorem S.kY(r:Rule)(t:Int)(hs:wG r):ak Tryz.prog 105 [.dat (.rule r),.int t] (.bool (kJ r t)):=by
 obtain⟨g1,g2,g3,g4,g5,g6,g7,g8⟩:=hs
 refine ak.of Bd.kY (by simp) rfl rfl ?_
 refine⟨fun h1=>?_,fun h1=>?_⟩
 ·conv=>whnf
  repeat(refine VC.mk (by first|exact id|(intro h; rw[h]; rfl)|(simp only[okI] at *; omega)) ?_)
  exact au.bool (by simp[kJ,Cc,h1])
 ·conv=>whnf
  refine⟨fun h2=>?_,fun h2=>?_⟩
  ·conv=>whnf
   refine⟨fun h6=>?_,fun h6=>?_⟩
   ·conv=>whnf
    exact au.bool (by rw[kJ,h1,h2,show decide ((r.response.length:Int)>0)=true from h6]; rfl)
   ·conv=>whnf
    repeat(refine VC.mk (by first|exact id|(intro h; rw[h]; rfl)|(simp only[okI] at *; omega)) ?_)
    exact au.bool (by rw[kJ,h1,h2,show decide ((r.response.length:Int)>0)=false from h6]; simp[Cc])
  ·conv=>whnf
   refine⟨fun h3=>?_,fun h3=>?_⟩
   ·conv=>whnf
    repeat(refine VC.mk (by first|exact id|(intro h; rw[h]; rfl)|(simp only[okI] at *; omega)) ?_)
    exact au.bool (by simp[kJ,Cc,h1,h2,h3])
   ·conv=>whnf
    refine⟨fun h4=>?_,fun h4=>?_⟩
    ·conv=>whnf
     refine⟨fun h7=>?_,fun h7=>?_⟩
     ·conv=>whnf
      repeat(refine VC.mk (by first|exact id|(intro h; rw[h]; rfl)|(simp only[okI] at *; omega)) ?_)
      exact au.bool (by simp[kJ,Cc,h1,h2,h3,h4,h7])
     ·conv=>whnf
      repeat(refine VC.mk (by first|exact id|(intro h; rw[h]; rfl)|(simp only[okI] at *; omega)) ?_)
      exact au.bool (by simp[kJ,Cc,h1,h2,h3,h4,h7])
    ·conv=>whnf
     refine⟨fun h5=>?_,fun h5=>?_⟩
     ·conv=>whnf
      repeat(refine VC.mk (by first|exact id|(intro h; rw[h]; rfl)|(simp only[okI] at *; omega)) ?_)
      exact au.bool (by simp[kJ,Cc,h1,h2,h3,h4,h5])
     ·conv=>whnf
      repeat(refine VC.mk (by first|exact id|(intro h; rw[h]; rfl)|(simp only[okI] at *; omega)) ?_)
      exact au.bool (by simp[kJ,Cc,h1,h2,h3,h4,h5])
def Yw(h:Hz):Hz->Prop
 |[]=>True
 |(i,o)::r=>h.get i=o/\Yw h r
theorem Vo{h:Hz}: ∀ {h0:Hz},Yw h h0-> ∀ {i:Nat} {o:OV},h0.get i=some o->h.get i=some o:=by
 intro h0
 induction h0 with
 |nil=>intro _ i o e; cases e
 |cons p r ih =>
  obtain⟨j,u⟩:=p
  intro hs i o e
  simp only[Hz.get] at e
  cases hb:Nat.beq j i with
  |true=>rw[hb] at e; simp only[cond_true] at e; rw[<- Nat.eq_of_beq_eq_true hb,hs.1,e]
  |false=>rw[hb] at e; exact ih hs.2 e
def Vp:Hz->Bool
 |[]=>true
 |(_,some o)::r=>o.Gx&&Vp r
 |(_,none)::r=>Vp r
theorem O8: ∀ {h0:Hz},Vp h0=true-> ∀ {i:Nat} {o:OV},h0.get i=some o->o.Gx=true:=by
 intro h0
 induction h0 with
 |nil=>intro _ i o e; cases e
 |cons p r ih =>
  obtain⟨j,u⟩:=p
  intro hs i o e
  simp only[Hz.get] at e
  cases hb:Nat.beq j i with
  |true =>
   rw[hb] at e; simp only[cond_true] at e; subst e
   simp only[Vp,Bool.and_eq_true] at hs; exact hs.1
  |false =>
   rw[hb] at e
   refine ih ?_ e
   cases u with
   |none=>exact hs
   |some o=>simp only[Vp,Bool.and_eq_true] at hs; exact hs.2
theorem OV.O9{o:OV}(h:o.Gx=true):T.aO (fun _=>False) o.aF.l:=OV.Gf h
theorem kN.same{nx:Nat}{h0 h:Hz}{n:Nat}{post:T->Hp->Prop}{v:V}(hf:v.free=true)(hs:Yw h h0)(hg:wZ nx h0=true)(hfr:Vp h0=true)(hp:post v.aI h0.aj):kN h0 n post v h:=by
 have hG:=pV hg
 have get: ∀ i ob,h0.aj i=some ob-> ∃ o,h0.get i=some o/\ob=o.aF:=fun i ob e=>by
  simp only[Hz.aj,Option.map_eq_some_iff] at e
  obtain⟨o,e1,e2⟩:=e
  exact⟨o,e1,e2.symm⟩
 have hfree:=V.lI v hf
 refine⟨fun _=>False,id,v.aI,h0.aj,hp,?_,fun i ob hi=>?_,fun i j _ _ e=>e,T.bG (fun _ h=>h.elim) _ (fZ hfree),fun i ob hi=>?_,fun i _ _=>rfl⟩
 ·rw[IC]; exact aB _
 ·obtain⟨o,e1,rfl⟩:=get i ob hi
  refine⟨o.aF,aH (Vo hs e1),fun h=>h,rfl,rfl,?_,zA (hG i _ hi).2.2⟩
  rw[tX _ (OV.O9 (O8 hfr e1))]; exact cO _
 ·obtain⟨o,e1,rfl⟩:=get i ob hi
  exact⟨.inl (by rw[hi]; rfl),T.ay (fun _ h=>h.elim) _ (OV.O9 (O8 hfr e1))⟩
abbrev hRP(p:aS)(r:Rule):Hz:=[(7,some (.box 88 19 (.dat (.rule r)))),(0,some (.box 27 11 (.dat (.eu p))))]
theorem S.MH(p:aS)(r x:Rule)(n:Nat):aP Tryz.prog 103 (V.aX [.dat (.rule x),.ptr 7 0 0]) (hRP p r).aj n (fun t hp=>t= .bool (x.name==r.name)/\hp=(hRP p r).aj):=by
 refine rY.of (nx:=8) Bd.mJ (by simp) ⟨_,_,rfl,rfl⟩ rfl rfl ?_
 exact kN.same (nx:=8) rfl ⟨rfl,rfl,trivial⟩ rfl rfl ⟨rfl,rfl⟩
def DZ(s:Str):List Rule->Nat->Int
 |[],_=> -1
 |x::r,i=>bif x.name==s then(i:Int) else DZ s r (i+1)
theorem S.Vq(p:aS)(r:Rule)(l:List Rule)(f:Bool)(hl:l.length<2^30)(n:Nat):aP Tryz.prog 128 (V.aX [.row 19 f (.rules l),.fn 103 [.ptr 7 0 0]]) (hRP p r).aj n (fun t hp=>t= .int (DZ r.name l 0)/\hp=(hRP p r).aj):=by
 refine rY.of (nx:=8) Bd.fG (by simp) ⟨_,_,rfl,rfl⟩ rfl rfl ?_
 refine aQ.same [0,1,6,7] (fun i:Nat=>[(8,.int i)]) (fun i=>i<=l.length/\DZ r.name l 0=DZ r.name (l.drop i) i) (fun i=>l.length-i) 0 rfl (by decide) rfl (fun _=>rfl) ⟨by omega,by simp⟩ ⟨⟨_,rfl,rfl⟩,trivial⟩ ?_
 refine⟨rfl,?_⟩
 rintro i ⟨hi,hall⟩
 refine⟨fun h3=>?_,fun h3=>?_⟩
 ·have hi':i<l.length:=by simpa using h3
  rw[aZ default hi'] at hall
  simp only[DZ] at hall
  refine .mk (by simp only[Rw.rng] at *; omega) ?_
  refine ah.heap (S.MH p r (l.getD i default) _) ?_
  rintro t hp ⟨rfl,rfl⟩
  refine⟨.bool _,hRP p r,rfl,rfl,?_⟩
  refine⟨fun h4=>?_,fun h4=>?_⟩
  ·conv=>whnf
   rw[h4] at hall
   exact kN.same (nx:=8) rfl ⟨rfl,rfl,trivial⟩ rfl rfl ⟨by rw[hall]; rfl,rfl⟩
  ·conv=>whnf
   refine .mk (by simp only[okI] at *; omega) ?_
   conv=>whnf
   rw[h4] at hall
   refine⟨i+1,⟨by omega,hall⟩,by omega,⟨⟨_,rfl,rfl⟩,trivial⟩,?_,rfl⟩
   repeat' (first|exact trivial|exact⟨_,rfl,rfl⟩|constructor)
 ·conv=>whnf
  have hi':l.length<=i:=by simpa using h3
  rw[List.drop_eq_nil_of_le hi'] at hall
  exact kN.same (nx:=8) rfl ⟨rfl,rfl,trivial⟩ rfl rfl ⟨by rw[hall]; rfl,rfl⟩
theorem Yx{s:Str}{l:List Rule}{i:Nat}:decide (0<=DZ s l i)=l.any fun x=>x.name==s:=by
 have: ∀ {l:List Rule} {i:Nat},0<=DZ s l i↔(l.any fun x=>x.name==s)=true:=by
  intro l
  induction l with
  |nil=>intro i; simp[DZ]
  |cons x r ih =>
   intro i
   rw[List.any_cons,Bool.or_eq_true,<- ih (i:=i+1)]
   show(0:Int)<=(bif x.name==s then(i:Int) else DZ s r (i+1))↔_
   generalize (x.name==s)=b
   cases b<;>simp
 rw[Bool.eq_iff_iff,decide_eq_true_eq]; exact this
theorem S.MI(p:aS)(r:Rule)(l:List Rule)(f:Bool)(hl:l.length<2^30)(n:Nat):aP Tryz.prog 102 (V.aX [.row 19 f (.rules l),.fn 103 [.ptr 7 0 0]]) (hRP p r).aj n (fun t hp=>t= .bool (l.any fun x=>x.name==r.name)/\hp=(hRP p r).aj):=by
 refine rY.of (nx:=8) Bd.eP (by simp) ⟨_,_,rfl,rfl⟩ rfl rfl ?_
 refine ah.heap (S.Vq p r l f hl _) ?_
 rintro t hp ⟨rfl,rfl⟩
 refine⟨.int _,hRP p r,rfl,rfl,?_⟩
 exact kN.same (nx:=8) rfl ⟨rfl,rfl,trivial⟩ rfl rfl ⟨by rw[<- Yx (i:=0)]; rfl,rfl⟩
theorem ah.mkRow{P:Program}{f:FuncId}{args:List V}{h:Hz}{n ty k:Nat}{r:Rw}{K:V->Hz->Prop}{KW:Nat->V->Hz->Prop}(H:wF P f (V.aX args) (fun n=>.own n) (some ⟨ty,k,r.aX⟩))(hK:K (.own n) ((n,some (.row ty k r []))::h)):ah P false none f args h n K KW :=
 ah.heap (wF.frame H _ _) (by rintro t hp ⟨rfl,rfl⟩; exact⟨.own n,_,rfl,by rw[aY]; simp[gu,OV.aF,V.aX],hK⟩)
theorem S.Concat(a b c:List Str)(n:Nat)(h0:0<a.length)(ha:a.length<2^20)(hb:b.length<2^20)(hc:c.length<2^20) :
  aP Tryz.prog 99 (V.aX [.yQ 0 false [.row 0 false (.strs a),.row 0 false (.strs b),.row 0 false (.strs c)]]) no n (fun t hp=>t= .own n/\hp=Hz.aj [(n,some (.row 9 0 (.strs (a++b++c)) []))]):=by
 refine rY.of (nx:=0) (h0:=[]) Bd.iY (by simp) ⟨_,_,rfl,rfl⟩ rfl rfl ?_
 refine aQ.times 4 rfl ?_
 refine Fork.mk (fun _=>?_) (fun q=>absurd (q.symm.trans (rfl)) Bool.false_ne_true)
 repeat(refine VC.mk (by first|(omega)|(simp only[okI] at *; omega)) ?_)
 refine Fork.mk (fun q=>absurd (q.symm.trans (decide_eq_false (by omega))).symm Bool.false_ne_true) (fun _=>?_)
 refine .mk (by simp only[okI] at *; omega) ?_
 refine Fork.mk (fun _=>?_) (fun q=>absurd (q.symm.trans (rfl)) Bool.false_ne_true)
 repeat(refine VC.mk (by first|(omega)|(simp only[okI] at *; omega)) ?_)
 refine Fork.mk (fun q=>absurd (q.symm.trans (decide_eq_false (by omega))).symm Bool.false_ne_true) (fun _=>?_)
 refine .mk (by simp only[okI] at *; omega) ?_
 refine Fork.mk (fun _=>?_) (fun q=>absurd (q.symm.trans (rfl)) Bool.false_ne_true)
 repeat(refine VC.mk (by first|(omega)|(simp only[okI] at *; omega)) ?_)
 refine Fork.mk (fun q=>absurd (q.symm.trans (decide_eq_false (by omega))).symm Bool.false_ne_true) (fun _=>?_)
 refine .mk (by simp only[okI] at *; omega) ?_
 refine Fork.mk (fun q=>absurd (q.symm.trans (rfl)).symm Bool.false_ne_true) (fun _=>?_)
 conv=>whnf
 have e:(0+(a.length:Int)+b.length+c.length)=((a.length+b.length+c.length:Nat):Int):=by omega
 rw[e]
 refine ah.mkRow (r:=.strs []) (S.Grow (a.length+b.length+c.length) (by omega) (by omega)) ?_
 refine aQ.times 4 rfl ?_
 refine Fork.mk (fun _=>?_) (fun q=>absurd (q.symm.trans (rfl)) Bool.false_ne_true)
 repeat(refine VC.mk (by first|(omega)|(simp only[kQ,nO,Rw.len,List.length_nil]; omega)|(simp only[okI] at *; omega)) ?_)
 refine Fork.mk (fun _=>?_) (fun q=>absurd (q.symm.trans (rfl)) Bool.false_ne_true)
 repeat(refine VC.mk (by first|(omega)|(simp only[kQ,nO,Rw.len,List.length_append,List.length_nil]; omega)|(simp only[okI] at *; omega)) ?_)
 refine Fork.mk (fun _=>?_) (fun q=>absurd (q.symm.trans (rfl)) Bool.false_ne_true)
 repeat(refine VC.mk (by first|(omega)|(simp only[kQ,nO,Rw.len,List.length_append,List.length_nil]; omega)|(simp only[okI] at *; omega)) ?_)
 refine Fork.mk (fun q=>absurd (q.symm.trans (rfl)).symm Bool.false_ne_true) (fun _=>?_)
 refine kN.one (c:=n) (o:=.row 9 0 (.strs (a++b++c)) []) (t:=.own n) rfl rfl rfl nofun (.inr rfl) rfl (.eq rfl) ⟨rfl,rfl⟩
theorem S.aaj(a b c:List Str)(h0:0<a.length)(ha:a.length<2^20)(hb:b.length<2^20)(hc:c.length<2^20) :
  wF Tryz.prog 99 (V.aX [.yQ 0 false [.row 0 false (.strs a),.row 0 false (.strs b),.row 0 false (.strs c)]]) (fun n=>.own n) (some ⟨9,0,(Rw.strs (a++b++c)).aX⟩):=by
 refine⟨rfl,fun _=>rfl,(fun ob h=>by cases h; rw[gY]; intro t ht; obtain⟨x,_,rfl⟩:=List.mem_map.1 ht; rfl),(fun ob h=>by cases h; exact fun e=>absurd e (by decide:(0:Nat)≠eU)),fun n=>(S.Concat a b c n h0 ha hb hc).mono ?_⟩
 rintro t hp ⟨rfl,rfl⟩
 refine⟨rfl,?_⟩
 rw[aY]; simp[gu,OV.aF,V.aX]; rfl
theorem ah.KO{P:Program}{f:FuncId}{args:List V}{ts:List T}{h:Hz}{n ty k:Nat}{r:Rw}{K:V->Hz->Prop}{KW:Nat->V->Hz->Prop}(H:wF P f ts (fun n=>.own n) (some ⟨ty,k,r.aX⟩))(hs:T.dJ (fun _=>True) h.aj ts (V.aX args))(hh:T.qN r.aX=true)(hK:K (.own n) ((n,some (.row ty k r []))::h)):ah P false none f args h n K KW :=
 ⟨.inl (wF.lend H hs rfl (fun _ e=>by cases e; exact hh) ⟨.own n,_,rfl,by rw[aY]; simp[gu,OV.aF,V.aX],(fun e=>by cases e),hK⟩)⟩
theorem RG{h:Hz}{j ty:Nat}{Z:Nat->Prop}{l:List V}(hz:Z j)(q:h.get j=some (.row ty 0 .nil l))(hf:V.bZ l=true):T.sub Z h.aj (V.yQ 0 false l).aI (V.own j).aI:=by
 show T.sub Z h.aj (.sl 0 false (V.aX l)) (.own j)
 simp only[T.sub]
 exact⟨trivial,hz,V.gJ l hf,by decide,ty,by rw[aH q]; rfl⟩
theorem Vr{l:List Str}:T.qN (Rw.strs l).aX=true:=by
 show T.qN (l.map eS)=true
 induction l with
 |nil=>rfl
 |cons s r ih=>simp only[List.map_cons,T.qN,ih]; rfl
theorem aar{h:Hz}{j i ty:Nat}{Z:Nat->Prop}{l:List Str}(hz:Z j)(q:h.get j=some (.row ty 0 (.strs l) []))(hi:i<=l.length):T.sub Z h.aj (V.row 0 false (.strs (l.take i))).aI (V.ru j 0 i).aI:=by
 show T.sub Z h.aj (.sl 0 false ((l.take i).map eS)) (.ru j 0 i)
 simp only[T.sub]
 refine⟨trivial,hz,?_,by decide,ty,l.map eS,?_,by simpa using hi,by simp[List.map_take]⟩
 ·rw[gY]; intro t ht; obtain⟨x,_,rfl⟩:=List.mem_map.1 ht; rfl
 ·rw[aH q]; simp[OV.aF,Rw.aX,V.aX]
def allNames(p:aS):List Str:=p.states++p.messages++p.values
def tN(l:List Str)(i:Nat):Bool:= !(validName (l.getD i []))||(l.take i).any fun x=>l.getD i []==x
def uO(p:aS):Int:=bif (List.range (allNames p).length).any (tN (allNames p)) then 2 else 0
theorem zQ{n:Nat}{f:Nat->Bool}:(List.range n).any f=true↔ ∃ i,i<n/\f i=true:=by
 simp[List.any_eq_true]
theorem S.nD(p:aS)(h0:0<p.states.length)(h1:p.states.length<2^20)(h2:p.messages.length<2^20)(h3:p.values.length<2^20):ak Tryz.prog 67 [.dat (.eu p)] (.int (uO p)):=by
 have hlen:(allNames p).length<2^30:=by simp only[allNames,List.length_append]; omega
 refine ak.of Bd.nD (by simp) rfl rfl ?_
 refine ah.KO (r:=.strs (allNames p)) (S.aaj p.states p.messages p.values h0 h1 h2 h3) (And.intro (RG (ty:=22) trivial rfl rfl) trivial) Vr ?_
 refine aQ.same [3,14,15] (fun i:Nat=>[(16,.int i)]) (fun i=>i<=(allNames p).length/\(List.range i).any (tN (allNames p))=false) (fun i=>(allNames p).length-i) 0 rfl (by decide) rfl (fun _=>rfl) ⟨Nat.zero_le _,rfl⟩ ⟨⟨_,rfl,rfl⟩,trivial⟩ ?_
 refine⟨rfl,?_⟩
 rintro i ⟨hi,hall⟩
 refine⟨fun h4=>?_,fun h4=>?_⟩
 ·have hi':i<(allNames p).length:=by simpa using h4
  repeat(refine VC.mk (by simp only[Rw.rng] at *; omega) ?_)
  refine ah.pure (S.fP ((allNames p).getD i [])) rfl ?_
  repeat(refine VC.mk (by first|exact fun h=>⟨h,h⟩|(intro h; (repeat' apply And.intro)<;>first|exact h|omega|(simp only[Rw.oK]; omega)|(simp only[Rw.rng]; omega))) ?_)
  refine ah.Rn (fun _=>S.slices_Contains_string ((allNames p).take i) ((allNames p).getD i []) false (by rw[List.length_take]; omega)) (fun _=>And.intro (aar (ty:=9) trivial rfl (by omega)) (And.intro (aB _) trivial)) rfl rfl ?_
  refine .mk (by intro h; rw[h]; rfl) ?_
  refine⟨fun h5=>?_,fun h5=>?_⟩
  ·conv=>whnf
   refine au.int ?_
   rw[uO,zQ.2 ⟨i,hi',h5⟩]; rfl
  ·conv=>whnf
   refine .mk (by simp only[okI] at *; omega) ?_
   refine⟨i+1,⟨by omega,?_⟩,by omega,⟨⟨_,rfl,rfl⟩,trivial⟩,?_,rfl⟩
   ·rw[List.range_succ,List.any_append,hall]
    simp only[List.any_cons,List.any_nil,Bool.or_false,Bool.false_or]; exact h5
   ·repeat' (first|exact trivial|exact⟨_,rfl,rfl⟩|constructor)
 ·have hi':(allNames p).length<=i:=by simpa using h4
  have e:i=(allNames p).length:=Nat.le_antisymm hi hi'
  subst e
  exact au.int (by rw[uO,hall]; rfl)
theorem ah.adx{P:Program}{f:FuncId}{args:List V}{h:Hz}{hp0:Hp}{n:Nat}{K:V->Hz->Prop}{KW:Nat->V->Hz->Prop}{post:T->Hp->Prop}(S:aP P f (V.aX args) hp0 n post)(e:h.aj=hp0)(hK: ∀ t hp,post t hp-> ∃ v h',t=v.aI/\hp=Hz.aj h'/\K v h'):ah P false none f args h n K KW:=by
 subst e; exact ah.heap S hK
theorem Pg{i:Nat}{a b:Option OV}{r:Hz}:Hz.aj ((i,a)::(i,b)::r)=Hz.aj ((i,a)::r):=funext fun j=>by
 simp only[Hz.aj,Hz.get]; cases Nat.beq i j<;>rfl
structure dK(p:aS):Prop where
 states:p.states.length<2^20
 messages:p.messages.length<2^20
 values:p.values.length<2^20
 bY:p.bY.length<2^30
 initial:p.initial.length<2^30
 leader:p.leader.length<2^30
 rules:p.rules.length<2^30
 rule: ∀ i,wG (p.rules.getD i default)
 pG:(p.rules.flatMap Rule.guards).length<2^30
def qJ(p:aS)(i:Nat):Bool:= !(validName (p.rules.getD i default).name)||(p.rules.take i).any fun x=>x.name==(p.rules.getD i default).name
def pK(p:aS)(i:Nat):Bool:= !(sV (p.rules.getD i default).kind p.topology)||kJ (p.rules.getD i default) p.topology
def vK(p:aS)(r:Rule):Int:=aU [cu r.fr p.states.length,cu r.to p.states.length]
def Yj(p:aS)(r:Rule):Bool:=decide (r.pos<0)||decide (r.pos>2)||(r.pos !=0&&p.topology==3)
def gG(p:aS)(i:Nat):Int :=
 let r:=p.rules.getD i default
 let n:Int:=p.states.length
 bif qJ p i then 2 else bif pK p i then 6 else bif vK p r !=0 then vK p r else
 bif r.kind==1 then aU [wE p r.guards,dX r.ex n,dX r.all n,jy p r.read,jy p r.write,dX r.send p.messages.length] else
 bif r.kind==2 then aU [cu r.jk n,cu r.CO n,jy p r.read,jy p r.write] else
 bif r.kind==3 then aU [CS r.response n,jy p r.read,jy p r.write] else
 bif r.kind==4 then aU [dX r.left n,dX r.right n,dX r.parent n,eG (Yj p r) 1] else
 bif p.topology==4 then aU [cu r.jk n,cu r.CO n,eG (decide (r.direction<3)||decide (r.direction>4)) 1]
 else aU [cu r.jk n,cu r.CO n,eG (decide (r.direction<1)||decide (r.direction>2)) 1]
theorem S.jG(p:aS)(i:Nat)(hi:i<p.rules.length)(hp:dK p):ak Tryz.prog 72 [.dat (.eu p),.int i] (.int (gG p i)):=by
 have hr:=hp.rule i
 have hp1:=hp.rules
 have hp2:=hp.states
 have hp3:=hp.messages
 refine ak.of Bd.jG (by simp) rfl rfl ?_
 repeat(refine VC.mk (by first|(simp only[Rw.oK]; omega)|(simp only[Rw.rng] at *; omega)) ?_)
 refine ah.adx (S.MI p (p.rules.getD i default) (p.rules.take i) false (by rw[List.length_take]; omega) _) Pg ?_
 rintro t hp' ⟨rfl,rfl⟩
 refine⟨.bool _,hRP p (p.rules.getD i default),rfl,rfl,?_⟩
 refine ah.pure (S.fP (p.rules.getD i default).name) rfl ?_
 refine .mk (by intro h; rw[h]; rfl) ?_
 refine⟨fun h1=>?_,fun h1=>?_⟩
 ·conv=>whnf
  exact au.int (by rw[gG,show qJ p i=true from h1]; rfl)
 ·conv=>whnf
  refine ah.pure (S.oG (p.rules.getD i default).kind p.topology) rfl ?_
  repeat(refine VC.mk (by first|exact id|exact fun h=>⟨h,h⟩) ?_)
  refine ah.iD (fun _=>S.kY (p.rules.getD i default) p.topology hr) rfl ?_
  refine .mk (by intro h; rw[h]; rfl) ?_
  refine⟨fun h2=>?_,fun h2=>?_⟩
  ·conv=>whnf
   exact au.int (by rw[gG,show qJ p i=false from h1,show pK p i=true from h2]; rfl)
  ·conv=>whnf
   refine ah.pure (S.bV (p.rules.getD i default).fr p.states.length) rfl ?_
   refine ah.pure (S.bV (p.rules.getD i default).to p.states.length) rfl ?_
   refine ah.pure (S.bP [cu (p.rules.getD i default).fr p.states.length,cu (p.rules.getD i default).to p.states.length] true (show 2<2^40 by decide)) rfl ?_
   refine⟨fun h3=>?_,fun h3=>?_⟩
   ·conv=>whnf
    exact au.int (by rw[gG,show qJ p i=false from h1,show pK p i=false from h2,show(vK p (p.rules.getD i default) !=0)=true from h3]; rfl)
   ·conv=>whnf
    refine⟨fun h4=>?_,fun h4=>?_⟩
    ·conv=>whnf
     refine ah.pure (S.lV p (p.rules.getD i default).guards false (by have:=hr.guards; omega)) rfl ?_
     refine ah.pure (S.dO (p.rules.getD i default).ex p.states.length false (by have:=hr.ex; omega)) rfl ?_
     refine ah.pure (S.dO (p.rules.getD i default).all p.states.length false (by have:=hr.all; omega)) rfl ?_
     refine ah.pure (S.fF p (p.rules.getD i default).read) rfl ?_
     refine ah.pure (S.fF p (p.rules.getD i default).write) rfl ?_
     refine ah.pure (S.dO (p.rules.getD i default).send p.messages.length false (by have:=hr.send; omega)) rfl ?_
     refine ah.pure (S.bP [wE p (p.rules.getD i default).guards,dX (p.rules.getD i default).ex p.states.length,dX (p.rules.getD i default).all p.states.length,jy p (p.rules.getD i default).read,jy p (p.rules.getD i default).write,dX (p.rules.getD i default).send p.messages.length] true (show 6<2^40 by decide)) rfl ?_
     exact au.int (by rw[gG,show qJ p i=false from h1,show pK p i=false from h2,show(vK p (p.rules.getD i default) !=0)=false from h3,h4]; rfl)
    ·conv=>whnf
     refine⟨fun h5=>?_,fun h5=>?_⟩
     ·conv=>whnf
      refine ah.pure (S.bV (p.rules.getD i default).jk p.states.length) rfl ?_
      refine ah.pure (S.bV (p.rules.getD i default).CO p.states.length) rfl ?_
      refine ah.pure (S.fF p (p.rules.getD i default).read) rfl ?_
      refine ah.pure (S.fF p (p.rules.getD i default).write) rfl ?_
      refine ah.pure (S.bP [cu (p.rules.getD i default).jk p.states.length,cu (p.rules.getD i default).CO p.states.length,jy p (p.rules.getD i default).read,jy p (p.rules.getD i default).write] true (show 4<2^40 by decide)) rfl ?_
      exact au.int (by rw[gG,show qJ p i=false from h1,show pK p i=false from h2,show(vK p (p.rules.getD i default) !=0)=false from h3,h4,h5]; rfl)
     ·conv=>whnf
      refine⟨fun h6=>?_,fun h6=>?_⟩
      ·conv=>whnf
       refine ah.pure (S.jH (p.rules.getD i default).response p.states.length false (by have:=hr.response; omega)) rfl ?_
       refine ah.pure (S.fF p (p.rules.getD i default).read) rfl ?_
       refine ah.pure (S.fF p (p.rules.getD i default).write) rfl ?_
       refine ah.pure (S.bP [CS (p.rules.getD i default).response p.states.length,jy p (p.rules.getD i default).read,jy p (p.rules.getD i default).write] true (show 3<2^40 by decide)) rfl ?_
       exact au.int (by rw[gG,show qJ p i=false from h1,show pK p i=false from h2,show(vK p (p.rules.getD i default) !=0)=false from h3,h4,h5,h6]; rfl)
      ·conv=>whnf
       refine⟨fun h7=>?_,fun h7=>?_⟩
       ·conv=>whnf
        repeat(refine VC.mk (by first|exact id|(intro h; rw[h]; rfl)|(intro h; simp_all; done)) ?_)
        refine ah.pure (S.dO (p.rules.getD i default).left p.states.length false (by have:=hr.left; omega)) rfl ?_
        refine ah.pure (S.dO (p.rules.getD i default).right p.states.length false (by have:=hr.right; omega)) rfl ?_
        refine ah.pure (S.dO (p.rules.getD i default).parent p.states.length false (by have:=hr.parent; omega)) rfl ?_
        refine ah.pure (S.bU (Yj p (p.rules.getD i default)) 1) rfl ?_
        refine ah.pure (S.bP [dX (p.rules.getD i default).left p.states.length,dX (p.rules.getD i default).right p.states.length,dX (p.rules.getD i default).parent p.states.length,eG (Yj p (p.rules.getD i default)) 1] true (show 4<2^40 by decide)) rfl ?_
        exact au.int (by rw[gG,show qJ p i=false from h1,show pK p i=false from h2,show(vK p (p.rules.getD i default) !=0)=false from h3,h4,h5,h6,h7]; rfl)
       ·conv=>whnf
        refine⟨fun h8=>?_,fun h8=>?_⟩
        ·conv=>whnf
         refine ah.pure (S.bV (p.rules.getD i default).jk p.states.length) rfl ?_
         refine ah.pure (S.bV (p.rules.getD i default).CO p.states.length) rfl ?_
         repeat(refine VC.mk (by first|exact id|exact fun h=>⟨h,h⟩|(intro h; rw[h]; rfl)) ?_)
         refine ah.pure (S.bU (decide ((p.rules.getD i default).direction<3)||decide ((p.rules.getD i default).direction>4)) 1) rfl ?_
         refine ah.pure (S.bP [cu (p.rules.getD i default).jk p.states.length,cu (p.rules.getD i default).CO p.states.length,eG (decide ((p.rules.getD i default).direction<3)||decide ((p.rules.getD i default).direction>4)) 1] true (show 3<2^40 by decide)) rfl ?_
         exact au.int (by rw[gG,show qJ p i=false from h1,show pK p i=false from h2,show(vK p (p.rules.getD i default) !=0)=false from h3,h4,h5,h6,h7,h8]; rfl)
        ·conv=>whnf
         refine ah.pure (S.bV (p.rules.getD i default).jk p.states.length) rfl ?_
         refine ah.pure (S.bV (p.rules.getD i default).CO p.states.length) rfl ?_
         repeat(refine VC.mk (by first|exact id|exact fun h=>⟨h,h⟩|(intro h; rw[h]; rfl)) ?_)
         refine ah.pure (S.bU (decide ((p.rules.getD i default).direction<1)||decide ((p.rules.getD i default).direction>2)) 1) rfl ?_
         refine ah.pure (S.bP [cu (p.rules.getD i default).jk p.states.length,cu (p.rules.getD i default).CO p.states.length,eG (decide ((p.rules.getD i default).direction<1)||decide ((p.rules.getD i default).direction>2)) 1] true (show 3<2^40 by decide)) rfl ?_
         exact au.int (by rw[gG,show qJ p i=false from h1,show pK p i=false from h2,show(vK p (p.rules.getD i default) !=0)=false from h3,h4,h5,h6,h7,h8]; rfl)
def wC(g:yM):List yM->Nat->Int
 |[],_=> -1
 |x::r,i=>bif g==x then(i:Int) else wC g r (i+1)
theorem OY{g:yM}{l:List yM}{i:Nat}:decide (0<=wC g l i)=l.any fun x=>g==x:=by
 have: ∀ {l:List yM} {i:Nat},0<=wC g l i↔(l.any fun x=>g==x)=true:=by
  intro l
  induction l with
  |nil=>intro i; simp[wC]
  |cons x r ih =>
   intro i
   rw[List.any_cons,Bool.or_eq_true,<- ih (i:=i+1)]
   show(0:Int)<=(bif g==x then(i:Int) else wC g r (i+1))↔_
   generalize (g==x)=b
   cases b<;>simp
 rw[Bool.eq_iff_iff,decide_eq_true_eq]; exact this
theorem S.Yy(l:List yM)(g:yM)(f:Bool)(hl:l.length<2^40):ak Tryz.prog 129 [.row 7 f (.pG l),.dat (.Po g)] (.int (wC g l 0)):=by
 refine ak.of Bd.dW (by simp) rfl rfl ?_
 refine aQ.same [0,3,6,7] (fun i:Nat=>[(8,.int i)]) (fun i=>i<=l.length/\wC g l 0=wC g (l.drop i) i) (fun i=>l.length-i) 0 rfl (by decide) rfl (fun _=>rfl) ⟨by omega,by simp⟩ ⟨⟨_,rfl,rfl⟩,trivial⟩ ?_
 refine⟨rfl,?_⟩
 rintro i ⟨hi,hall⟩
 refine⟨fun h3=>?_,fun h3=>?_⟩
 ·have hi':i<l.length:=by simpa using h3
  rw[aZ default hi'] at hall
  simp only[wC] at hall
  refine .mk (by simp only[Rw.rng] at *; omega) ?_
  refine⟨fun h4=>?_,fun h4=>?_⟩
  ·conv=>whnf
   refine au.int ?_
   have h4':(g==l.getD i default)=true:=h4
   rw[hall,h4']; rfl
  ·conv=>whnf
   refine .mk (by simp only[okI] at *; omega) ?_
   refine⟨i+1,⟨by omega,?_⟩,by omega,⟨⟨_,rfl,rfl⟩,trivial⟩,?_,rfl⟩
   ·have h4':(g==l.getD i default)=false:=h4
    rw[hall,h4']; rfl
   ·repeat' (first|exact trivial|exact⟨_,rfl,rfl⟩|constructor)
 ·conv=>whnf
  refine au.int ?_
  have hi':l.length<=i:=by simpa using h3
  rw[hall,List.drop_eq_nil_of_le hi']; rfl
theorem S.Ph(l:List yM)(g:yM)(f:Bool)(hl:l.length<2^40):ak Tryz.prog 110 [.row 7 f (.pG l),.dat (.Po g)] (.bool (l.any fun x=>g==x)):=by
 refine ak.of Bd.dH (by simp) rfl rfl ?_
 refine ah.pure (S.Yy l g f hl) rfl ?_
 exact au.bool OY.symm
theorem Yg{h:Hz}{j:Nat}{Z:Nat->Prop}{l:List yM}(hz:Z j)(q:h.get j=some (.row 161 7 (.pG l) [])):T.sub Z h.aj (V.row 7 false (.pG l)).aI (V.own j).aI:=by
 show T.sub Z h.aj (.sl 7 false (l.map Ou)) (.own j)
 simp only[T.sub]
 refine⟨trivial,hz,?_,by decide,161,?_⟩
 ·rw[gY]; intro t ht; obtain⟨x,_,rfl⟩:=List.mem_map.1 ht; rfl
 ·have:=aH q
  rw[this]; simp[OV.aF,Rw.aX,V.aX]
theorem zJ{α β:Type}{f:β->α->β}{b:β}{l:List α}{i:Nat}{d:α}(h:i<l.length):(l.take (i+1)).foldl f b=f ((l.take i).foldl f b) (l.getD i d):=by
 rw[List.take_add_one,List.foldl_append]
 simp[List.getElem?_eq_getElem h]
theorem au.adv{h:Hz}{j:Nat}{l:List yM}(q:h.get j=some (.row 161 7 (.pG l) [])):au (.row 7 false (.pG l)) (.own j) h:=⟨Yg trivial q⟩
def FN(acc:List yM)(g:yM):List yM:=bif acc.any (fun x=>g==x) then acc else acc++[g]
def xJ(l:List Rule):List yM:=(l.flatMap Rule.guards).foldl FN []
theorem Yz{acc:List yM}{g:yM}:(FN acc g).length<=acc.length+1:=by
 unfold FN; cases acc.any (fun x=>g==x)<;>simp
theorem Pj: ∀ {l acc:List yM},(l.foldl FN acc).length<=acc.length+l.length:=by
 intro l
 induction l with
 |nil=>intro acc; simp
 |cons g r ih =>
  intro acc
  have:=ih (acc:=FN acc g)
  have h2:=Yz (acc:=acc) (g:=g)
  simp only[List.foldl_cons,List.length_cons]; omega
abbrev rowT(l:List yM):OV:=.row 161 7 (.pG l) []
def xK(p:aS)(i k:Nat):List yM:=((p.rules.getD i default).guards.take k).foldl FN (xJ (p.rules.take i))
theorem OZ(p:aS)(hp:dK p)(i k:Nat)(_hi:i<p.rules.length):(xK p i k).length<2^31:=by
 have h1:=Pj (l:=(p.rules.getD i default).guards.take k) (acc:=xJ (p.rules.take i))
 have h2:=Pj (l:=(p.rules.take i).flatMap Rule.guards) (acc:=[])
 have h3:=(hp.rule i).guards
 have h4:((p.rules.take i).flatMap Rule.guards).length<=(p.rules.flatMap Rule.guards).length:=by
  conv=>rhs; rw[<- List.take_append_drop i p.rules,List.flatMap_append,List.length_append]
  omega
 have h5:=hp.pG
 have h6:((p.rules.getD i default).guards.take k).length<=(p.rules.getD i default).guards.length:=by simp[List.length_take]; omega
 unfold xK
 unfold xJ at h1 ⊢
 simp only[List.length_nil,Nat.zero_add] at h2
 omega
theorem KE(p:aS){i:Nat}(hi:i<p.rules.length):xJ (p.rules.take (i+1))=xK p i (p.rules.getD i default).guards.length:=by
 unfold xK
 rw[List.take_of_length_le (Nat.le_refl _)]
 unfold xJ
 rw[List.take_add_one,List.flatMap_append,List.foldl_append]
 simp[List.getElem?_eq_getElem hi]
theorem S.jd(p:aS)(hp:dK p):ak Tryz.prog 73 [.dat (.eu p)] (.row 7 false (.pG (xJ p.rules))):=by
 have hp1:=hp.rules
 refine ak.of Bd.jd (by simp) rfl rfl ?_
 refine aQ.nil 3 161 7 (by rfl) rfl rfl rfl ?_
 refine aQ.objs 1 [9,10] (fun i:Nat=>[(11,.int i),(3,.own 0)]) (fun i=>[(0,rowT (xJ (p.rules.take i)))]) (fun i=>i<=p.rules.length) (fun i=>p.rules.length-i) 0 [7] rfl (by decide) (fun _=>rfl) (Nat.zero_le _) ?_ ?_ ?_
 ·exact(sR rfl)
 ·exact⟨rQ rfl rfl,trivial⟩
 refine⟨(sR rfl),rfl,?_⟩
 rintro i hi
 refine⟨fun h3=>?_,fun h3=>?_⟩
 ·have hi':i<p.rules.length:=by simpa using h3
  refine .mk (by simp only[Rw.rng] at *; first|omega|(simp_all; done)|(simp_all; omega)) ?_
  refine aQ.objs 1 [9,10,11,16,17] (fun k:Nat=>[(18,.int k),(3,.own 0)]) (fun k=>[(0,rowT (xK p i k))]) (fun k=>k<=(p.rules.getD i default).guards.length) (fun k=>(p.rules.getD i default).guards.length-k) 0 [0] rfl (by decide) (fun _=>rfl) (Nat.zero_le _) ?_ ?_ ?_
  ·exact(sR rfl)
  ·exact⟨rQ rfl rfl,trivial⟩
  refine⟨(sR rfl),rfl,?_⟩
  rintro k hk
  have hacc:=OZ p hp i k hi'
  have hg:=(hp.rule i).guards
  refine⟨fun h4=>?_,fun h4=>?_⟩
  ·have hk':k<(p.rules.getD i default).guards.length:=by simpa using h4
   have hst:xK p i (k+1)=FN (xK p i k) ((p.rules.getD i default).guards.getD k default):=zJ hk'
   refine .mk (by simp only[Rw.rng] at *; first|omega|(simp_all; done)|(simp_all; omega)) ?_
   refine ah.lend (S.Ph (xK p i k) ((p.rules.getD i default).guards.getD k default) false (by omega)) (And.intro (Yg trivial rfl) (And.intro (aB _) trivial)) rfl rfl ?_
   refine⟨fun h5=>?_,fun h5=>?_⟩
   ·conv=>whnf
    repeat(refine VC.mk (by first|(show((xK p i k).length+(0+1))*48<=140737488355328/\(xK p i k).length+(0+1)<=1152921504606846976; omega)|(simp only[okI] at *; first|omega|(simp_all; done)|(simp_all; omega))) ?_)
    have h5':((xK p i k).any fun x=>(p.rules.getD i default).guards.getD k default==x)=false:=by simpa using h5
    refine⟨k+1,[13],by omega,by omega,(sR rfl),(sR rfl),⟨rfl,nofun,rfl,rfl,rfl,_,rfl,rfl,rfl,dD.of_eq ?_⟩,trivial⟩
    rw[hst,FN,h5']
    rfl
   ·conv=>whnf
    refine .mk (by simp only[okI] at *; first|omega|(simp_all; done)|(simp_all; omega)) ?_
    conv=>whnf
    have h5':((xK p i k).any fun x=>(p.rules.getD i default).guards.getD k default==x)=true:=by simpa using h5
    refine⟨k+1,[0],by omega,by omega,(sR rfl),(sR rfl),⟨rfl,nofun,rfl,rfl,rfl,_,rfl,rfl,rfl,dD.of_eq ?_⟩,trivial⟩
    rw[hst,FN,h5']; rfl
  ·have hk':(p.rules.getD i default).guards.length<=k:=by simpa using h4
   have e:k=(p.rules.getD i default).guards.length:=Nat.le_antisymm hk hk'
   subst e
   refine .mk (by simp only[okI] at *; first|omega|(simp_all; done)|(simp_all; omega)) ?_
   refine⟨i+1,[0],by omega,by omega,(sR rfl),(sR rfl),⟨rfl,nofun,rfl,rfl,rfl,_,rfl,rfl,rfl,dD.of_eq ?_⟩,trivial⟩
   rw[KE p hi']
 ·have hi':p.rules.length<=i:=by simpa using h3
  rw[List.take_of_length_le hi']
  exact au.adv rfl
def sU(p:aS):Bool:=decide (p.topology<1)||decide (p.topology>4)||decide (p.fault<0)||decide (p.fault>3)
def uH(p:aS):Bool:=decide ((p.states.length:Int)>6)||decide ((p.messages.length:Int)>3)||decide ((p.values.length:Int)>3)||decide ((p.bY.length:Int)>4)||decide ((p.rules.length:Int)>8)
def O1(p:aS):Bool:=(!(p.topology==1)&&(decide ((p.messages.length:Int)>0)||decide ((p.values.length:Int)>0)||decide ((p.bY.length:Int)>0)||p.fault !=0))||((p.topology==1)&&decide ((p.leader.length:Int)>0))
def wV(p:aS):Int:=aU [dX p.initial p.states.length,eG ((p.initial.length:Int)==0) 1,dX p.leader p.states.length]
def Bg(p:aS):Int:=aU ((List.range p.rules.length).map (gG p))
def dn(p:aS):Int :=
 bif !(validName p.name) then 2 else bif sU p then 1 else bif (p.states.length:Int)==0 then 1 else bif uH p then 4 else
 bif uO p !=0 then uO p else bif O1 p then 1 else
 bif p.bY.any (fun l=> !(OT l)) then 4 else
 bif wV p !=0 then wV p else
 bif Bg p !=0 then Bg p else eG (decide (((xJ p.rules).length:Int)>3)) 4
theorem IX{n i:Nat}{f:Nat->Int}(h:i<n):((List.range n).drop i).map f=f i::((List.range n).drop (i+1)).map f:=by
 rw[List.drop_eq_getElem_cons (by simpa using h)]; simp
theorem S.iL(p:aS)(hp:dK p):ak Tryz.prog 49 [.dat (.eu p)] (.int (dn p)):=by
 have g1:=hp.states; have g2:=hp.messages; have g3:=hp.values; have g4:=hp.bY; have g5:=hp.initial; have g6:=hp.leader; have g7:=hp.rules
 refine ak.of Bd.iL (by simp) rfl rfl ?_
 refine ah.pure (S.fP p.name) rfl ?_
 refine⟨fun h1=>?_,fun h1=>?_⟩
 ·conv=>whnf
  exact au.int (by rw[dn,h1]; rfl)
 repeat(refine VC.mk (by first|exact id|(intro h; rw[h]; rfl)) ?_)
 refine⟨fun h2=>?_,fun h2=>?_⟩
 ·conv=>whnf
  exact au.int (by rw[dn,h1,show sU p=true from h2]; rfl)
 refine⟨fun h3=>?_,fun h3=>?_⟩
 ·conv=>whnf
  exact au.int (by rw[dn,h1,show sU p=false from h2,h3]; rfl)
 repeat(refine VC.mk (by first|exact id|(intro h; rw[h]; rfl)) ?_)
 refine⟨fun h4=>?_,fun h4=>?_⟩
 ·conv=>whnf
  exact au.int (by rw[dn,h1,show sU p=false from h2,h3,show uH p=true from h4]; rfl)
 conv=>whnf
 have h0:0<p.states.length:=by
  rcases Nat.eq_zero_or_pos p.states.length with e|e
  ·rw[e] at h3; exact absurd h3 (by decide)
  ·exact e
 refine ah.pure (S.nD p h0 g1 g2 g3) rfl ?_
 refine⟨fun h5=>?_,fun h5=>?_⟩
 ·conv=>whnf
  exact au.int (by rw[dn,h1,show sU p=false from h2,h3,show uH p=false from h4,h5]; rfl)
 repeat(refine VC.mk (by first|exact id|(intro h; rw[h]; rfl)|(intro h; simp_all; done)) ?_)
 refine⟨fun h6=>?_,fun h6=>?_⟩
 ·conv=>whnf
  exact au.int (by rw[dn,h1,show sU p=false from h2,h3,show uH p=false from h4,h5,show O1 p=true from h6]; rfl)
 refine aQ.same [1,4,111,112] (fun i:Nat=>[(113,.int i)]) (fun i=>i<=p.bY.length/\(p.bY.take i).any (fun l=> !(OT l))=false) (fun i=>p.bY.length-i) 0 rfl (by decide) rfl (fun _=>rfl) ⟨by omega,by simp⟩ ⟨⟨_,rfl,rfl⟩,trivial⟩ ?_
 refine⟨rfl,?_⟩
 rintro i ⟨hi,hall⟩
 refine⟨fun h7=>?_,fun h7=>?_⟩
 ·have hi':i<p.bY.length:=by simpa using h7
  refine .mk (by simp only[Rw.rng] at *; omega) ?_
  refine ah.pure (S.jv (p.bY.getD i default)) rfl ?_
  refine⟨fun h8=>?_,fun h8=>?_⟩
  ·conv=>whnf
   exact au.int (by rw[dn,h1,show sU p=false from h2,h3,show uH p=false from h4,h5,show O1 p=false from h6,mQ (d:=default) hi' h8]; rfl)
  ·conv=>whnf
   refine .mk (by simp only[okI] at *; omega) ?_
   refine⟨i+1,⟨by omega,?_⟩,by omega,⟨⟨_,rfl,rfl⟩,trivial⟩,?_,rfl⟩
   ·rw[pO (d:=default) hi' hall]; exact h8
   ·repeat' (first|exact trivial|exact⟨_,rfl,rfl⟩|constructor)
 have hi':p.bY.length<=i:=by simpa using h7
 rw[List.take_of_length_le hi'] at hall
 refine ah.pure (S.dO p.initial p.states.length false (by omega)) rfl ?_
 refine ah.pure (S.bU ((p.initial.length:Int)==0) 1) rfl ?_
 refine ah.pure (S.dO p.leader p.states.length false (by omega)) rfl ?_
 refine ah.pure (S.bP [dX p.initial p.states.length,eG ((p.initial.length:Int)==0) 1,dX p.leader p.states.length] true (show 3<2^40 by decide)) rfl ?_
 refine⟨fun h9=>?_,fun h9=>?_⟩
 ·conv=>whnf
  exact au.int (by rw[dn,h1,show sU p=false from h2,h3,show uH p=false from h4,h5,show O1 p=false from h6,hall,show(wV p !=0)=true from h9]; rfl)
 refine aQ.same [1,140,141] (fun i:Nat=>[(142,.int i)]) (fun i=>i<=p.rules.length/\Bg p=aU (((List.range p.rules.length).drop i).map (gG p))) (fun i=>p.rules.length-i) 0 rfl (by decide) rfl (fun _=>rfl) ⟨by omega,by simp[Bg]⟩ ⟨⟨_,rfl,rfl⟩,trivial⟩ ?_
 refine⟨rfl,?_⟩
 rintro i ⟨hi,hr⟩
 refine⟨fun h10=>?_,fun h10=>?_⟩
 ·have hi':i<p.rules.length:=by simpa using h10
  rw[IX hi'] at hr
  simp only[aU] at hr
  refine ah.pure (S.jG p i hi' hp) rfl ?_
  refine⟨fun h11=>?_,fun h11=>?_⟩
  ·conv=>whnf
   have aci:gG p i≠0:=JB h11
   rw[if_neg aci] at hr
   exact au.int (by rw[dn,h1,show sU p=false from h2,h3,show uH p=false from h4,h5,show O1 p=false from h6,hall,show(wV p !=0)=false from h9,hr,h11]; rfl)
  ·conv=>whnf
   refine .mk (by simp only[okI] at *; omega) ?_
   conv=>whnf
   have aci:gG p i=0:=Ce h11
   rw[if_pos aci] at hr
   refine⟨i+1,⟨by omega,hr⟩,by omega,⟨⟨_,rfl,rfl⟩,trivial⟩,?_,rfl⟩
   repeat' (first|exact trivial|exact⟨_,rfl,rfl⟩|constructor)
 have hi':p.rules.length<=i:=by simpa using h10
 rw[List.drop_eq_nil_of_le (by simpa using hi')] at hr
 refine ah.pure (S.jd p hp) rfl ?_
 refine ah.pure (S.bU (decide (((xJ p.rules).length:Int)>3)) 4) rfl ?_
 exact au.int (by rw[dn,h1,show sU p=false from h2,h3,show uH p=false from h4,h5,show O1 p=false from h6,hall,show(wV p !=0)=false from h9,hr]; rfl)
theorem au.eqv{a b:V}{h:Hz}(e:a.aI=b.aI):au a b h:=⟨by rw[e]; exact aB _⟩
def O5(acc:Bool)(r:Rule):Bool:=acc&&(r.kind==1)&&decide (r.fr<r.to)&&((r.ex.length:Int)==0)&&((r.all.length:Int)==0)
def Vj(acc:Bool)(r:Rule):Bool:=acc||decide ((r.all.length:Int)>0)
def sN(p:aS):Bool:=(p.topology==1)&&(p.fault==0)&&((p.messages.length:Int)==0)&&((p.bY.length:Int)==0)
structure Cls where
 Po:Bool
 cover:Bool
 word:Bool
 tree:Bool
 monadic:Bool
def jJ(p:aS):Cls :=
 ⟨(p.topology==1)&&((p.values.length:Int)==0)&&p.rules.foldl O5 true,sN p&& !(p.rules.foldl Vj false),(p.topology==2)||(p.topology==3),p.topology==4,sN p&&decide ((p.states.length:Int)<=4)⟩
def adw(c:Cls):V:=.agg [.bool c.Po,.bool c.cover,.bool c.word,.bool c.tree,.bool c.monadic]
def JA:Cls:=⟨false,false,false,false,false⟩
def EO(p:aS):V:=.fH [adw (bif dn p !=0 then JA else jJ p),.int (dn p)]
theorem S.kE(p:aS)(hp:dK p):ak Tryz.prog 32 [.dat (.eu p)] (EO p):=by
 have g1:=hp.states; have g2:=hp.messages; have g3:=hp.values; have g4:=hp.bY; have g7:=hp.rules
 refine ak.of Bd.kE (by simp) rfl rfl ?_
 refine ah.pure (S.iL p hp) rfl ?_
 refine⟨fun h1=>?_,fun h1=>?_⟩
 ·conv=>whnf
  refine au.eqv ?_
  rw[EO,h1]; rfl
 have h1':dn p=0:=Ce h1
 refine aQ.same [1,2,3,18,19] (fun i:Nat=>[(20,.int i),(5,.bool ((p.rules.take i).foldl O5 true)),(6,.bool ((p.rules.take i).foldl Vj false))]) (fun i=>i<=p.rules.length) (fun i=>p.rules.length-i) 0 rfl (by decide) rfl (fun _=>rfl) (Nat.zero_le _) ⟨⟨_,rfl,rfl⟩,⟨_,rfl,rfl⟩,⟨_,rfl,rfl⟩,trivial⟩ ?_
 refine⟨rfl,?_⟩
 rintro i hi
 have g8:=hp.rule i
 have g9:=g8.ex; have g10:=g8.all
 refine⟨fun h7=>?_,fun h7=>?_⟩
 ·have hi':i<p.rules.length:=by simpa using h7
  repeat(refine VC.mk (by first|exact id|exact fun h=>⟨h,h⟩|(intro h; rw[h]; rfl)|(simp only[okI,Rw.rng] at *; omega)) ?_)
  refine⟨i+1,by omega,by omega,⟨⟨_,rfl,rfl⟩,⟨_,rfl,?_⟩,⟨_,rfl,?_⟩,trivial⟩,?_,rfl⟩
  ·rw[zJ (d:=default) hi']; rfl
  ·rw[zJ (d:=default) hi']; rfl
  ·repeat' (first|exact trivial|exact⟨_,rfl,rfl⟩|constructor)
 have hi':p.rules.length<=i:=by simpa using h7
 rw[List.take_of_length_le hi']
 repeat(refine VC.mk (by first|exact id|(intro h; rw[h]; rfl)) ?_)
 refine au.eqv ?_
 rw[EO,h1']
 rfl
def lD(r:Rule)(t:Int):Bool :=
 bif !(r.kind==1)&&(decide ((r.guards.length:Int)>0)||decide ((r.ex.length:Int)>0)||decide ((r.all.length:Int)>0)||decide ((r.send.length:Int)>0)) then true else
 bif !(r.kind==1)&& !(r.kind==2)&& !(r.kind==3)&&(r.read != -1||r.write != -1) then true else
 bif !(r.kind==2)&& !(r.kind==5)&&(r.jk !=0||r.CO !=0) then true else
 bif (!(r.kind==3)&&decide ((r.response.length:Int)>0))||(!(r.kind==5)&&r.direction !=0) then true else
 bif !(r.kind==4)&&(r.pos !=0||decide ((r.left.length:Int)>0)||decide ((r.right.length:Int)>0)) then true else
 decide ((r.parent.length:Int)>0)&& !((r.kind==4)&&(t==4))
theorem gt0{n:Nat}:decide ((n:Int)>0)= !(n==0):=by
 cases n with
 |zero=>rfl
 |succ n=>rw[decide_eq_true (by omega)]; rfl
theorem aed(a b c d e f g h:Nat):decide ((a:Int)+b+c+d+e+f+g+h>0)=(!(a==0)|| !(b==0)|| !(c==0)|| !(d==0)|| !(e==0)|| !(f==0)|| !(g==0)|| !(h==0)):=by
 rw[Bool.eq_iff_iff]
 simp only[decide_eq_true_eq,Bool.or_eq_true,Bool.not_eq_true',beq_eq_false_iff_ne,ne_eq]
 omega
theorem yT{r:Rule}{t:Int}(h:1<=r.kind/\r.kind<=5):lD r t=kJ r t:=by
 have hk:r.kind=1\/r.kind=2\/r.kind=3\/r.kind=4\/r.kind=5:=by omega
 simp only[lD,kJ,Cc,gt0,aed,bne]
 generalize (r.guards.length==0)=g1
 generalize (r.ex.length==0)=g2
 generalize (r.all.length==0)=g3
 generalize (r.send.length==0)=g4
 generalize (r.response.length==0)=g5
 generalize (r.left.length==0)=g6
 generalize (r.right.length==0)=g7
 generalize (r.parent.length==0)=g8
 generalize (r.read== -1)=g9
 generalize (r.write== -1)=g10
 generalize (r.jk==0)=g11
 generalize (r.CO==0)=g12
 generalize (r.direction==0)=g13
 generalize (r.pos==0)=g14
 rcases hk with hk|hk|hk|hk|hk<;>rw[hk] <;>
  (first
   |(simp; done)
   |(cases (t==4)<;>simp<;>grind)
   |(simp; grind))
end Go.Proofs.YtbigdcimbhgjbaaGreatDoor
