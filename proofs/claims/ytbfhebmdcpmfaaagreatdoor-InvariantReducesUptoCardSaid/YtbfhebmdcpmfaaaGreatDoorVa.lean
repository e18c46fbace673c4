/-
 A part of the proof. No condition.
-/
import Derived.Test.YtbfhebmdcpmfaaaGreatDoorNb
import Derived.Test.YtbfhebmdcpmfaaaGreatDoorLf
namespace Go.Proofs.YtbfhebmdcpmfaaaGreatDoor
open Go.Ab Go.Proofs
set_option maxRecDepth 100000
def eu(b:Bool)(e:Int):Int:=bif b then e else 0
theorem S.bP(b:Bool)(e:Int):ak Tryz.prog 83 [.bool b,.int e] (.int (eu b e)):=by
 refine ak.of Bd.bP (by simp) rfl rfl ?_
 conv=>whnf
 refine⟨fun h=>?_,fun h=>?_⟩
 ·conv=>whnf
  exact au.int (by rw[h]; rfl)
 ·conv=>whnf
  exact au.int (by rw[h]; rfl)
def ou(i n:Int):Bool:=decide (i<0)||decide (i>=n)
def bV(i n:Int):Int:=eu (ou i n) 5
theorem S.bT(i n:Int):ak Tryz.prog 113 [.int i,.int n] (.int (bV i n)):=by
 refine ak.of Bd.bT (by simp) rfl rfl ?_
 conv=>whnf
 repeat(refine VC.mk (by first|exact fun h=>⟨h,h⟩|(intro h; rw[h]; rfl)) ?_; conv=>whnf)
 refine ah.pure (S.bP (ou i n) 5) rfl ?_
 conv=>whnf
 exact au.int rfl
def aQ:List Int->Int
 |[]=>0
 |e::r=>if e=0 then aQ r else e
theorem S.bM(l:List Int)(f:Bool)(hl:l.length<2^40):ak Tryz.prog 81 [.row 0 f (.ints l)] (.int (aQ l)):=by
 refine ak.of Bd.bM (by simp) rfl rfl ?_
 conv=>whnf
 refine aJ.same [5,6] (fun i:Nat=>[(7,.int i)]) (fun i=>i<=l.length/\aQ l=aQ (l.drop i)) (fun i=>l.length-i) 0 rfl (by decide) rfl (fun _=>rfl) ⟨by omega,by simp⟩ ⟨⟨_,rfl,rfl⟩,trivial⟩ ?_
 conv=>whnf
 refine⟨rfl,?_⟩
 rintro i ⟨hi,hall⟩
 conv=>whnf
 refine⟨fun h3=>?_,fun h3=>?_⟩
 ·have hi':i<l.length:=by simpa using h3
  rw[aY 0 hi'] at hall
  simp only[aQ] at hall
  conv=>whnf
  refine .mk (by simp only[Rw.rng] at *; omega) ?_
  conv=>whnf
  refine⟨fun h4=>?_,fun h4=>?_⟩
  ·conv=>whnf
   refine au.int ?_
   have:l.getD i 0≠0:=by simpa using h4
   rw[hall,if_neg this]; rfl
  ·conv=>whnf
   refine .mk (by simp only[okI] at *; omega) ?_
   conv=>whnf
   have:l.getD i 0=0:=by simpa using h4
   rw[if_pos this] at hall
   refine⟨i+1,⟨by omega,hall⟩,by omega,⟨⟨_,rfl,rfl⟩,trivial⟩,?_,rfl⟩
   repeat' (first|exact trivial|exact⟨_,rfl,rfl⟩|constructor)
 ·conv=>whnf
  refine au.int ?_
  have hi':l.length<=i:=by simpa using h3
  rw[hall,List.drop_eq_nil_of_le hi']; rfl
def vT:List Int->Bool
 |a::b::r=>decide (a<b)&&vT (b::r)
 |_=>true
def dU(l:List Int)(n:Int):Int:=bif l.any (fun i=>ou i n) then 5 else bif vT l then 0 else 1
theorem S.dM(l:List Int)(n:Int)(f:Bool)(hl:l.length<2^40):ak Tryz.prog 82 [.row 0 f (.ints l),.int n] (.int (dU l n)):=by
 refine ak.of Bd.dM (by simp) rfl rfl ?_
 conv=>whnf
 refine aJ.same [0,1,8,9] (fun i:Nat=>[(10,.int i)]) (fun i=>i<=l.length/\(l.take i).any (fun i=>ou i n)=false) (fun i=>l.length-i) 0 rfl (by decide) rfl (fun _=>rfl) ⟨by omega,by simp⟩ ⟨⟨_,rfl,rfl⟩,trivial⟩ ?_
 conv=>whnf
 refine⟨rfl,?_⟩
 rintro i ⟨hi,hall⟩
 conv=>whnf
 refine⟨fun h3=>?_,fun h3=>?_⟩
 ·have hi':i<l.length:=by simpa using h3
  conv=>whnf
  repeat(refine VC.mk (by first|exact fun h=>⟨h,h⟩|(intro h; rw[h]; rfl)|(simp only[Rw.rng] at *; omega)) ?_; conv=>whnf)
  refine⟨fun h4=>?_,fun h4=>?_⟩
  ·conv=>whnf
   refine au.int ?_
   rw[dU,jq (d:=0) hi' h4]; rfl
  ·conv=>whnf
   refine .mk (by simp only[okI] at *; omega) ?_
   conv=>whnf
   refine⟨i+1,⟨by omega,?_⟩,by omega,⟨⟨_,rfl,rfl⟩,trivial⟩,?_,rfl⟩
   ·rw[lJ (d:=0) hi' hall]; exact h4
   ·repeat' (first|exact trivial|exact⟨_,rfl,rfl⟩|constructor)
 ·have hi':l.length<=i:=by simpa using h3
  rw[List.take_of_length_le hi'] at hall
  conv=>whnf
  refine aJ.same [0] (fun i:Nat=>[(7,.int (i+1))]) (fun i=>(i<l.length\/i=0)/\vT l=vT (l.drop i)) (fun i=>l.length-i) 0 rfl (by decide) rfl (fun _=>rfl) ⟨by omega,by simp⟩ ⟨⟨_,rfl,rfl⟩,trivial⟩ ?_
  conv=>whnf
  refine⟨rfl,?_⟩
  rintro i ⟨hi,hinc⟩
  conv=>whnf
  refine⟨fun h5=>?_,fun h5=>?_⟩
  ·have hi1:i+1<l.length:=by have:=of_decide_eq_true h5; omega
   rw[aY 0 (show i<l.length by omega),aY 0 hi1] at hinc
   simp only[vT] at hinc
   rw[<- aY 0 hi1] at hinc
   conv=>whnf
   repeat(refine VC.mk (by simp only[okI,Rw.rng] at *; omega) ?_; conv=>whnf)
   refine⟨fun h6=>?_,fun h6=>?_⟩
   ·conv=>whnf
    refine au.int ?_
    have e1:((i:Int)+1).toNat=i+1:=by omega
    have e2:((i:Int)+1-1).toNat=i:=by omega
    rw[e1,e2] at h6
    have h6':l.getD (i+1) 0<=l.getD i 0:=of_decide_eq_true h6
    rw[dU,hall,hinc,decide_eq_false (by omega)]; rfl
   ·conv=>whnf
    refine .mk (by simp only[okI] at *; omega) ?_
    conv=>whnf
    have e1:((i:Int)+1).toNat=i+1:=by omega
    have e2:((i:Int)+1-1).toNat=i:=by omega
    rw[e1,e2] at h6
    have h6': ¬ l.getD (i+1) 0<=l.getD i 0:=of_decide_eq_false h6
    rw[decide_eq_true (by omega),Bool.true_and] at hinc
    refine⟨i+1,⟨by omega,hinc⟩,by omega,⟨⟨_,rfl,rfl⟩,trivial⟩,?_,rfl⟩
    repeat' (first|exact trivial|exact⟨_,rfl,rfl⟩|constructor)
  ·conv=>whnf
   refine au.int ?_
   have h5': ¬ ((i:Int)+1<l.length):=of_decide_eq_false h5
   have:vT l=true:=by
    rw[hinc]
    rcases hd:l.drop i with _|⟨a,_|⟨b,r⟩⟩
    ·rfl
    ·rfl
    ·have:=congrArg List.length hd
     simp only[List.length_drop,List.length_cons] at this
     omega
   rw[dU,hall,this]; rfl
def X7(n:Int):Bool:=decide (n>= -100)&&decide (n<=100)
theorem S.gB(n:Int):ak Tryz.prog 108 [.int n] (.bool (X7 n)):=by
 refine ak.of Bd.gB (by simp) rfl rfl ?_
 conv=>whnf
 repeat(refine VC.mk id ?_; conv=>whnf)
 exact au.bool rfl
def Ox(l:Ze):Bool:=X7 l.c&&X7 l.n&&X7 l.t&&X7 l.f
theorem S.jl(l:Ze):ak Tryz.prog 80 [.dat (.lin l)] (.bool (Ox l)):=by
 refine ak.of Bd.jl (by simp) rfl rfl ?_
 conv=>whnf
 refine ah.pure (S.gB l.c) rfl ?_
 conv=>whnf
 repeat(refine VC.mk id ?_; conv=>whnf)
 refine ah.fP (fun _=>S.gB l.n) rfl ?_
 conv=>whnf
 repeat(refine VC.mk id ?_; conv=>whnf)
 refine ah.fP (fun _=>S.gB l.t) rfl ?_
 conv=>whnf
 repeat(refine VC.mk id ?_; conv=>whnf)
 refine ah.fP (fun _=>S.gB l.f) rfl ?_
 conv=>whnf
 refine VC.mk id ?_
 conv=>whnf
 exact au.bool rfl
def jo(p:aU)(v:Int):Int:=eu (decide (v< -1)||decide (v>=p.values.length)) 5
theorem S.fD(p:aU)(v:Int):ak Tryz.prog 115 [.dat (.dF p),.int v] (.int (jo p v)):=by
 refine ak.of Bd.fD (by simp) rfl rfl ?_
 conv=>whnf
 repeat(refine VC.mk (by first|exact id|exact fun h=>⟨h,h⟩|(intro h; rw[h]; rfl)) ?_; conv=>whnf)
 refine ah.pure (S.bP _ 5) rfl ?_
 conv=>whnf
 exact au.int rfl
theorem JB{a:Int}(h:(a !=0)=true):a≠0:=by simpa using h
theorem xw{a:Int}(h:(a !=0)=false):a=0:=by simpa using h
def sN(k t:Int):Bool:=bif k==1||k==2||k==3 then t==1 else bif k==4||k==5 then !(t==1) else false
theorem S.nV(k t:Int):ak Tryz.prog 111 [.int k,.int t] (.bool (sN k t)):=by
 refine ak.of Bd.nV (by simp) rfl rfl ?_
 conv=>whnf
 refine⟨fun h1=>?_,fun h1=>?_⟩
 ·conv=>whnf
  refine Fork.mk (fun _=>?_) (fun q=>absurd (q.symm.trans (h1)) Bool.false_ne_true)
  conv=>whnf
  exact au.bool (by simp[sN,h1])
 ·conv=>whnf
  refine⟨fun h2=>?_,fun h2=>?_⟩
  ·conv=>whnf
   refine Fork.mk (fun _=>?_) (fun q=>absurd (q.symm.trans (h2)) Bool.false_ne_true)
   conv=>whnf
   exact au.bool (by simp[sN,h1,h2])
  ·conv=>whnf
   refine⟨fun h3=>?_,fun h3=>?_⟩
   ·conv=>whnf
    exact au.bool (by simp[sN,h1,h2,h3])
   ·conv=>whnf
    refine⟨fun h4=>?_,fun h4=>?_⟩
    ·conv=>whnf
     refine Fork.mk (fun _=>?_) (fun q=>absurd (q.symm.trans (h4)) Bool.false_ne_true)
     conv=>whnf
     exact au.bool (by simp[sN,h1,h2,h3,h4,bne])
    ·conv=>whnf
     refine⟨fun h5=>?_,fun h5=>?_⟩
     ·conv=>whnf
      exact au.bool (by simp[sN,h1,h2,h3,h4,h5,bne])
     ·conv=>whnf
      exact au.bool (by simp[sN,h1,h2,h3,h4,h5])
def oz:List Int->Int->Int
 |[],_=>0
 |x::r,n=>if bV x n=0 then oz r n else bV x n
def CV(l:List Int)(n:Int):Int:=bif (l.length:Int) !=n then 1 else oz l n
theorem S.jE(l:List Int)(n:Int)(f:Bool)(hl:l.length<2^40):ak Tryz.prog 116 [.row 0 f (.ints l),.int n] (.int (CV l n)):=by
 refine ak.of Bd.jE (by simp) rfl rfl ?_
 conv=>whnf
 refine⟨fun h=>?_,fun h=>?_⟩
 ·conv=>whnf
  exact au.int (by rw[CV,h]; rfl)
 ·conv=>whnf
  refine aJ.same [0,1,12,13] (fun i:Nat=>[(14,.int i)]) (fun i=>i<=l.length/\oz l n=oz (l.drop i) n) (fun i=>l.length-i) 0 rfl (by decide) rfl (fun _=>rfl) ⟨by omega,by simp⟩ ⟨⟨_,rfl,rfl⟩,trivial⟩ ?_
  conv=>whnf
  refine⟨rfl,?_⟩
  rintro i ⟨hi,hall⟩
  conv=>whnf
  refine⟨fun h3=>?_,fun h3=>?_⟩
  ·have hi':i<l.length:=by simpa using h3
   rw[aY 0 hi'] at hall
   simp only[oz] at hall
   conv=>whnf
   refine .mk (by simp only[Rw.rng] at *; omega) ?_
   conv=>whnf
   refine ah.pure (S.bT (l.getD i 0) n) rfl ?_
   conv=>whnf
   refine⟨fun h4=>?_,fun h4=>?_⟩
   ·conv=>whnf
    refine au.int ?_
    have:bV (l.getD i 0) n≠0:=by simpa using h4
    rw[CV,h,cond_false,hall,if_neg this]
   ·conv=>whnf
    refine .mk (by simp only[okI] at *; omega) ?_
    conv=>whnf
    have:bV (l.getD i 0) n=0:=by simpa using h4
    rw[if_pos this] at hall
    refine⟨i+1,⟨by omega,hall⟩,by omega,⟨⟨_,rfl,rfl⟩,trivial⟩,?_,rfl⟩
    repeat' (first|exact trivial|exact⟨_,rfl,rfl⟩|constructor)
  ·conv=>whnf
   refine au.int ?_
   have hi':l.length<=i:=by simpa using h3
   rw[CV,h,cond_false,hall,List.drop_eq_nil_of_le hi']; rfl
def guardE(p:aU)(g:yM):Int:=aQ [bV g.message p.messages.length,eu (decide (g.DC<1)||decide (g.DC>100)) 1,eu (!(Ox g.bound)) 4]
def jK(p:aU):List yM->Int
 |[]=>0
 |g::r=>if guardE p g=0 then jK p r else guardE p g
def vK(p:aU)(l:List yM):Int:=if jK p l=0 then eu (decide ((l.length:Int)>2)) 4 else jK p l
theorem S.lV(p:aU)(l:List yM)(f:Bool)(hl:l.length<2^40):ak Tryz.prog 114 [.dat (.dF p),.row 7 f (.qp l)] (.int (vK p l)):=by
 refine ak.of Bd.lV (by simp) rfl rfl ?_
 conv=>whnf
 refine aJ.same [1,2,8,9] (fun i:Nat=>[(10,.int i)]) (fun i=>i<=l.length/\jK p l=jK p (l.drop i)) (fun i=>l.length-i) 0 rfl (by decide) rfl (fun _=>rfl) ⟨by omega,by simp⟩ ⟨⟨_,rfl,rfl⟩,trivial⟩ ?_
 conv=>whnf
 refine⟨rfl,?_⟩
 rintro i ⟨hi,hall⟩
 conv=>whnf
 refine⟨fun h3=>?_,fun h3=>?_⟩
 ·have hi':i<l.length:=by simpa using h3
  rw[aY default hi'] at hall
  simp only[jK] at hall
  conv=>whnf
  refine .mk (by simp only[Rw.rng] at *; omega) ?_
  conv=>whnf
  refine ah.pure (S.bT (l.getD i default).message p.messages.length) rfl ?_
  conv=>whnf
  repeat(refine VC.mk (by first|exact id|(intro h; rw[h]; rfl)) ?_; conv=>whnf)
  refine ah.pure (S.bP (decide ((l.getD i default).DC<1)||decide ((l.getD i default).DC>100)) 1) rfl ?_
  conv=>whnf
  refine ah.pure (S.jl (l.getD i default).bound) rfl ?_
  conv=>whnf
  refine ah.pure (S.bP (!(Ox (l.getD i default).bound)) 4) rfl ?_
  conv=>whnf
  refine ah.pure (S.bM [bV (l.getD i default).message p.messages.length,eu (decide ((l.getD i default).DC<1)||decide ((l.getD i default).DC>100)) 1,eu (!(Ox (l.getD i default).bound)) 4] true (show 3<2^40 by decide)) rfl ?_
  conv=>whnf
  refine⟨fun h4=>?_,fun h4=>?_⟩
  ·conv=>whnf
   refine au.int ?_
   have h4':guardE p (l.getD i default)≠0:=JB h4
   rw[if_neg h4'] at hall
   rw[vK,hall,if_neg h4']; rfl
  ·conv=>whnf
   refine .mk (by simp only[okI] at *; omega) ?_
   conv=>whnf
   have h4':guardE p (l.getD i default)=0:=xw h4
   rw[if_pos h4'] at hall
   refine⟨i+1,⟨by omega,hall⟩,by omega,⟨⟨_,rfl,rfl⟩,trivial⟩,?_,rfl⟩
   repeat' (first|exact trivial|exact⟨_,rfl,rfl⟩|constructor)
 ·have hi':l.length<=i:=by simpa using h3
  rw[List.drop_eq_nil_of_le hi'] at hall
  conv=>whnf
  refine ah.pure (S.bP (decide ((l.length:Int)>2)) 4) rfl ?_
  conv=>whnf
  exact au.int (by rw[vK,hall]; rfl)
structure vN(r:Rule):Prop where
 response:r.response.length<2^30
 guards:r.guards.length<2^30
 ex:r.ex.length<2^30
 all:r.all.length<2^30
 send:r.send.length<2^30
 left:r.left.length<2^30
 right:r.right.length<2^30
 parent:r.parent.length<2^30
def Cm(r:Rule):Bool :=
 decide ((r.response.length:Int)+r.guards.length+r.ex.length+r.all.length+r.send.length+r.left.length+r.right.length+r.parent.length>0)||r.jd !=0||r.CQ !=0||r.pos !=0||r.direction !=0||r.read != -1||r.write != -1
def jW(r:Rule)(t:Int):Bool :=
 bif r.kind==1 then Cm {r with guards:=[],ex:=[],all:=[],send:=[],read:= -1,write:= -1} else
 bif r.kind==2 then(bif decide ((r.response.length:Int)>0) then true else Cm {r with jd:=0,CQ:=0,response:=[],read:= -1,write:= -1}) else
 bif r.kind==3 then Cm {r with response:=[],read:= -1,write:= -1} else
 bif r.kind==4 then(bif t==4 then Cm {r with pos:=0,left:=[],right:=[],parent:=[]} else Cm {r with pos:=0,left:=[],right:=[]}) else
 bif r.kind==5 then Cm {r with jd:=0,CQ:=0,direction:=0} else Cm r
theorem S.kW(r:Rule)(t:Int)(hs:vN r):ak Tryz.prog 112 [.dat (.rule r),.int t] (.bool (jW r t)):=by
 obtain⟨g1,g2,g3,g4,g5,g6,g7,g8⟩:=hs
 refine ak.of Bd.kW (by simp) rfl rfl ?_
 conv=>whnf
 refine⟨fun h1=>?_,fun h1=>?_⟩
 ·conv=>whnf
  repeat(refine VC.mk (by first|exact id|(intro h; rw[h]; rfl)|(simp only[okI] at *; omega)) ?_; conv=>whnf)
  exact au.bool (by simp[jW,Cm,h1])
 ·conv=>whnf
  refine⟨fun h2=>?_,fun h2=>?_⟩
  ·conv=>whnf
   refine⟨fun h6=>?_,fun h6=>?_⟩
   ·conv=>whnf
    exact au.bool (by rw[jW,h1,h2,show decide ((r.response.length:Int)>0)=true from h6]; rfl)
   ·conv=>whnf
    repeat(refine VC.mk (by first|exact id|(intro h; rw[h]; rfl)|(simp only[okI] at *; omega)) ?_; conv=>whnf)
    exact au.bool (by rw[jW,h1,h2,show decide ((r.response.length:Int)>0)=false from h6]; simp[Cm])
  ·conv=>whnf
   refine⟨fun h3=>?_,fun h3=>?_⟩
   ·conv=>whnf
    repeat(refine VC.mk (by first|exact id|(intro h; rw[h]; rfl)|(simp only[okI] at *; omega)) ?_; conv=>whnf)
    exact au.bool (by simp[jW,Cm,h1,h2,h3])
   ·conv=>whnf
    refine⟨fun h4=>?_,fun h4=>?_⟩
    ·conv=>whnf
     refine⟨fun h7=>?_,fun h7=>?_⟩
     ·conv=>whnf
      repeat(refine VC.mk (by first|exact id|(intro h; rw[h]; rfl)|(simp only[okI] at *; omega)) ?_; conv=>whnf)
      exact au.bool (by simp[jW,Cm,h1,h2,h3,h4,h7])
     ·conv=>whnf
      repeat(refine VC.mk (by first|exact id|(intro h; rw[h]; rfl)|(simp only[okI] at *; omega)) ?_; conv=>whnf)
      exact au.bool (by simp[jW,Cm,h1,h2,h3,h4,h7])
    ·conv=>whnf
     refine⟨fun h5=>?_,fun h5=>?_⟩
     ·conv=>whnf
      repeat(refine VC.mk (by first|exact id|(intro h; rw[h]; rfl)|(simp only[okI] at *; omega)) ?_; conv=>whnf)
      exact au.bool (by simp[jW,Cm,h1,h2,h3,h4,h5])
     ·conv=>whnf
      repeat(refine VC.mk (by first|exact id|(intro h; rw[h]; rfl)|(simp only[okI] at *; omega)) ?_; conv=>whnf)
      exact au.bool (by simp[jW,Cm,h1,h2,h3,h4,h5])
def X8(h:Hz):Hz->Prop
 |[]=>True
 |(i,o)::r=>h.get i=o/\X8 h r
theorem Va{h:Hz}: ∀ {h0:Hz},X8 h h0-> ∀ {i:Nat} {o:OV},h0.get i=some o->h.get i=some o:=by
 intro h0
 induction h0 with
 |nil=>intro _ i o e; cases e
 |cons p r ih =>
  obtain⟨j,u⟩:=p
  intro hs i o e
  simp only[Hz.get] at e
  cases hb:Nat.beq j i with
  |true=>rw[hb] at e; simp only[cond_true] at e; rw[<- Nat.eq_of_beq_eq_true hb,hs.1,e]
  |false=>rw[hb] at e; exact ih hs.2 e
def Vb:Hz->Bool
 |[]=>true
 |(_,some o)::r=>o.KD&&Vb r
 |(_,none)::r=>Vb r
theorem OJ: ∀ {h0:Hz},Vb h0=true-> ∀ {i:Nat} {o:OV},h0.get i=some o->o.KD=true:=by
 intro h0
 induction h0 with
 |nil=>intro _ i o e; cases e
 |cons p r ih =>
  obtain⟨j,u⟩:=p
  intro hs i o e
  simp only[Hz.get] at e
  cases hb:Nat.beq j i with
  |true =>
   rw[hb] at e; simp only[cond_true] at e; subst e
   simp only[Vb,Bool.and_eq_true] at hs; exact hs.1
  |false =>
   rw[hb] at e
   refine ih ?_ e
   cases u with
   |none=>exact hs
   |some o=>simp only[Vb,Bool.and_eq_true] at hs; exact hs.2
theorem OV.OL{o:OV}(h:o.KD=true):T.aO (fun _=>False) o.aF.l:=OV.F8 h
theorem iI.same{nx:Nat}{h0 h:Hz}{n:Nat}{post:T->Hp->Prop}{v:V}(hf:v.free=true)(hs:X8 h h0)(hg:rM nx h0=true)(hfr:Vb h0=true)(hp:post v.aG h0.aj):iI h0 n post v h:=by
 have hG:=kL hg
 have get: ∀ i ob,h0.aj i=some ob-> ∃ o,h0.get i=some o/\ob=o.aF:=fun i ob e=>by
  simp only[Hz.aj,Option.map_eq_some_iff] at e
  obtain⟨o,e1,e2⟩:=e
  exact⟨o,e1,e2.symm⟩
 have hfree:=V.mG v hf
 refine⟨fun _=>False,id,v.aG,h0.aj,hp,?_,fun i ob hi=>?_,fun i j _ _ e=>e,T.bQ (fun _ h=>h.elim) _ (gX hfree),fun i ob hi=>?_,fun i _ _=>rfl⟩
 ·rw[Ir]; exact aB _
 ·obtain⟨o,e1,rfl⟩:=get i ob hi
  refine⟨o.aF,aH (Va hs e1),fun h=>h,rfl,rfl,?_,zA (hG i _ hi).2.2⟩
  rw[sZ _ (OV.OL (OJ hfr e1))]; exact bZ _
 ·obtain⟨o,e1,rfl⟩:=get i ob hi
  exact⟨.inl (by rw[hi]; rfl),T.ay (fun _ h=>h.elim) _ (OV.OL (OJ hfr e1))⟩
abbrev ZU(p:aU)(r:Rule):Hz:=[(7,some (.box 88 19 (.dat (.rule r)))),(0,some (.box 27 11 (.dat (.dF p))))]
theorem S.LX(p:aU)(r x:Rule)(n:Nat):aN Tryz.prog 110 (V.aT [.dat (.rule x),.ptr 7 0 0]) (ZU p r).aj n (fun t hp=>t= .bool (x.name==r.name)/\hp=(ZU p r).aj):=by
 refine pR.of (nx:=8) Bd.mg (by simp) ⟨_,_,rfl,rfl⟩ rfl rfl ?_
 conv=>whnf
 exact iI.same (nx:=8) rfl ⟨rfl,rfl,trivial⟩ rfl rfl ⟨rfl,rfl⟩
def D5(s:Str):List Rule->Nat->Int
 |[],_=> -1
 |x::r,i=>bif x.name==s then(i:Int) else D5 s r (i+1)
theorem S.Vd(p:aU)(r:Rule)(l:List Rule)(f:Bool)(hl:l.length<2^30)(n:Nat):aN Tryz.prog 133 (V.aT [.row 19 f (.rules l),.fn 110 [.ptr 7 0 0]]) (ZU p r).aj n (fun t hp=>t= .int (D5 r.name l 0)/\hp=(ZU p r).aj):=by
 refine pR.of (nx:=8) Bd.fE (by simp) ⟨_,_,rfl,rfl⟩ rfl rfl ?_
 conv=>whnf
 refine aJ.same [0,1,6,7] (fun i:Nat=>[(8,.int i)]) (fun i=>i<=l.length/\D5 r.name l 0=D5 r.name (l.drop i) i) (fun i=>l.length-i) 0 rfl (by decide) rfl (fun _=>rfl) ⟨by omega,by simp⟩ ⟨⟨_,rfl,rfl⟩,trivial⟩ ?_
 conv=>whnf
 refine⟨rfl,?_⟩
 rintro i ⟨hi,hall⟩
 conv=>whnf
 refine⟨fun h3=>?_,fun h3=>?_⟩
 ·have hi':i<l.length:=by simpa using h3
  rw[aY default hi'] at hall
  simp only[D5] at hall
  conv=>whnf
  refine .mk (by simp only[Rw.rng] at *; omega) ?_
  conv=>whnf
  refine ah.heap (S.LX p r (l.getD i default) _) ?_
  rintro t hp ⟨rfl,rfl⟩
  refine⟨.bool _,ZU p r,rfl,rfl,?_⟩
  conv=>whnf
  refine⟨fun h4=>?_,fun h4=>?_⟩
  ·conv=>whnf
   rw[h4] at hall
   exact iI.same (nx:=8) rfl ⟨rfl,rfl,trivial⟩ rfl rfl ⟨by rw[hall]; rfl,rfl⟩
  ·conv=>whnf
   refine .mk (by simp only[okI] at *; omega) ?_
   conv=>whnf
   rw[h4] at hall
   refine⟨i+1,⟨by omega,hall⟩,by omega,⟨⟨_,rfl,rfl⟩,trivial⟩,?_,rfl⟩
   repeat' (first|exact trivial|exact⟨_,rfl,rfl⟩|constructor)
 ·conv=>whnf
  have hi':l.length<=i:=by simpa using h3
  rw[List.drop_eq_nil_of_le hi'] at hall
  exact iI.same (nx:=8) rfl ⟨rfl,rfl,trivial⟩ rfl rfl ⟨by rw[hall]; rfl,rfl⟩
theorem X9{s:Str}{l:List Rule}{i:Nat}:decide (0<=D5 s l i)=l.any fun x=>x.name==s:=by
 have: ∀ {l:List Rule} {i:Nat},0<=D5 s l i↔(l.any fun x=>x.name==s)=true:=by
  intro l
  induction l with
  |nil=>intro i; simp[D5]
  |cons x r ih =>
   intro i
   rw[List.any_cons,Bool.or_eq_true,<- ih (i:=i+1)]
   show(0:Int)<=(bif x.name==s then(i:Int) else D5 s r (i+1))↔_
   generalize (x.name==s)=b
   cases b<;>simp
 rw[Bool.eq_iff_iff,decide_eq_true_eq]; exact this
theorem S.LY(p:aU)(r:Rule)(l:List Rule)(f:Bool)(hl:l.length<2^30)(n:Nat):aN Tryz.prog 109 (V.aT [.row 19 f (.rules l),.fn 110 [.ptr 7 0 0]]) (ZU p r).aj n (fun t hp=>t= .bool (l.any fun x=>x.name==r.name)/\hp=(ZU p r).aj):=by
 refine pR.of (nx:=8) Bd.eH (by simp) ⟨_,_,rfl,rfl⟩ rfl rfl ?_
 conv=>whnf
 refine ah.heap (S.Vd p r l f hl _) ?_
 rintro t hp ⟨rfl,rfl⟩
 refine⟨.int _,ZU p r,rfl,rfl,?_⟩
 conv=>whnf
 exact iI.same (nx:=8) rfl ⟨rfl,rfl,trivial⟩ rfl rfl ⟨by rw[<- X9 (i:=0)]; rfl,rfl⟩
theorem ah.mkRow{P:Program}{f:FuncId}{args:List V}{h:Hz}{n ty k:Nat}{r:Rw}{K:V->Hz->Prop}{KW:Nat->V->Hz->Prop}(H:vM P f (V.aT args) (fun n=>.own n) (some ⟨ty,k,r.aT⟩))(hK:K (.own n) ((n,some (.row ty k r []))::h)):ah P false none f args h n K KW :=
 ah.heap (vM.frame H _ _) (by rintro t hp ⟨rfl,rfl⟩; exact⟨.own n,_,rfl,by rw[bD]; simp[nN,OV.aF,V.aT],hK⟩)
theorem S.Concat(a b c:List Str)(n:Nat)(h0:0<a.length)(ha:a.length<2^20)(hb:b.length<2^20)(hc:c.length<2^20) :
  aN Tryz.prog 106 (V.aT [.yF 0 false [.row 0 false (.strs a),.row 0 false (.strs b),.row 0 false (.strs c)]]) no n (fun t hp=>t= .own n/\hp=Hz.aj [(n,some (.row 9 0 (.strs (a++b++c)) []))]):=by
 refine pR.of (nx:=0) (h0:=[]) Bd.iT (by simp) ⟨_,_,rfl,rfl⟩ rfl rfl ?_
 conv=>whnf
 refine aJ.times 4 rfl ?_
 conv=>whnf
 refine Fork.mk (fun _=>?_) (fun q=>absurd (q.symm.trans (rfl)) Bool.false_ne_true)
 conv=>whnf
 repeat(refine VC.mk (by first|(omega)|(simp only[okI] at *; omega)) ?_; conv=>whnf)
 refine Fork.mk (fun q=>absurd (q.symm.trans (decide_eq_false (by omega))).symm Bool.false_ne_true) (fun _=>?_)
 conv=>whnf
 refine .mk (by simp only[okI] at *; omega) ?_
 conv=>whnf
 refine Fork.mk (fun _=>?_) (fun q=>absurd (q.symm.trans (rfl)) Bool.false_ne_true)
 conv=>whnf
 repeat(refine VC.mk (by first|(omega)|(simp only[okI] at *; omega)) ?_; conv=>whnf)
 refine Fork.mk (fun q=>absurd (q.symm.trans (decide_eq_false (by omega))).symm Bool.false_ne_true) (fun _=>?_)
 conv=>whnf
 refine .mk (by simp only[okI] at *; omega) ?_
 conv=>whnf
 refine Fork.mk (fun _=>?_) (fun q=>absurd (q.symm.trans (rfl)) Bool.false_ne_true)
 conv=>whnf
 repeat(refine VC.mk (by first|(omega)|(simp only[okI] at *; omega)) ?_; conv=>whnf)
 refine Fork.mk (fun q=>absurd (q.symm.trans (decide_eq_false (by omega))).symm Bool.false_ne_true) (fun _=>?_)
 conv=>whnf
 refine .mk (by simp only[okI] at *; omega) ?_
 conv=>whnf
 refine Fork.mk (fun q=>absurd (q.symm.trans (rfl)).symm Bool.false_ne_true) (fun _=>?_)
 conv=>whnf
 have e:(0+(a.length:Int)+b.length+c.length)=((a.length+b.length+c.length:Nat):Int):=by omega
 rw[e]
 refine ah.mkRow (r:=.strs []) (S.Grow (a.length+b.length+c.length) (by omega) (by omega)) ?_
 conv=>whnf
 refine aJ.times 4 rfl ?_
 conv=>whnf
 refine Fork.mk (fun _=>?_) (fun q=>absurd (q.symm.trans (rfl)) Bool.false_ne_true)
 conv=>whnf
 repeat(refine VC.mk (by first|(omega)|(simp only[mD,lH,Rw.len,List.length_nil]; omega)|(simp only[okI] at *; omega)) ?_; conv=>whnf)
 refine Fork.mk (fun _=>?_) (fun q=>absurd (q.symm.trans (rfl)) Bool.false_ne_true)
 conv=>whnf
 repeat(refine VC.mk (by first|(omega)|(simp only[mD,lH,Rw.len,List.length_append,List.length_nil]; omega)|(simp only[okI] at *; omega)) ?_; conv=>whnf)
 refine Fork.mk (fun _=>?_) (fun q=>absurd (q.symm.trans (rfl)) Bool.false_ne_true)
 conv=>whnf
 repeat(refine VC.mk (by first|(omega)|(simp only[mD,lH,Rw.len,List.length_append,List.length_nil]; omega)|(simp only[okI] at *; omega)) ?_; conv=>whnf)
 refine Fork.mk (fun q=>absurd (q.symm.trans (rfl)).symm Bool.false_ne_true) (fun _=>?_)
 conv=>whnf
 refine iI.one (c:=n) (o:=.row 9 0 (.strs (a++b++c)) []) (t:=.own n) rfl rfl rfl nofun (.inr rfl) rfl (.eq rfl) ⟨rfl,rfl⟩
theorem S.ZV(a b c:List Str)(h0:0<a.length)(ha:a.length<2^20)(hb:b.length<2^20)(hc:c.length<2^20) :
  vM Tryz.prog 106 (V.aT [.yF 0 false [.row 0 false (.strs a),.row 0 false (.strs b),.row 0 false (.strs c)]]) (fun n=>.own n) (some ⟨9,0,(Rw.strs (a++b++c)).aT⟩):=by
 refine⟨rfl,fun _=>rfl,(fun ob h=>by cases h; rw[ig]; intro t ht; obtain⟨x,_,rfl⟩:=List.mem_map.1 ht; rfl),(fun ob h=>by cases h; exact fun e=>absurd e (by decide:(0:Nat)≠fF)),fun n=>(S.Concat a b c n h0 ha hb hc).mono ?_⟩
 rintro t hp ⟨rfl,rfl⟩
 refine⟨rfl,?_⟩
 rw[bD]; simp[nN,OV.aF,V.aT]; rfl
theorem ah.KJ{P:Program}{f:FuncId}{args:List V}{ts:List T}{h:Hz}{n ty k:Nat}{r:Rw}{K:V->Hz->Prop}{KW:Nat->V->Hz->Prop}(H:vM P f ts (fun n=>.own n) (some ⟨ty,k,r.aT⟩))(hs:T.dD (fun _=>True) h.aj ts (V.aT args))(hh:T.qI r.aT=true)(hK:K (.own n) ((n,some (.row ty k r []))::h)):ah P false none f args h n K KW :=
 ⟨.inl (vM.lend H hs rfl (fun _ e=>by cases e; exact hh) ⟨.own n,_,rfl,by rw[bD]; simp[nN,OV.aF,V.aT],(fun e=>by cases e),hK⟩)⟩
theorem JK{h:Hz}{j ty:Nat}{Z:Nat->Prop}{l:List V}(hz:Z j)(q:h.get j=some (.row ty 0 .nil l))(hf:V.dH l=true):T.sub Z h.aj (V.yF 0 false l).aG (V.own j).aG:=by
 show T.sub Z h.aj (.sl 0 false (V.aT l)) (.own j)
 simp only[T.sub]
 exact⟨trivial,hz,V.iq l hf,by decide,ty,by rw[aH q]; rfl⟩
theorem Ve{l:List Str}:T.qI (Rw.strs l).aT=true:=by
 show T.qI (l.map eS)=true
 induction l with
 |nil=>rfl
 |cons s r ih=>simp only[List.map_cons,T.qI,ih]; rfl
theorem ac8{h:Hz}{j i ty:Nat}{Z:Nat->Prop}{l:List Str}(hz:Z j)(q:h.get j=some (.row ty 0 (.strs l) []))(hi:i<=l.length):T.sub Z h.aj (V.row 0 false (.strs (l.take i))).aG (V.qQ j 0 i).aG:=by
 show T.sub Z h.aj (.sl 0 false ((l.take i).map eS)) (.qQ j 0 i)
 simp only[T.sub]
 refine⟨trivial,hz,?_,by decide,ty,l.map eS,?_,by simpa using hi,by simp[List.map_take]⟩
 ·rw[ig]; intro t ht; obtain⟨x,_,rfl⟩:=List.mem_map.1 ht; rfl
 ·rw[aH q]; simp[OV.aF,Rw.aT,V.aT]
def allNames(p:aU):List Str:=p.states++p.messages++p.values
def LU(l:List Str)(i:Nat):Bool:= !(validName (l.getD i []))||(l.take i).any fun x=>l.getD i []==x
def yu(p:aU):Int:=bif (List.range (allNames p).length).any (LU (allNames p)) then 2 else 0
theorem Ea{n:Nat}{f:Nat->Bool}:(List.range n).any f=true↔ ∃ i,i<n/\f i=true:=by
 simp[List.any_eq_true]
theorem S.ng(p:aU)(h0:0<p.states.length)(h1:p.states.length<2^20)(h2:p.messages.length<2^20)(h3:p.values.length<2^20):ak Tryz.prog 79 [.dat (.dF p)] (.int (yu p)):=by
 have hlen:(allNames p).length<2^30:=by simp only[allNames,List.length_append]; omega
 refine ak.of Bd.ng (by simp) rfl rfl ?_
 conv=>whnf
 refine ah.KJ (r:=.strs (allNames p)) (S.ZV p.states p.messages p.values h0 h1 h2 h3) (And.intro (JK (ty:=22) trivial rfl rfl) trivial) Ve ?_
 conv=>whnf
 refine aJ.same [3,14,15] (fun i:Nat=>[(16,.int i)]) (fun i=>i<=(allNames p).length/\(List.range i).any (LU (allNames p))=false) (fun i=>(allNames p).length-i) 0 rfl (by decide) rfl (fun _=>rfl) ⟨Nat.zero_le _,rfl⟩ ⟨⟨_,rfl,rfl⟩,trivial⟩ ?_
 conv=>whnf
 refine⟨rfl,?_⟩
 rintro i ⟨hi,hall⟩
 conv=>whnf
 refine⟨fun h4=>?_,fun h4=>?_⟩
 ·have hi':i<(allNames p).length:=by simpa using h4
  conv=>whnf
  repeat(refine VC.mk (by simp only[Rw.rng] at *; omega) ?_; conv=>whnf)
  refine ah.pure (S.fG ((allNames p).getD i [])) rfl ?_
  conv=>whnf
  repeat(refine VC.mk (by first|exact fun h=>⟨h,h⟩|(intro h; (repeat' apply And.intro)<;>first|exact h|omega|(simp only[Rw.lg]; omega)|(simp only[Rw.rng]; omega))) ?_; conv=>whnf)
  refine ah.QN (fun _=>S.slices_Contains_string ((allNames p).take i) ((allNames p).getD i []) false (by rw[List.length_take]; omega)) (fun _=>And.intro (ac8 (ty:=9) trivial rfl (by omega)) (And.intro (aB _) trivial)) rfl rfl ?_
  conv=>whnf
  refine .mk (by intro h; rw[h]; rfl) ?_
  conv=>whnf
  refine⟨fun h5=>?_,fun h5=>?_⟩
  ·conv=>whnf
   refine au.int ?_
   rw[yu,Ea.2 ⟨i,hi',h5⟩]; rfl
  ·conv=>whnf
   refine .mk (by simp only[okI] at *; omega) ?_
   conv=>whnf
   refine⟨i+1,⟨by omega,?_⟩,by omega,⟨⟨_,rfl,rfl⟩,trivial⟩,?_,rfl⟩
   ·rw[List.range_succ,List.any_append,hall]
    simp only[List.any_cons,List.any_nil,Bool.or_false,Bool.false_or]; exact h5
   ·repeat' (first|exact trivial|exact⟨_,rfl,rfl⟩|constructor)
 ·have hi':(allNames p).length<=i:=by simpa using h4
  have e:i=(allNames p).length:=Nat.le_antisymm hi hi'
  subst e
  conv=>whnf
  exact au.int (by rw[yu,hall]; rfl)
theorem ah.ac9{P:Program}{f:FuncId}{args:List V}{h:Hz}{hp0:Hp}{n:Nat}{K:V->Hz->Prop}{KW:Nat->V->Hz->Prop}{post:T->Hp->Prop}(S:aN P f (V.aT args) hp0 n post)(e:h.aj=hp0)(hK: ∀ t hp,post t hp-> ∃ v h',t=v.aG/\hp=Hz.aj h'/\K v h'):ah P false none f args h n K KW:=by
 subst e; exact ah.heap S hK
theorem OM{i:Nat}{a b:Option OV}{r:Hz}:Hz.aj ((i,a)::(i,b)::r)=Hz.aj ((i,a)::r):=funext fun j=>by
 simp only[Hz.aj,Hz.get]; cases Nat.beq i j<;>rfl
structure dh(p:aU):Prop where
 states:p.states.length<2^20
 messages:p.messages.length<2^20
 values:p.values.length<2^20
 bU:p.bU.length<2^30
 initial:p.initial.length<2^30
 leader:p.leader.length<2^30
 rules:p.rules.length<2^30
 rule: ∀ i,vN (p.rules.getD i default)
 qp:(p.rules.flatMap Rule.guards).length<2^30
def qF(p:aU)(i:Nat):Bool:= !(validName (p.rules.getD i default).name)||(p.rules.take i).any fun x=>x.name==(p.rules.getD i default).name
def pq(p:aU)(i:Nat):Bool:= !(sN (p.rules.getD i default).kind p.topology)||jW (p.rules.getD i default) p.topology
def uP(p:aU)(r:Rule):Int:=aQ [bV r.fr p.states.length,bV r.to p.states.length]
def XU(p:aU)(r:Rule):Bool:=decide (r.pos<0)||decide (r.pos>2)||(r.pos !=0&&p.topology==3)
def fZ(p:aU)(i:Nat):Int :=
 let r:=p.rules.getD i default
 let n:Int:=p.states.length
 bif qF p i then 2 else bif pq p i then 6 else bif uP p r !=0 then uP p r else
 bif r.kind==1 then aQ [vK p r.guards,dU r.ex n,dU r.all n,jo p r.read,jo p r.write,dU r.send p.messages.length] else
 bif r.kind==2 then aQ [bV r.jd n,bV r.CQ n,jo p r.read,jo p r.write] else
 bif r.kind==3 then aQ [CV r.response n,jo p r.read,jo p r.write] else
 bif r.kind==4 then aQ [dU r.left n,dU r.right n,dU r.parent n,eu (XU p r) 1] else
 bif p.topology==4 then aQ [bV r.jd n,bV r.CQ n,eu (decide (r.direction<3)||decide (r.direction>4)) 1]
 else aQ [bV r.jd n,bV r.CQ n,eu (decide (r.direction<1)||decide (r.direction>2)) 1]
theorem S.jD(p:aU)(i:Nat)(hi:i<p.rules.length)(hp:dh p):ak Tryz.prog 84 [.dat (.dF p),.int i] (.int (fZ p i)):=by
 have hr:=hp.rule i
 have hp1:=hp.rules
 have hp2:=hp.states
 have hp3:=hp.messages
 refine ak.of Bd.jD (by simp) rfl rfl ?_
 conv=>whnf
 repeat(refine VC.mk (by first|(simp only[Rw.lg]; omega)|(simp only[Rw.rng] at *; omega)) ?_; conv=>whnf)
 refine ah.ac9 (S.LY p (p.rules.getD i default) (p.rules.take i) false (by rw[List.length_take]; omega) _) OM ?_
 rintro t hp' ⟨rfl,rfl⟩
 refine⟨.bool _,ZU p (p.rules.getD i default),rfl,rfl,?_⟩
 conv=>whnf
 refine ah.pure (S.fG (p.rules.getD i default).name) rfl ?_
 conv=>whnf
 refine .mk (by intro h; rw[h]; rfl) ?_
 conv=>whnf
 refine⟨fun h1=>?_,fun h1=>?_⟩
 ·conv=>whnf
  exact au.int (by rw[fZ,show qF p i=true from h1]; rfl)
 ·conv=>whnf
  refine ah.pure (S.nV (p.rules.getD i default).kind p.topology) rfl ?_
  conv=>whnf
  repeat(refine VC.mk (by first|exact id|exact fun h=>⟨h,h⟩) ?_; conv=>whnf)
  refine ah.fP (fun _=>S.kW (p.rules.getD i default) p.topology hr) rfl ?_
  conv=>whnf
  refine .mk (by intro h; rw[h]; rfl) ?_
  conv=>whnf
  refine⟨fun h2=>?_,fun h2=>?_⟩
  ·conv=>whnf
   exact au.int (by rw[fZ,show qF p i=false from h1,show pq p i=true from h2]; rfl)
  ·conv=>whnf
   refine ah.pure (S.bT (p.rules.getD i default).fr p.states.length) rfl ?_
   conv=>whnf
   refine ah.pure (S.bT (p.rules.getD i default).to p.states.length) rfl ?_
   conv=>whnf
   refine ah.pure (S.bM [bV (p.rules.getD i default).fr p.states.length,bV (p.rules.getD i default).to p.states.length] true (show 2<2^40 by decide)) rfl ?_
   conv=>whnf
   refine⟨fun h3=>?_,fun h3=>?_⟩
   ·conv=>whnf
    exact au.int (by rw[fZ,show qF p i=false from h1,show pq p i=false from h2,show(uP p (p.rules.getD i default) !=0)=true from h3]; rfl)
   ·conv=>whnf
    refine⟨fun h4=>?_,fun h4=>?_⟩
    ·conv=>whnf
     refine ah.pure (S.lV p (p.rules.getD i default).guards false (by have:=hr.guards; omega)) rfl ?_
     conv=>whnf
     refine ah.pure (S.dM (p.rules.getD i default).ex p.states.length false (by have:=hr.ex; omega)) rfl ?_
     conv=>whnf
     refine ah.pure (S.dM (p.rules.getD i default).all p.states.length false (by have:=hr.all; omega)) rfl ?_
     conv=>whnf
     refine ah.pure (S.fD p (p.rules.getD i default).read) rfl ?_
     conv=>whnf
     refine ah.pure (S.fD p (p.rules.getD i default).write) rfl ?_
     conv=>whnf
     refine ah.pure (S.dM (p.rules.getD i default).send p.messages.length false (by have:=hr.send; omega)) rfl ?_
     conv=>whnf
     refine ah.pure (S.bM [vK p (p.rules.getD i default).guards,dU (p.rules.getD i default).ex p.states.length,dU (p.rules.getD i default).all p.states.length,jo p (p.rules.getD i default).read,jo p (p.rules.getD i default).write,dU (p.rules.getD i default).send p.messages.length] true (show 6<2^40 by decide)) rfl ?_
     conv=>whnf
     exact au.int (by rw[fZ,show qF p i=false from h1,show pq p i=false from h2,show(uP p (p.rules.getD i default) !=0)=false from h3,h4]; rfl)
    ·conv=>whnf
     refine⟨fun h5=>?_,fun h5=>?_⟩
     ·conv=>whnf
      refine ah.pure (S.bT (p.rules.getD i default).jd p.states.length) rfl ?_
      conv=>whnf
      refine ah.pure (S.bT (p.rules.getD i default).CQ p.states.length) rfl ?_
      conv=>whnf
      refine ah.pure (S.fD p (p.rules.getD i default).read) rfl ?_
      conv=>whnf
      refine ah.pure (S.fD p (p.rules.getD i default).write) rfl ?_
      conv=>whnf
      refine ah.pure (S.bM [bV (p.rules.getD i default).jd p.states.length,bV (p.rules.getD i default).CQ p.states.length,jo p (p.rules.getD i default).read,jo p (p.rules.getD i default).write] true (show 4<2^40 by decide)) rfl ?_
      conv=>whnf
      exact au.int (by rw[fZ,show qF p i=false from h1,show pq p i=false from h2,show(uP p (p.rules.getD i default) !=0)=false from h3,h4,h5]; rfl)
     ·conv=>whnf
      refine⟨fun h6=>?_,fun h6=>?_⟩
      ·conv=>whnf
       refine ah.pure (S.jE (p.rules.getD i default).response p.states.length false (by have:=hr.response; omega)) rfl ?_
       conv=>whnf
       refine ah.pure (S.fD p (p.rules.getD i default).read) rfl ?_
       conv=>whnf
       refine ah.pure (S.fD p (p.rules.getD i default).write) rfl ?_
       conv=>whnf
       refine ah.pure (S.bM [CV (p.rules.getD i default).response p.states.length,jo p (p.rules.getD i default).read,jo p (p.rules.getD i default).write] true (show 3<2^40 by decide)) rfl ?_
       conv=>whnf
       exact au.int (by rw[fZ,show qF p i=false from h1,show pq p i=false from h2,show(uP p (p.rules.getD i default) !=0)=false from h3,h4,h5,h6]; rfl)
      ·conv=>whnf
       refine⟨fun h7=>?_,fun h7=>?_⟩
       ·conv=>whnf
        repeat(refine VC.mk (by first|exact id|(intro h; rw[h]; rfl)|(intro h; simp_all; done)) ?_; conv=>whnf)
        refine ah.pure (S.dM (p.rules.getD i default).left p.states.length false (by have:=hr.left; omega)) rfl ?_
        conv=>whnf
        refine ah.pure (S.dM (p.rules.getD i default).right p.states.length false (by have:=hr.right; omega)) rfl ?_
        conv=>whnf
        refine ah.pure (S.dM (p.rules.getD i default).parent p.states.length false (by have:=hr.parent; omega)) rfl ?_
        conv=>whnf
        refine ah.pure (S.bP (XU p (p.rules.getD i default)) 1) rfl ?_
        conv=>whnf
        refine ah.pure (S.bM [dU (p.rules.getD i default).left p.states.length,dU (p.rules.getD i default).right p.states.length,dU (p.rules.getD i default).parent p.states.length,eu (XU p (p.rules.getD i default)) 1] true (show 4<2^40 by decide)) rfl ?_
        conv=>whnf
        exact au.int (by rw[fZ,show qF p i=false from h1,show pq p i=false from h2,show(uP p (p.rules.getD i default) !=0)=false from h3,h4,h5,h6,h7]; rfl)
       ·conv=>whnf
        refine⟨fun h8=>?_,fun h8=>?_⟩
        ·conv=>whnf
         refine ah.pure (S.bT (p.rules.getD i default).jd p.states.length) rfl ?_
         conv=>whnf
         refine ah.pure (S.bT (p.rules.getD i default).CQ p.states.length) rfl ?_
         conv=>whnf
         repeat(refine VC.mk (by first|exact id|exact fun h=>⟨h,h⟩|(intro h; rw[h]; rfl)) ?_; conv=>whnf)
         refine ah.pure (S.bP (decide ((p.rules.getD i default).direction<3)||decide ((p.rules.getD i default).direction>4)) 1) rfl ?_
         conv=>whnf
         refine ah.pure (S.bM [bV (p.rules.getD i default).jd p.states.length,bV (p.rules.getD i default).CQ p.states.length,eu (decide ((p.rules.getD i default).direction<3)||decide ((p.rules.getD i default).direction>4)) 1] true (show 3<2^40 by decide)) rfl ?_
         conv=>whnf
         exact au.int (by rw[fZ,show qF p i=false from h1,show pq p i=false from h2,show(uP p (p.rules.getD i default) !=0)=false from h3,h4,h5,h6,h7,h8]; rfl)
        ·conv=>whnf
         refine ah.pure (S.bT (p.rules.getD i default).jd p.states.length) rfl ?_
         conv=>whnf
         refine ah.pure (S.bT (p.rules.getD i default).CQ p.states.length) rfl ?_
         conv=>whnf
         repeat(refine VC.mk (by first|exact id|exact fun h=>⟨h,h⟩|(intro h; rw[h]; rfl)) ?_; conv=>whnf)
         refine ah.pure (S.bP (decide ((p.rules.getD i default).direction<1)||decide ((p.rules.getD i default).direction>2)) 1) rfl ?_
         conv=>whnf
         refine ah.pure (S.bM [bV (p.rules.getD i default).jd p.states.length,bV (p.rules.getD i default).CQ p.states.length,eu (decide ((p.rules.getD i default).direction<1)||decide ((p.rules.getD i default).direction>2)) 1] true (show 3<2^40 by decide)) rfl ?_
         conv=>whnf
         exact au.int (by rw[fZ,show qF p i=false from h1,show pq p i=false from h2,show(uP p (p.rules.getD i default) !=0)=false from h3,h4,h5,h6,h7,h8]; rfl)
def vJ(g:yM):List yM->Nat->Int
 |[],_=> -1
 |x::r,i=>bif g==x then(i:Int) else vJ g r (i+1)
theorem OB{g:yM}{l:List yM}{i:Nat}:decide (0<=vJ g l i)=l.any fun x=>g==x:=by
 have: ∀ {l:List yM} {i:Nat},0<=vJ g l i↔(l.any fun x=>g==x)=true:=by
  intro l
  induction l with
  |nil=>intro i; simp[vJ]
  |cons x r ih =>
   intro i
   rw[List.any_cons,Bool.or_eq_true,<- ih (i:=i+1)]
   show(0:Int)<=(bif g==x then(i:Int) else vJ g r (i+1))↔_
   generalize (g==x)=b
   cases b<;>simp
 rw[Bool.eq_iff_iff,decide_eq_true_eq]; exact this
theorem S.Ya(l:List yM)(g:yM)(f:Bool)(hl:l.length<2^40):ak Tryz.prog 134 [.row 7 f (.qp l),.dat (.Qp g)] (.int (vJ g l 0)):=by
 refine ak.of Bd.dS (by simp) rfl rfl ?_
 conv=>whnf
 refine aJ.same [0,3,6,7] (fun i:Nat=>[(8,.int i)]) (fun i=>i<=l.length/\vJ g l 0=vJ g (l.drop i) i) (fun i=>l.length-i) 0 rfl (by decide) rfl (fun _=>rfl) ⟨by omega,by simp⟩ ⟨⟨_,rfl,rfl⟩,trivial⟩ ?_
 conv=>whnf
 refine⟨rfl,?_⟩
 rintro i ⟨hi,hall⟩
 conv=>whnf
 refine⟨fun h3=>?_,fun h3=>?_⟩
 ·have hi':i<l.length:=by simpa using h3
  rw[aY default hi'] at hall
  simp only[vJ] at hall
  conv=>whnf
  refine .mk (by simp only[Rw.rng] at *; first|omega|(simp_all; done)|(simp_all; omega)) ?_
  conv=>whnf
  refine⟨fun h4=>?_,fun h4=>?_⟩
  ·conv=>whnf
   refine au.int ?_
   have h4':(g==l.getD i default)=true:=h4
   rw[hall,h4']; rfl
  ·conv=>whnf
   refine .mk (by simp only[okI] at *; first|omega|(simp_all; done)|(simp_all; omega)) ?_
   conv=>whnf
   refine⟨i+1,⟨by omega,?_⟩,by omega,⟨⟨_,rfl,rfl⟩,trivial⟩,?_,rfl⟩
   ·have h4':(g==l.getD i default)=false:=h4
    rw[hall,h4']; rfl
   ·repeat' (first|exact trivial|exact⟨_,rfl,rfl⟩|constructor)
 ·conv=>whnf
  refine au.int ?_
  have hi':l.length<=i:=by simpa using h3
  rw[hall,List.drop_eq_nil_of_le hi']; rfl
theorem S.OO(l:List yM)(g:yM)(f:Bool)(hl:l.length<2^40):ak Tryz.prog 117 [.row 7 f (.qp l),.dat (.Qp g)] (.bool (l.any fun x=>g==x)):=by
 refine ak.of Bd.dJ (by simp) rfl rfl ?_
 conv=>whnf
 refine ah.pure (S.Ya l g f hl) rfl ?_
 conv=>whnf
 exact au.bool OB.symm
theorem XQ{h:Hz}{j:Nat}{Z:Nat->Prop}{l:List yM}(hz:Z j)(q:h.get j=some (.row 161 7 (.qp l) [])):T.sub Z h.aj (V.row 7 false (.qp l)).aG (V.own j).aG:=by
 show T.sub Z h.aj (.sl 7 false (l.map NZ)) (.own j)
 simp only[T.sub]
 refine⟨trivial,hz,?_,by decide,161,?_⟩
 ·rw[ig]; intro t ht; obtain⟨x,_,rfl⟩:=List.mem_map.1 ht; rfl
 ·have:=aH q
  rw[this]; simp[OV.aF,Rw.aT,V.aT]
theorem zI{α β:Type}{f:β->α->β}{b:β}{l:List α}{i:Nat}{d:α}(h:i<l.length):(l.take (i+1)).foldl f b=f ((l.take i).foldl f b) (l.getD i d):=by
 rw[List.take_add_one,List.foldl_append]
 simp[List.getElem?_eq_getElem h]
theorem au.ac6{h:Hz}{j:Nat}{l:List yM}(q:h.get j=some (.row 161 7 (.qp l) [])):au (.row 7 false (.qp l)) (.own j) h:=⟨XQ trivial q⟩
def FN(acc:List yM)(g:yM):List yM:=bif acc.any (fun x=>g==x) then acc else acc++[g]
def xg(l:List Rule):List yM:=(l.flatMap Rule.guards).foldl FN []
theorem Yb{acc:List yM}{g:yM}:(FN acc g).length<=acc.length+1:=by
 unfold FN; cases acc.any (fun x=>g==x)<;>simp
theorem OQ: ∀ {l acc:List yM},(l.foldl FN acc).length<=acc.length+l.length:=by
 intro l
 induction l with
 |nil=>intro acc; simp
 |cons g r ih =>
  intro acc
  have:=ih (acc:=FN acc g)
  have h2:=Yb (acc:=acc) (g:=g)
  simp only[List.foldl_cons,List.length_cons]; omega
abbrev rowT(l:List yM):OV:=.row 161 7 (.qp l) []
def xk(p:aU)(i k:Nat):List yM:=((p.rules.getD i default).guards.take k).foldl FN (xg (p.rules.take i))
theorem OC(p:aU)(hp:dh p)(i k:Nat)(_hi:i<p.rules.length):(xk p i k).length<2^31:=by
 have h1:=OQ (l:=(p.rules.getD i default).guards.take k) (acc:=xg (p.rules.take i))
 have h2:=OQ (l:=(p.rules.take i).flatMap Rule.guards) (acc:=[])
 have h3:=(hp.rule i).guards
 have h4:((p.rules.take i).flatMap Rule.guards).length<=(p.rules.flatMap Rule.guards).length:=by
  conv=>rhs; rw[<- List.take_append_drop i p.rules,List.flatMap_append,List.length_append]
  omega
 have h5:=hp.qp
 have h6:((p.rules.getD i default).guards.take k).length<=(p.rules.getD i default).guards.length:=by simp[List.length_take]; omega
 unfold xk
 unfold xg at h1 ⊢
 simp only[List.length_nil,Nat.zero_add] at h2
 omega
theorem Kw(p:aU){i:Nat}(hi:i<p.rules.length):xg (p.rules.take (i+1))=xk p i (p.rules.getD i default).guards.length:=by
 unfold xk
 rw[List.take_of_length_le (Nat.le_refl _)]
 unfold xg
 rw[List.take_add_one,List.flatMap_append,List.foldl_append]
 simp[List.getElem?_eq_getElem hi]
theorem S.iW(p:aU)(hp:dh p):ak Tryz.prog 85 [.dat (.dF p)] (.row 7 false (.qp (xg p.rules))):=by
 have hp1:=hp.rules
 refine ak.of Bd.iW (by simp) rfl rfl ?_
 conv=>whnf
 refine aJ.nil 3 161 7 (by rfl) rfl rfl rfl ?_
 refine aJ.objs 1 [9,10] (fun i:Nat=>[(11,.int i),(3,.own 0)]) (fun i=>[(0,rowT (xg (p.rules.take i)))]) (fun i=>i<=p.rules.length) (fun i=>p.rules.length-i) 0 [7] rfl (by decide) (fun _=>rfl) (Nat.zero_le _) ?_ ?_ ?_
 ·exact⟨⟨_,rfl,.eq rfl⟩,⟨_,rfl,.eq rfl⟩,trivial⟩
 ·exact⟨⟨rfl,nofun,rfl,rfl,rfl,_,rfl,rfl,rfl,bn.of_eq rfl⟩,trivial⟩
 conv=>whnf
 refine⟨⟨⟨_,rfl,.eq rfl⟩,⟨_,rfl,.eq rfl⟩,trivial⟩,rfl,?_⟩
 rintro i hi
 conv=>whnf
 refine⟨fun h3=>?_,fun h3=>?_⟩
 ·have hi':i<p.rules.length:=by simpa using h3
  conv=>whnf
  refine .mk (by simp only[Rw.rng] at *; first|omega|(simp_all; done)|(simp_all; omega)) ?_
  conv=>whnf
  refine aJ.objs 1 [9,10,11,16,17] (fun k:Nat=>[(18,.int k),(3,.own 0)]) (fun k=>[(0,rowT (xk p i k))]) (fun k=>k<=(p.rules.getD i default).guards.length) (fun k=>(p.rules.getD i default).guards.length-k) 0 [0] rfl (by decide) (fun _=>rfl) (Nat.zero_le _) ?_ ?_ ?_
  ·exact⟨⟨_,rfl,.eq rfl⟩,⟨_,rfl,.eq rfl⟩,trivial⟩
  ·exact⟨⟨rfl,nofun,rfl,rfl,rfl,_,rfl,rfl,rfl,bn.of_eq rfl⟩,trivial⟩
  conv=>whnf
  refine⟨⟨⟨_,rfl,.eq rfl⟩,⟨_,rfl,.eq rfl⟩,⟨_,rfl,.eq rfl⟩,⟨_,rfl,.eq rfl⟩,⟨_,rfl,.eq rfl⟩,trivial⟩,rfl,?_⟩
  rintro k hk
  have hacc:=OC p hp i k hi'
  have hg:=(hp.rule i).guards
  conv=>whnf
  refine⟨fun h4=>?_,fun h4=>?_⟩
  ·have hk':k<(p.rules.getD i default).guards.length:=by simpa using h4
   have hst:xk p i (k+1)=FN (xk p i k) ((p.rules.getD i default).guards.getD k default):=zI hk'
   conv=>whnf
   refine .mk (by simp only[Rw.rng] at *; first|omega|(simp_all; done)|(simp_all; omega)) ?_
   conv=>whnf
   refine ah.lend (S.OO (xk p i k) ((p.rules.getD i default).guards.getD k default) false (by omega)) (And.intro (XQ trivial rfl) (And.intro (aB _) trivial)) rfl rfl ?_
   conv=>whnf
   refine⟨fun h5=>?_,fun h5=>?_⟩
   ·conv=>whnf
    repeat(refine VC.mk (by first|(show((xk p i k).length+(0+1))*48<=140737488355328/\(xk p i k).length+(0+1)<=1152921504606846976; omega)|(simp only[okI] at *; first|omega|(simp_all; done)|(simp_all; omega))) ?_; conv=>whnf)
    have h5':((xk p i k).any fun x=>(p.rules.getD i default).guards.getD k default==x)=false:=by simpa using h5
    refine⟨k+1,[13],by omega,by omega,⟨⟨_,rfl,.eq rfl⟩,⟨_,rfl,.eq rfl⟩,trivial⟩,⟨⟨_,rfl,.eq rfl⟩,⟨_,rfl,.eq rfl⟩,⟨_,rfl,.eq rfl⟩,⟨_,rfl,.eq rfl⟩,⟨_,rfl,.eq rfl⟩,trivial⟩,⟨rfl,nofun,rfl,rfl,rfl,_,rfl,rfl,rfl,bn.of_eq ?_⟩,trivial⟩
    rw[hst,FN,h5']
    rfl
   ·conv=>whnf
    refine .mk (by simp only[okI] at *; first|omega|(simp_all; done)|(simp_all; omega)) ?_
    conv=>whnf
    have h5':((xk p i k).any fun x=>(p.rules.getD i default).guards.getD k default==x)=true:=by simpa using h5
    refine⟨k+1,[0],by omega,by omega,⟨⟨_,rfl,.eq rfl⟩,⟨_,rfl,.eq rfl⟩,trivial⟩,⟨⟨_,rfl,.eq rfl⟩,⟨_,rfl,.eq rfl⟩,⟨_,rfl,.eq rfl⟩,⟨_,rfl,.eq rfl⟩,⟨_,rfl,.eq rfl⟩,trivial⟩,⟨rfl,nofun,rfl,rfl,rfl,_,rfl,rfl,rfl,bn.of_eq ?_⟩,trivial⟩
    rw[hst,FN,h5']; rfl
  ·have hk':(p.rules.getD i default).guards.length<=k:=by simpa using h4
   have e:k=(p.rules.getD i default).guards.length:=Nat.le_antisymm hk hk'
   subst e
   conv=>whnf
   refine .mk (by simp only[okI] at *; first|omega|(simp_all; done)|(simp_all; omega)) ?_
   conv=>whnf
   refine⟨i+1,[0],by omega,by omega,⟨⟨_,rfl,.eq rfl⟩,⟨_,rfl,.eq rfl⟩,trivial⟩,⟨⟨_,rfl,.eq rfl⟩,⟨_,rfl,.eq rfl⟩,trivial⟩,⟨rfl,nofun,rfl,rfl,rfl,_,rfl,rfl,rfl,bn.of_eq ?_⟩,trivial⟩
   rw[Kw p hi']
 ·have hi':p.rules.length<=i:=by simpa using h3
  rw[List.take_of_length_le hi']
  conv=>whnf
  exact au.ac6 rfl
def sK(p:aU):Bool:=decide (p.topology<1)||decide (p.topology>4)||decide (p.fault<0)||decide (p.fault>3)
def ug(p:aU):Bool:=decide ((p.states.length:Int)>6)||decide ((p.messages.length:Int)>3)||decide ((p.values.length:Int)>3)||decide ((p.bU.length:Int)>4)||decide ((p.rules.length:Int)>8)
def OD(p:aU):Bool:=(!(p.topology==1)&&(decide ((p.messages.length:Int)>0)||decide ((p.values.length:Int)>0)||decide ((p.bU.length:Int)>0)||p.fault !=0))||((p.topology==1)&&decide ((p.leader.length:Int)>0))
def wu(p:aU):Int:=aQ [dU p.initial p.states.length,eu ((p.initial.length:Int)==0) 1,dU p.leader p.states.length]
def Bo(p:aU):Int:=aQ ((List.range p.rules.length).map (fZ p))
def dn(p:aU):Int :=
 bif !(validName p.name) then 2 else bif sK p then 1 else bif (p.states.length:Int)==0 then 1 else bif ug p then 4 else
 bif yu p !=0 then yu p else bif OD p then 1 else
 bif p.bU.any (fun l=> !(Ox l)) then 4 else
 bif wu p !=0 then wu p else
 bif Bo p !=0 then Bo p else eu (decide (((xg p.rules).length:Int)>3)) 4
theorem IK{n i:Nat}{f:Nat->Int}(h:i<n):((List.range n).drop i).map f=f i::((List.range n).drop (i+1)).map f:=by
 rw[List.drop_eq_getElem_cons (by simpa using h)]; simp
theorem S.iK(p:aU)(hp:dh p):ak Tryz.prog 61 [.dat (.dF p)] (.int (dn p)):=by
 have g1:=hp.states; have g2:=hp.messages; have g3:=hp.values; have g4:=hp.bU; have g5:=hp.initial; have g6:=hp.leader; have g7:=hp.rules
 refine ak.of Bd.iK (by simp) rfl rfl ?_
 conv=>whnf
 refine ah.pure (S.fG p.name) rfl ?_
 conv=>whnf
 refine⟨fun h1=>?_,fun h1=>?_⟩
 ·conv=>whnf
  exact au.int (by rw[dn,h1]; rfl)
 conv=>whnf
 repeat(refine VC.mk (by first|exact id|(intro h; rw[h]; rfl)) ?_; conv=>whnf)
 refine⟨fun h2=>?_,fun h2=>?_⟩
 ·conv=>whnf
  exact au.int (by rw[dn,h1,show sK p=true from h2]; rfl)
 conv=>whnf
 refine⟨fun h3=>?_,fun h3=>?_⟩
 ·conv=>whnf
  exact au.int (by rw[dn,h1,show sK p=false from h2,h3]; rfl)
 conv=>whnf
 repeat(refine VC.mk (by first|exact id|(intro h; rw[h]; rfl)) ?_; conv=>whnf)
 refine⟨fun h4=>?_,fun h4=>?_⟩
 ·conv=>whnf
  exact au.int (by rw[dn,h1,show sK p=false from h2,h3,show ug p=true from h4]; rfl)
 conv=>whnf
 have h0:0<p.states.length:=by
  rcases Nat.eq_zero_or_pos p.states.length with e|e
  ·rw[e] at h3; exact absurd h3 (by decide)
  ·exact e
 refine ah.pure (S.ng p h0 g1 g2 g3) rfl ?_
 conv=>whnf
 refine⟨fun h5=>?_,fun h5=>?_⟩
 ·conv=>whnf
  exact au.int (by rw[dn,h1,show sK p=false from h2,h3,show ug p=false from h4,h5]; rfl)
 conv=>whnf
 repeat(refine VC.mk (by first|exact id|(intro h; rw[h]; rfl)|(intro h; simp_all; done)) ?_; conv=>whnf)
 refine⟨fun h6=>?_,fun h6=>?_⟩
 ·conv=>whnf
  exact au.int (by rw[dn,h1,show sK p=false from h2,h3,show ug p=false from h4,h5,show OD p=true from h6]; rfl)
 conv=>whnf
 refine aJ.same [1,4,111,112] (fun i:Nat=>[(113,.int i)]) (fun i=>i<=p.bU.length/\(p.bU.take i).any (fun l=> !(Ox l))=false) (fun i=>p.bU.length-i) 0 rfl (by decide) rfl (fun _=>rfl) ⟨by omega,by simp⟩ ⟨⟨_,rfl,rfl⟩,trivial⟩ ?_
 conv=>whnf
 refine⟨rfl,?_⟩
 rintro i ⟨hi,hall⟩
 conv=>whnf
 refine⟨fun h7=>?_,fun h7=>?_⟩
 ·have hi':i<p.bU.length:=by simpa using h7
  conv=>whnf
  refine .mk (by simp only[Rw.rng] at *; omega) ?_
  conv=>whnf
  refine ah.pure (S.jl (p.bU.getD i default)) rfl ?_
  conv=>whnf
  refine⟨fun h8=>?_,fun h8=>?_⟩
  ·conv=>whnf
   exact au.int (by rw[dn,h1,show sK p=false from h2,h3,show ug p=false from h4,h5,show OD p=false from h6,jq (d:=default) hi' h8]; rfl)
  ·conv=>whnf
   refine .mk (by simp only[okI] at *; omega) ?_
   conv=>whnf
   refine⟨i+1,⟨by omega,?_⟩,by omega,⟨⟨_,rfl,rfl⟩,trivial⟩,?_,rfl⟩
   ·rw[lJ (d:=default) hi' hall]; exact h8
   ·repeat' (first|exact trivial|exact⟨_,rfl,rfl⟩|constructor)
 have hi':p.bU.length<=i:=by simpa using h7
 rw[List.take_of_length_le hi'] at hall
 conv=>whnf
 refine ah.pure (S.dM p.initial p.states.length false (by omega)) rfl ?_
 conv=>whnf
 refine ah.pure (S.bP ((p.initial.length:Int)==0) 1) rfl ?_
 conv=>whnf
 refine ah.pure (S.dM p.leader p.states.length false (by omega)) rfl ?_
 conv=>whnf
 refine ah.pure (S.bM [dU p.initial p.states.length,eu ((p.initial.length:Int)==0) 1,dU p.leader p.states.length] true (show 3<2^40 by decide)) rfl ?_
 conv=>whnf
 refine⟨fun h9=>?_,fun h9=>?_⟩
 ·conv=>whnf
  exact au.int (by rw[dn,h1,show sK p=false from h2,h3,show ug p=false from h4,h5,show OD p=false from h6,hall,show(wu p !=0)=true from h9]; rfl)
 conv=>whnf
 refine aJ.same [1,140,141] (fun i:Nat=>[(142,.int i)]) (fun i=>i<=p.rules.length/\Bo p=aQ (((List.range p.rules.length).drop i).map (fZ p))) (fun i=>p.rules.length-i) 0 rfl (by decide) rfl (fun _=>rfl) ⟨by omega,by simp[Bo]⟩ ⟨⟨_,rfl,rfl⟩,trivial⟩ ?_
 conv=>whnf
 refine⟨rfl,?_⟩
 rintro i ⟨hi,hr⟩
 conv=>whnf
 refine⟨fun h10=>?_,fun h10=>?_⟩
 ·have hi':i<p.rules.length:=by simpa using h10
  rw[IK hi'] at hr
  simp only[aQ] at hr
  conv=>whnf
  refine ah.pure (S.jD p i hi' hp) rfl ?_
  conv=>whnf
  refine⟨fun h11=>?_,fun h11=>?_⟩
  ·conv=>whnf
   have ab3:fZ p i≠0:=JB h11
   rw[if_neg ab3] at hr
   exact au.int (by rw[dn,h1,show sK p=false from h2,h3,show ug p=false from h4,h5,show OD p=false from h6,hall,show(wu p !=0)=false from h9,hr,h11]; rfl)
  ·conv=>whnf
   refine .mk (by simp only[okI] at *; omega) ?_
   conv=>whnf
   have ab3:fZ p i=0:=xw h11
   rw[if_pos ab3] at hr
   refine⟨i+1,⟨by omega,hr⟩,by omega,⟨⟨_,rfl,rfl⟩,trivial⟩,?_,rfl⟩
   repeat' (first|exact trivial|exact⟨_,rfl,rfl⟩|constructor)
 have hi':p.rules.length<=i:=by simpa using h10
 rw[List.drop_eq_nil_of_le (by simpa using hi')] at hr
 conv=>whnf
 refine ah.pure (S.iW p hp) rfl ?_
 conv=>whnf
 refine ah.pure (S.bP (decide (((xg p.rules).length:Int)>3)) 4) rfl ?_
 conv=>whnf
 exact au.int (by rw[dn,h1,show sK p=false from h2,h3,show ug p=false from h4,h5,show OD p=false from h6,hall,show(wu p !=0)=false from h9,hr]; rfl)
theorem au.eqv{a b:V}{h:Hz}(e:a.aG=b.aG):au a b h:=⟨by rw[e]; exact aB _⟩
def OG(acc:Bool)(r:Rule):Bool:=acc&&(r.kind==1)&&decide (r.fr<r.to)&&((r.ex.length:Int)==0)&&((r.all.length:Int)==0)
def U7(acc:Bool)(r:Rule):Bool:=acc||decide ((r.all.length:Int)>0)
def sF(p:aU):Bool:=(p.topology==1)&&(p.fault==0)&&((p.messages.length:Int)==0)&&((p.bU.length:Int)==0)
structure Cls where
 Qp:Bool
 cover:Bool
 word:Bool
 tree:Bool
 monadic:Bool
def jQ(p:aU):Cls :=
 ⟨(p.topology==1)&&((p.values.length:Int)==0)&&p.rules.foldl OG true,sF p&& !(p.rules.foldl U7 false),(p.topology==2)||(p.topology==3),p.topology==4,sF p&&decide ((p.states.length:Int)<=4)⟩
def ac7(c:Cls):V:=.agg [.bool c.Qp,.bool c.cover,.bool c.word,.bool c.tree,.bool c.monadic]
def JA:Cls:=⟨false,false,false,false,false⟩
def EU(p:aU):V:=.fK [ac7 (bif dn p !=0 then JA else jQ p),.int (dn p)]
theorem S.jR(p:aU)(hp:dh p):ak Tryz.prog 37 [.dat (.dF p)] (EU p):=by
 have g1:=hp.states; have g2:=hp.messages; have g3:=hp.values; have g4:=hp.bU; have g7:=hp.rules
 refine ak.of Bd.jR (by simp) rfl rfl ?_
 conv=>whnf
 refine ah.pure (S.iK p hp) rfl ?_
 conv=>whnf
 refine⟨fun h1=>?_,fun h1=>?_⟩
 ·conv=>whnf
  refine au.eqv ?_
  rw[EU,h1]; rfl
 have h1':dn p=0:=xw h1
 conv=>whnf
 refine aJ.same [1,2,3,18,19] (fun i:Nat=>[(20,.int i),(5,.bool ((p.rules.take i).foldl OG true)),(6,.bool ((p.rules.take i).foldl U7 false))]) (fun i=>i<=p.rules.length) (fun i=>p.rules.length-i) 0 rfl (by decide) rfl (fun _=>rfl) (Nat.zero_le _) ⟨⟨_,rfl,rfl⟩,⟨_,rfl,rfl⟩,⟨_,rfl,rfl⟩,trivial⟩ ?_
 conv=>whnf
 refine⟨rfl,?_⟩
 rintro i hi
 have g8:=hp.rule i
 have g9:=g8.ex; have g10:=g8.all
 conv=>whnf
 refine⟨fun h7=>?_,fun h7=>?_⟩
 ·have hi':i<p.rules.length:=by simpa using h7
  conv=>whnf
  repeat(refine VC.mk (by first|exact id|exact fun h=>⟨h,h⟩|(intro h; rw[h]; rfl)|(simp only[okI,Rw.rng] at *; omega)) ?_; conv=>whnf)
  refine⟨i+1,by omega,by omega,⟨⟨_,rfl,rfl⟩,⟨_,rfl,?_⟩,⟨_,rfl,?_⟩,trivial⟩,?_,rfl⟩
  ·rw[zI (d:=default) hi']; rfl
  ·rw[zI (d:=default) hi']; rfl
  ·repeat' (first|exact trivial|exact⟨_,rfl,rfl⟩|constructor)
 have hi':p.rules.length<=i:=by simpa using h7
 rw[List.take_of_length_le hi']
 conv=>whnf
 repeat(refine VC.mk (by first|exact id|(intro h; rw[h]; rfl)) ?_; conv=>whnf)
 refine au.eqv ?_
 rw[EU,h1']
 rfl
def lu(r:Rule)(t:Int):Bool :=
 bif !(r.kind==1)&&(decide ((r.guards.length:Int)>0)||decide ((r.ex.length:Int)>0)||decide ((r.all.length:Int)>0)||decide ((r.send.length:Int)>0)) then true else
 bif !(r.kind==1)&& !(r.kind==2)&& !(r.kind==3)&&(r.read != -1||r.write != -1) then true else
 bif !(r.kind==2)&& !(r.kind==5)&&(r.jd !=0||r.CQ !=0) then true else
 bif (!(r.kind==3)&&decide ((r.response.length:Int)>0))||(!(r.kind==5)&&r.direction !=0) then true else
 bif !(r.kind==4)&&(r.pos !=0||decide ((r.left.length:Int)>0)||decide ((r.right.length:Int)>0)) then true else
 decide ((r.parent.length:Int)>0)&& !((r.kind==4)&&(t==4))
theorem gt0{n:Nat}:decide ((n:Int)>0)= !(n==0):=by
 cases n with
 |zero=>rfl
 |succ n=>rw[decide_eq_true (by omega)]; rfl
theorem adP(a b c d e f g h:Nat):decide ((a:Int)+b+c+d+e+f+g+h>0)=(!(a==0)|| !(b==0)|| !(c==0)|| !(d==0)|| !(e==0)|| !(f==0)|| !(g==0)|| !(h==0)):=by
 rw[Bool.eq_iff_iff]
 simp only[decide_eq_true_eq,Bool.or_eq_true,Bool.not_eq_true',beq_eq_false_iff_ne,ne_eq]
 omega
theorem yT{r:Rule}{t:Int}(h:1<=r.kind/\r.kind<=5):lu r t=jW r t:=by
 have hk:r.kind=1\/r.kind=2\/r.kind=3\/r.kind=4\/r.kind=5:=by omega
 simp only[lu,jW,Cm,gt0,adP,bne]
 generalize (r.guards.length==0)=g1
 generalize (r.ex.length==0)=g2
 generalize (r.all.length==0)=g3
 generalize (r.send.length==0)=g4
 generalize (r.response.length==0)=g5
 generalize (r.left.length==0)=g6
 generalize (r.right.length==0)=g7
 generalize (r.parent.length==0)=g8
 generalize (r.read== -1)=g9
 generalize (r.write== -1)=g10
 generalize (r.jd==0)=g11
 generalize (r.CQ==0)=g12
 generalize (r.direction==0)=g13
 generalize (r.pos==0)=g14
 rcases hk with hk|hk|hk|hk|hk<;>rw[hk] <;>
  (first
   |(simp; done)
   |(cases (t==4)<;>simp<;>grind)
   |(simp; grind))
end Go.Proofs.YtbfhebmdcpmfaaaGreatDoor
