/-
 familychecklaw09.FairHelps, as a contract. No condition.
-/
import Derived.Test.YtajmbgljnaljiaaGreatDoorAf
import Derived.Test.YtajmbgljnaljiaaGreatDoorOg
namespace Go.Proofs.YtajmbgljnaljiaaGreatDoor
open Go.Ab Go.Proofs
set_option maxRecDepth 100000
end Go.Proofs.YtajmbgljnaljiaaGreatDoor
namespace Go.Proofs.YtajmbgljnaljiaaGreatDoor
open Go.Ab Go.Proofs
set_option maxRecDepth 100000
theorem ae9(p:aC)(q:Prop')(most:Int):((fwO p q most).getD []).length<2^30:=by
 cases h:fwO p q most with
 |none=>show(0:Nat)<_; decide
 |some w =>
  show w.length<_
  unfold fwO at h
  by_cases h0:fwE p q most=0
  ·rw[if_pos h0] at h
   have hw:=(wJ.1 (List.mem_of_find?_eq_some h)).1
   have hk:GK p q 2=0:=by
    unfold fwE at h0
    cases hb:(GK p q 2 !=0) with
    |false=>simpa using hb
    |true=>rw[hb] at h0; exact h0
   have:=(kU (gu (lS (uT (G7 hk)))).1).states
   omega
  ·rw[if_neg h0] at h; cases h
theorem S.mM(p:aC)(q:Prop')(most:Int)(hp:dL p)(hq:iF q):aj Tryz.prog 6 [.dat (.iE p),.dat (.prop q),.int most] (.bool true):=by
 have hl:=ae9 p q most
 refine aj.of Bd.mM (by simp) rfl rfl ?_
 conv=>whnf
 refine ah.pure (S.jF p q most hp hq) rfl ?_
 conv=>whnf
 refine ah.pure (S.mJ p q most hp hq) rfl ?_
 unfold ZG
 generalize fwE p q most=e
 generalize (fwO p q most).isSome=b
 generalize (fwO p q most).getD []=l at hl
 conv=>whnf
 repeat(refine VC.mk (by first|exact id|exact fun h=>⟨h,h⟩) ?_; conv=>whnf)
 refine ah.dM (fun _=>S.Nz l false false hl) rfl ?_
 conv=>whnf
 refine VC.mk id ?_
 conv=>whnf
 refine ah.dM (fun _=>S.RS) rfl ?_
 conv=>whnf
 refine VC.mk id ?_
 conv=>whnf
 exact ak.bool (by simp)
abbrev afa(p:aC)(q:Prop')(w:List Int)(i:Nat):List (Nat×OV):=[(0,LV p),(1,pF q),(5,nN ((w.take i).map fun x=>2*x)),(6,nN ((w.take i).map fun x=>x+1))]
set_option maxHeartbeats 4000000 in
theorem S.lq(p:aC)(q:Prop')(w:List Int)(hp:dL p)(hq:iF q)(hw:w.length<2^30):aj Tryz.prog 7 [.dat (.iE p),.dat (.prop q),.row 0 false (.ints w)] (.bool true):=by
 refine aj.of Bd.lq (by simp) rfl rfl ?_
 conv=>whnf
 refine ah.pure (S.nV p w false hw) rfl ?_
 conv=>whnf
 refine⟨fun h1=>?_,fun h1=>?_⟩
 ·conv=>whnf
  refine ah.pure (S.RS) rfl ?_
  conv=>whnf
  exact ak.bool rfl
 ·have hv:Gz p w=true:=by simpa using h1
  obtain⟨v1,v2⟩:=OC hv
  have ht:=aa0 (q:=q) hv
  have hm:=ac1 (q:=q) hv
  conv=>whnf
  refine aB.nil 7 3 0 (by rfl) rfl rfl rfl ?_
  refine aB.nil 8 3 0 (by rfl) rfl rfl rfl ?_
  refine aB.fam 20 [2,3,4] (fun i:Nat=>[(9,.int i),(7,.own 5),(8,.own 6)]) (fun i=>mZ (afa p q w i)) (fun i=>i<=w.length) (fun i=>w.length-i) 0 (dX (afa p q w 0) [0,1,10,11]) _ rfl (by decide) (fun _=>rfl) (Nat.zero_le _) (sR rfl) (.inl rfl) ?_ ?_
  ·exact gG.lits _ _ ⟨aT rfl rfl,aT rfl rfl,aT rfl rfl,aT rfl rfl,trivial⟩
  conv=>whnf
  refine⟨(sR rfl),rfl,?_⟩
  rintro i hi
  have hl1:((w.take i).map fun x=>2*x).length=i:=by rw[List.length_map,List.length_take]; omega
  have hl2:((w.take i).map fun x=>x+1).length=i:=by rw[List.length_map,List.length_take]; omega
  conv=>whnf
  refine⟨fun h2=>?_,fun h2=>?_⟩
  ·have hi':i<w.length:=by simpa using h2
   have hg:=Wp v2 i
   have m1:=vT (f:=fun x:Int=>2*x) (d:=0) hi'
   have m2:=vT (f:=fun x:Int=>x+1) (d:=0) hi'
   conv=>whnf
   repeat(refine VC.mk (by first|(first|(simp only[okI,Int.toNat_natCast]; omega)|(simp only[nG,nY,Rw.len,List.length_cons,List.length_nil]; omega))|(simp only[Rw.rng] at *; first|omega|(simp_all; done)|(simp_all; omega))) ?_; conv=>whnf)
   refine iH.lits (i+1) (afa p q w (i+1)) [0,1,31,40] _ (.inl rfl) rfl hi' (by omega) (sR rfl) (sR rfl) ⟨aT rfl rfl,aT rfl rfl,okF rfl nofun rfl rfl rfl ⟨rfl,rfl⟩ ?_,okF rfl nofun rfl rfl rfl ⟨rfl,rfl⟩ ?_,trivial⟩
   ·rw[m1]; rfl
   ·rw[m2]; rfl
  ·have hi':w.length<=i:=by simpa using h2
   have e1:(w.take i).map (fun x=>2*x)=w.map fun x=>2*x:=by rw[List.take_of_length_le hi']
   have e2:(w.take i).map (fun x=>x+1)=w.map fun x=>x+1:=by rw[List.take_of_length_le hi']
   rw[<- e1] at ht
   rw[<- e2] at hm
   conv=>whnf
   refine ah.pure (S.fF p q w false hp hq hw) rfl ?_
   conv=>whnf
   refine ah.lend (S.nV p ((w.take i).map fun x=>2*x) false (by omega)) ⟨aF _,xQ trivial rfl,trivial⟩ rfl rfl ?_
   conv=>whnf
   refine .mk (by intro h; simp only[h,true_and]; done) ?_
   conv=>whnf
   refine ah.Nr (fun _=>S.fF p q ((w.take i).map fun x=>2*x) false hp hq (by omega)) (fun _=>⟨aF _,aF _,xQ trivial rfl,trivial⟩) rfl rfl ?_
   conv=>whnf
   repeat(refine VC.mk (by first|exact id|exact fun h=>⟨h,h⟩) ?_; conv=>whnf)
   refine Fork.mk (fun q=>absurd (q.symm.trans (ht)).symm Bool.false_ne_true) (fun _=>?_)
   conv=>whnf
   refine ah.lend (S.nV p ((w.take i).map fun x=>x+1) false (by omega)) ⟨aF _,xQ trivial rfl,trivial⟩ rfl rfl ?_
   conv=>whnf
   refine .mk (by intro h; simp only[h,true_and]; done) ?_
   conv=>whnf
   refine ah.Nr (fun _=>S.fF p q ((w.take i).map fun x=>x+1) false hp hq (by omega)) (fun _=>⟨aF _,aF _,xQ trivial rfl,trivial⟩) rfl rfl ?_
   conv=>whnf
   repeat(refine VC.mk (by first|exact id|exact fun h=>⟨h,h⟩) ?_; conv=>whnf)
   refine Fork.mk (fun q=>absurd (q.symm.trans (hm)).symm Bool.false_ne_true) (fun _=>?_)
   conv=>whnf
   refine ah.pure (S.RS) rfl ?_
   conv=>whnf
   exact ak.bool rfl
end Go.Proofs.YtajmbgljnaljiaaGreatDoor
