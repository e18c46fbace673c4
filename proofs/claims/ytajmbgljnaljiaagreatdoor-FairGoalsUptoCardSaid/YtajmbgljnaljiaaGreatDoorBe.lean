/-
 familychecklaw09.FairGoals, as a contract. No condition.
-/
import Derived.Test.YtajmbgljnaljiaaGreatDoorAf
import Derived.Test.YtajmbgljnaljiaaGreatDoorOg
namespace Go.Proofs.YtajmbgljnaljiaaGreatDoor
open Go.Ab Go.Proofs
set_option maxRecDepth 100000
theorem S.yh(l:List Int)(s:Int)(f:Bool)(hl:l.length<2^40):au Tryz.prog 21 [.row 0 f (.ints l),.int s] (.bool (Dj l s)):=by
 refine au.of Bd.yh (by simp) rfl rfl ?_
 conv=>whnf
 refine aP.same [0,1] (fun i:Nat=>[(5,.int i)]) (fun i=>i<=l.length/\(l.take i).any (fun x=>s==x)=false) (fun i=>l.length-i) 0 rfl (by decide) rfl (fun _=>rfl) ⟨by omega,by simp⟩ ⟨⟨_,rfl,rfl⟩,trivial⟩ ?_
 conv=>whnf
 refine⟨rfl,?_⟩
 rintro i ⟨hi,hall⟩
 conv=>whnf
 refine⟨fun h3=>?_,fun h3=>?_⟩
 ·have hi':i<l.length:=by simpa using h3
  conv=>whnf
  refine .mk (by simp only[Rw.rng] at *; first|omega|(simp_all; done)|(simp_all; omega)) ?_
  conv=>whnf
  refine⟨fun h4=>?_,fun h4=>?_⟩
  ·have h4':(s==l.getD i 0)=true:=by rw[show(s==l.getD i 0)=(l.getD i 0==s) from Bool.beq_comm]; exact h4
   conv=>whnf
   exact aG.bool (sH (d:=0) hi' h4')
  ·have h4':(s==l.getD i 0)=false:=by rw[show(s==l.getD i 0)=(l.getD i 0==s) from Bool.beq_comm]; exact h4
   conv=>whnf
   refine .mk (by simp only[okI] at *; first|omega|(simp_all; done)|(simp_all; omega)) ?_
   conv=>whnf
   refine⟨i+1,⟨by omega,?_⟩,by omega,⟨⟨_,rfl,rfl⟩,trivial⟩,?_,rfl⟩
   ·rw[xY (d:=0) hi' hall]; exact h4'
   ·repeat' (first|exact trivial|exact⟨_,rfl,rfl⟩|constructor)
 ·have hi':l.length<=i:=by simpa using h3
  rw[List.take_of_length_le hi'] at hall
  conv=>whnf
  exact aG.bool hall
def WR(s n:Int):Int:=bif decide (n<1) then 0 else(IntKind.u64.wrap s).tmod n
theorem S.WS(s:Int)(n:Nat)(hn:n<2^40):au Tryz.prog 20 [.int s,.int n] (.int (WR s n)):=by
 have hw:0<=IntKind.u64.wrap s:=Int.emod_nonneg s (by decide)
 show au Tryz.prog 20 [.raw (.lit (.int .i64 s)),.int n] (.int (WR s n))
 refine au.of Bd.mF (by simp) rfl rfl ?_
 conv=>whnf
 refine⟨fun h1=>?_,fun h1=>?_⟩
 ·conv=>whnf
  exact aG.int (by unfold WR; rw[h1]; rfl)
 ·have hn1:(1:Int)<=n:=by simpa using h1
  have h2:0<=(IntKind.u64.wrap s).tmod n:=Int.tmod_nonneg _ hw
  have h3:(IntKind.u64.wrap s).tmod n<n:=Int.tmod_lt_of_pos _ (by omega)
  conv=>whnf
  repeat(refine VC.mk (by first|(simp only[okI]; omega)|omega) ?_; conv=>whnf)
  exact aG.int (by unfold WR; rw[h1]; rfl)
abbrev Rq(p:aH)(q:Prop')(t:Int)(i:Nat):List (Nat×OV):=[(6,YV p),(7,nX q),(16,.box 30 7 (.agg [.str q.name,.int q.kind,.row 0 false (.ints q.start),.row 3 false (.cnts q.bad),.row 0 false (.ints q.adjacent),.own 27])),(27,xK (nR t q.goal i))]
set_option maxHeartbeats 4000000 in
theorem S.kN(p:aH)(q:Prop')(w:List Int)(s:Int)(hp:gq p)(hq:jO q)(hw:w.length<2^30):au Tryz.prog 8 [.agg ((Dat.mJ p).cells++(Dat.prop q).cells),.row 0 false (.ints w),.int s] (.bool true):=by
 have hst:=hp.states
 have hgl:=hq.goal
 refine au.of Bd.kN (by simp) rfl rfl ?_
 conv=>whnf
 refine ah.pure (S.eX p q w false hp hq hw) rfl ?_
 conv=>whnf
 refine⟨fun h1=>?_,fun h1=>?_⟩
 ·conv=>whnf
  refine ah.pure (S.WT) rfl ?_
  conv=>whnf
  exact aG.bool rfl
 ·have hv:Zc p q w=true:=by simpa using h1
  conv=>whnf
  refine ah.pure (S.WS s p.states.length (by omega)) rfl ?_
  generalize WR s p.states.length=t
  conv=>whnf
  refine aP.abu 16 5 3 0 (cs:=[.str q.name,.int q.kind,.row 0 false (.ints q.start),.row 3 false (.cnts q.bad),.row 0 false (.ints q.adjacent),zx]) rfl (by show 5<6; decide) rfl rfl (by decide) ?_
  refine aP.fam 30 [1,2,7,8,9] (fun i:Nat=>[(10,.int i)]) (fun i=>ng (Rq p q t i)) (fun i=>i<=p.states.length) (fun i=>p.states.length-i) 0 (dR (Rq p q t 0) [6,7,16,27]) _ rfl (by decide) (fun _=>rfl) (Nat.zero_le _) (sR rfl) (.inl rfl) ?_ ?_
  ·exact gJ.lits _ _ ⟨cu rfl rfl,cu rfl rfl,nV rfl rfl rfl ⟨rfl,rfl⟩ (dL.of_eq rfl),cu rfl rfl,trivial⟩
  conv=>whnf
  refine⟨(sR rfl),rfl,?_⟩
  rintro i hi
  have hgn:=PL (s:=t) (l:=q.goal) (i:=i)
  have ae5:=TS (s:=t) (l:=q.goal) (i:=i)
  conv=>whnf
  refine⟨fun h2=>?_,fun h2=>?_⟩
  ·have hi':i<p.states.length:=by simpa using h2
   conv=>whnf
   repeat(refine VC.mk (by first|exact id|exact fun h=>⟨h,h⟩) ?_; conv=>whnf)
   refine ah.jC (fun _=>S.yh q.goal i false (by omega)) rfl ?_
   conv=>whnf
   refine .mk (by intro h; rw[h]; rfl) ?_
   conv=>whnf
   refine⟨fun h3=>?_,fun h3=>?_⟩
   ·rw[if_pos (show vI t q.goal i=true from h3)] at hgn
    conv=>whnf
    repeat(refine VC.mk (by first|(simp only[okI]; omega)|(simp only[o8,qF,Rw.len,List.length_cons,List.length_nil]; omega)) ?_; conv=>whnf)
    refine jM.lits (i+1) (Rq p q t (i+1)) [6,7,16,48] _ (.inl rfl) rfl hi' (by omega) (sR rfl) (sR rfl) ⟨cu rfl rfl,cu rfl rfl,nV rfl rfl rfl ⟨rfl,rfl⟩ (dL.of_eq rfl),okF rfl nofun rfl rfl rfl ⟨rfl,rfl⟩ ?_,trivial⟩
    rw[hgn]
   ·rw[if_neg (by rw[show vI t q.goal i=false from h3]; decide)] at hgn
    conv=>whnf
    refine .mk (by simp only[okI] at *; first|omega|(simp_all; done)|(simp_all; omega)) ?_
    conv=>whnf
    refine jM.lits (i+1) (Rq p q t (i+1)) [6,7,16,27] _ (.inl rfl) rfl hi' (by omega) (sR rfl) (sR rfl) ⟨cu rfl rfl,cu rfl rfl,nV rfl rfl rfl ⟨rfl,rfl⟩ (dL.of_eq rfl),okF rfl nofun rfl rfl rfl ⟨rfl,rfl⟩ ?_,trivial⟩
    rw[hgn]
  ·have hi':p.states.length<=i:=by simpa using h2
   obtain rfl:i=p.states.length:=Nat.le_antisymm hi hi'
   have hm:jO (vJ p q t):=⟨hq.start,hq.bad,hq.adjacent,by show(nR t q.goal p.states.length).length<2^30; omega,hq.cnt⟩
   conv=>whnf
   refine ah.lend (S.eX p (vJ p q t) w false hp hm hw) ⟨aB _,⟨aB _,aB _,aB _,aB _,aB _,D6 trivial rfl,trivial⟩,aB _,trivial⟩ rfl rfl ?_
   conv=>whnf
   refine ah.jC (fun _=>S.WT) rfl ?_
   conv=>whnf
   refine VC.mk id ?_
   conv=>whnf
   exact aG.bool (by rw[WQ hv]; rfl)
end Go.Proofs.YtajmbgljnaljiaaGreatDoor
