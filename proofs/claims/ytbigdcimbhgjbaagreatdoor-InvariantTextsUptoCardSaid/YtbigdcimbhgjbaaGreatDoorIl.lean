/-
 Texts: what a text may say, by the reference. No condition.
-/
import Derived.Test.YtbigdcimbhgjbaaGreatDoorIk
import Derived.Test.YtbigdcimbhgjbaaGreatDoorIa
namespace Go.Proofs.YtbigdcimbhgjbaaGreatDoor
open Go.Ab Go.Proofs
set_option maxRecDepth 100000
def Qi(p:aS):Clause->List Str->Option Clause
 |k,[]=>some k
 |k,w::ws=>bif (stepW p k w).2 then Qi p (stepW p k w).1 ws else none
theorem WT{p:aS}: ∀ {ws:List Str} {k:Clause},(uQ p k false ws).2=false
 |[],_=>rfl
 |_::ws,_=>WT (ws:=ws)
theorem Lc{p:aS}: ∀ {ws:List Str} {k:Clause},(uQ p k true ws).2=(Qi p k ws).isSome/\ ∀ k',Qi p k ws=some k'->(uQ p k true ws).1=k'
 |[],k=>⟨rfl,fun k' h=>by cases h; rfl⟩
 |w::ws,k=>by
  rw[uQ,Qi]
  cases h:(stepW p k w).2 with
  |true=>exact Lc (ws:=ws)
  |false=>exact⟨WT,fun k' h=>by cases h⟩
theorem nI{p:aS}{k:Clause}{w:Str}:stepW p k w=bif og w pY then({k with values:=yL p.values (w.drop 6)},xZ p.values (w.drop 6)) else bif og w rD then({k with some:=yL p.states (w.drop 5)},xZ p.states (w.drop 5)) else(bif xZ p.states w then {k with each:=k.each++[yL p.states w]} else k,xZ p.states w):=by
 unfold stepW yL xZ
 cases og w pY<;>cases og w rD<;>simp only[cond_true,cond_false]
 ·cases ixs p.states w<;>rfl
 ·cases ixs p.states (w.drop 5)<;>rfl
 ·cases ixs p.values (w.drop 6)<;>rfl
 ·cases ixs p.values (w.drop 6)<;>rfl
def clO(k:Clause):List (Nat×OV) :=
 match k.each with
 |[]=>[(2,.box 30 4 (.agg [.row 0 true .nil,.row 0 false (.ints k.values),.row 0 false (.ints k.some)]))]
 |e::r=>[(2,.box 30 4 (.agg [.own 3,.row 0 false (.ints k.values),.row 0 false (.ints k.some)])),(3,CV (e::r))]
def rdV:Option Clause->V
 |some k=>.fH [.dat (.clause k),.bool true]
 |none=>.fH [.dat (.clause D5),.bool false]
theorem rE{Z:Nat->Prop}{h:Hp}:T.sub Z h (.sl 0 false []) (.sl 0 true []):=⟨.inl rfl,.inl rfl,fun h=>by cases h⟩
theorem au.rdN{h:Hz}:au (.fH [.dat (.clause D5),.bool false]) (.fH [.agg [.row 0 true .nil,.row 0 true .nil,.row 0 true .nil],.bool false]) h:=⟨⟨⟨rE,rE,rE,trivial⟩,aB _,trivial⟩⟩
theorem au.rdE{h:Hz}{v q:List Int}{b:Bool}:au (.fH [.dat (.clause ⟨[],v,q⟩),.bool b]) (.fH [.agg [.row 0 true .nil,.row 0 false (.ints v),.row 0 false (.ints q)],.bool b]) h:=⟨⟨⟨rE,aB _,aB _,trivial⟩,aB _,trivial⟩⟩
theorem au.rdO{h:Hz}{j:Nat}{e:List (List Int)}{v q:List Int}{b:Bool}(g:h.get j=some (CV e)):au (.fH [.dat (.clause ⟨e,v,q⟩),.bool b]) (.fH [.agg [.own j,.row 0 false (.ints v),.row 0 false (.ints q)],.bool b]) h:=⟨⟨⟨P6 trivial g,aB _,aB _,trivial⟩,aB _,trivial⟩⟩
theorem FU{w h:Str}(e:og w h=true):h.length<=w.length:=by
 simp only[og,Bool.and_eq_true,decide_eq_true_eq] at e; exact e.1
theorem Ho{b:UInt8}: ∀ {s:Str},∀ w∈aG b s,w.length<=s.length
 |[],w,h=>by rw[aG,List.mem_singleton] at h; subst h; exact Nat.le_refl _
 |c::r,w,h=>by
  obtain⟨x,xs,e1,e2⟩:=zY b c r
  have ih:=Ho (b:=b) (s:=r)
  rw[e1] at ih
  rw[e2] at h
  cases hc:c==b with
  |true =>
   rw[hc,cond_true] at h
   rcases List.mem_cons.1 h with rfl|h
   ·exact Nat.zero_le _
   ·exact Nat.le_succ_of_le (ih w h)
  |false =>
   rw[hc,cond_false] at h
   rcases List.mem_cons.1 h with rfl|h
   ·exact Nat.succ_le_succ (ih x (by simp))
   ·exact Nat.le_succ_of_le (ih w (List.mem_cons_of_mem _ h))
theorem JM{ρ:Nat->Nat}{l:List (List Int)}{x:List Int}{f:Bool}:dD (T.dh ρ (CV (l++[x])).aF.l) (OV.row 24 0 (.jT l) [.row 0 f (.ints x)]).aF.l:=fun Z h=>by
 have e:(CV (l++[x])).aF.l=l.map Go.Ab.ints++[Go.Ab.ints x]:=by simp[OV.aF,Rw.aX,V.aX]
 have e2:T.dh ρ (CV (l++[x])).aF.l=(CV (l++[x])).aF.l:=OV.xR (o:=CV (l++[x])) rfl ρ
 rw[e2,e]
 exact yX (cO _) ⟨⟨.inl rfl,.inl rfl,fun h=>by cases h⟩,trivial⟩
structure RdI(p:aS)(ws:List Str)(x:Nat×Clause):Prop where
 lo:1<=x.1
 hi:x.1<=ws.length
 len:x.2.each.length<=x.1
 rd:Qi p D5 (ws.drop 1)=Qi p x.2 (ws.drop x.1)
theorem S.y8(p:aS)(s:Str)(_hp:dK p)(hs:s.length<2^30)(h1:mX p.states)(h2:mX p.values)(q1:p.states.length<=6)(q2:p.values.length<=3):ak Tryz.prog 21 [.dat (.eu p),.str s] (rdV (Qi p D5 ((aG 32 s).drop 1))):=by
 have hl:=rU (b:=32) (s:=s)
 have hc:s.count 32<=s.length:=List.count_le_length
 refine ak.of Bd.y8 (by simp) rfl (by cases Qi p D5 ((aG 32 s).drop 1)<;>rfl) ?_
 conv=>whnf
 refine ah.pure (S.tZ s 32 hs) rfl ?_
 conv=>whnf
 refine aQ.AL 4 [2,4,6] (fun x:Nat×Clause=>[(8,.int x.1),(7,.ptr 2 0 0)]) (fun x=>(0,.box 27 11 (.dat (.eu p)))::(1,.box 30 4 (.agg [.row 0 true .nil,.row 0 true .nil,.row 0 true .nil]))::clO x.2) (RdI p (aG 32 s)) (fun x=>(aG 32 s).length-x.1) (1,D5) [0,1,6] rfl (by decide) (fun _=>rfl) ⟨Nat.le_refl _,by simp only; omega,Nat.zero_le _,rfl⟩ ?_ ?_ ?_
 ·exact(sR rfl)
 ·exact⟨iG rfl rfl,iG rfl rfl,⟨rfl,nofun,rfl,rfl,_,rfl,rfl,rfl,fun Z h=>⟨⟨aB _,rE,rE,trivial⟩,trivial⟩⟩,trivial⟩
 conv=>whnf
 refine⟨(sR rfl),rfl,?_⟩
 rintro⟨i,each,values,eY⟩ ⟨j1,j2,j3,j4⟩
 simp only at j1 j2 j3 j4
 conv=>whnf
 refine⟨fun h3=>?_,fun h3=>?_⟩
 ·have hi':i<(aG 32 s).length:=by simpa using h3
  have hd:(aG 32 s).drop i=(aG 32 s).getD i []::(aG 32 s).drop (i+1):=by rw[List.drop_eq_getElem_cons hi',getD_in hi']
  have j5:=j4
  rw[hd,Qi] at j5
  have hlW:((aG 32 s).getD i []).length<2^30:=by
   rw[getD_in hi']
   exact Nat.lt_of_le_of_lt (Ho _ (List.getElem_mem _)) hs
  cases each with
  |nil =>
   have hcap:kQ 24 0 (0+1):=by show(0+(0+1))*24<=140737488355328/\0+(0+1)<=1152921504606846976; omega
   conv=>whnf
   refine .mk (by simp only[Rw.rng] at *; first|omega|(simp_all; done)|(simp_all; omega)) ?_
   conv=>whnf
   refine ah.pure (S.mY ((aG 32 s).getD i []) pY) rfl ?_
   conv=>whnf
   refine⟨fun h4=>?_,fun h4=>?_⟩
   ·have h6:6<=(((aG 32 s).getD i []):Str).length:=FU h4
    have hst:stepW p ⟨[],values,eY⟩ ((aG 32 s).getD i [])=(⟨[],yL p.values (((aG 32 s).getD i []).drop 6),eY⟩,xZ p.values (((aG 32 s).getD i []).drop 6)):=by rw[nI,h4]; rfl
    have hln:(((aG 32 s).getD i []).drop 6).length<2^30:=by rw[List.length_drop]; omega
    conv=>whnf
    repeat(refine VC.mk (by simp only[Rw.rng] at *; first|omega|(simp_all; done)|(simp_all; omega)) ?_; conv=>whnf)
    refine ah.pure (S.jm (((aG 32 s).getD i []).drop 6) p.values false hln (by omega) h2) rfl ?_
    cases hb:xZ p.values (((aG 32 s).getD i []).drop 6) with
    |true =>
     rw[hb] at hst
     rw[IZ,hb]
     conv=>whnf
     refine Fork.mk (fun q=>absurd (q.symm.trans ((rfl:(!true)=false))).symm Bool.false_ne_true) (fun _=>?_)
     conv=>whnf
     refine .mk (by simp only[okI] at *; first|omega|(simp_all; done)|(simp_all; omega)) ?_
     conv=>whnf
     conv=>whnf
     refine⟨(i+1,⟨[],yL p.values (((aG 32 s).getD i []).drop 6),eY⟩),[0,1,2],⟨by simp only; omega,by simp only; omega,by simp only[List.length_nil] at j3 ⊢; omega,by rw[j5,hst]; rfl⟩,by simp only; omega,(sR rfl),(sR rfl),iG rfl rfl,iG rfl rfl,vM rfl rfl rfl ⟨rfl,rfl⟩ (dD.of_eq rfl),trivial⟩
    |false =>
     rw[hb] at hst
     rw[j5,hst,IZ,hb]
     conv=>whnf
     refine Fork.mk (fun _=>?_) (fun q=>absurd (q.symm.trans ((rfl:(!false)=true))) Bool.false_ne_true)
     conv=>whnf
     conv=>whnf
     exact au.rdN
   ·conv=>whnf
    refine .mk (by simp only[Rw.rng] at *; first|omega|(simp_all; done)|(simp_all; omega)) ?_
    conv=>whnf
    refine ah.pure (S.mY ((aG 32 s).getD i []) rD) rfl ?_
    conv=>whnf
    refine⟨fun h5=>?_,fun h5=>?_⟩
    ·have h6:5<=(((aG 32 s).getD i []):Str).length:=FU h5
     have hst:stepW p ⟨[],values,eY⟩ ((aG 32 s).getD i [])=(⟨[],values,yL p.states (((aG 32 s).getD i []).drop 5)⟩,xZ p.states (((aG 32 s).getD i []).drop 5)):=by rw[nI,h4,h5]; rfl
     have hln:(((aG 32 s).getD i []).drop 5).length<2^30:=by rw[List.length_drop]; omega
     conv=>whnf
     repeat(refine VC.mk (by simp only[Rw.rng] at *; first|omega|(simp_all; done)|(simp_all; omega)) ?_; conv=>whnf)
     refine ah.pure (S.jm (((aG 32 s).getD i []).drop 5) p.states false hln (by omega) h1) rfl ?_
     cases hb:xZ p.states (((aG 32 s).getD i []).drop 5) with
     |true =>
      rw[hb] at hst
      rw[IZ,hb]
      conv=>whnf
      refine Fork.mk (fun q=>absurd (q.symm.trans ((rfl:(!true)=false))).symm Bool.false_ne_true) (fun _=>?_)
      conv=>whnf
      refine .mk (by simp only[okI] at *; first|omega|(simp_all; done)|(simp_all; omega)) ?_
      conv=>whnf
      conv=>whnf
      refine⟨(i+1,⟨[],values,yL p.states (((aG 32 s).getD i []).drop 5)⟩),[0,1,2],⟨by simp only; omega,by simp only; omega,by simp only[List.length_nil] at j3 ⊢; omega,by rw[j5,hst]; rfl⟩,by simp only; omega,(sR rfl),(sR rfl),iG rfl rfl,iG rfl rfl,vM rfl rfl rfl ⟨rfl,rfl⟩ (dD.of_eq rfl),trivial⟩
     |false =>
      rw[hb] at hst
      rw[j5,hst,IZ,hb]
      conv=>whnf
      refine Fork.mk (fun _=>?_) (fun q=>absurd (q.symm.trans ((rfl:(!false)=true))) Bool.false_ne_true)
      conv=>whnf
      conv=>whnf
      exact au.rdN
    ·have hst:stepW p ⟨[],values,eY⟩ ((aG 32 s).getD i [])=(bif xZ p.states ((aG 32 s).getD i []) then⟨[yL p.states ((aG 32 s).getD i [])],values,eY⟩ else⟨[],values,eY⟩,xZ p.states ((aG 32 s).getD i [])):=by rw[nI,h4,h5]; rfl
     conv=>whnf
     refine .mk (by simp only[Rw.rng] at *; first|omega|(simp_all; done)|(simp_all; omega)) ?_
     conv=>whnf
     refine ah.pure (S.jm ((aG 32 s).getD i []) p.states false hlW (by omega) h1) rfl ?_
     cases hb:xZ p.states ((aG 32 s).getD i []) with
     |true =>
      rw[hb] at hst
      rw[IZ,hb]
      conv=>whnf
      refine .mk (by exact hcap) ?_
      conv=>whnf
      refine Fork.mk (fun q=>absurd (q.symm.trans ((rfl:(!true)=false))).symm Bool.false_ne_true) (fun _=>?_)
      conv=>whnf
      refine .mk (by simp only[okI] at *; first|omega|(simp_all; done)|(simp_all; omega)) ?_
      conv=>whnf
      conv=>whnf
      refine⟨(i+1,⟨[yL p.states ((aG 32 s).getD i [])],values,eY⟩),[0,1,2,38],⟨by simp only; omega,by simp only; omega,by simp only[List.length_cons,List.length_nil] at j3 ⊢; omega,by rw[j5,hst]; rfl⟩,by simp only; omega,(sR rfl),(sR rfl),iG rfl rfl,iG rfl rfl,vM rfl rfl rfl ⟨rfl,rfl⟩ (dD.of_eq rfl),vM rfl rfl rfl ⟨rfl,rfl⟩ (dD.of_eq rfl),trivial⟩
     |false =>
      rw[hb] at hst
      rw[j5,hst,IZ,hb]
      conv=>whnf
      refine .mk (by exact hcap) ?_
      conv=>whnf
      refine Fork.mk (fun _=>?_) (fun q=>absurd (q.symm.trans ((rfl:(!false)=true))) Bool.false_ne_true)
      conv=>whnf
      conv=>whnf
      exact au.rdN
  |cons e r =>
   have hcap:kQ 24 (e::r).length (0+1):=by show((e::r).length+(0+1))*24<=140737488355328/\(e::r).length+(0+1)<=1152921504606846976; omega
   conv=>whnf
   refine .mk (by simp only[Rw.rng] at *; first|omega|(simp_all; done)|(simp_all; omega)) ?_
   conv=>whnf
   refine ah.pure (S.mY ((aG 32 s).getD i []) pY) rfl ?_
   conv=>whnf
   refine⟨fun h4=>?_,fun h4=>?_⟩
   ·have h6:6<=(((aG 32 s).getD i []):Str).length:=FU h4
    have hst:stepW p ⟨e::r,values,eY⟩ ((aG 32 s).getD i [])=(⟨e::r,yL p.values (((aG 32 s).getD i []).drop 6),eY⟩,xZ p.values (((aG 32 s).getD i []).drop 6)):=by rw[nI,h4]; rfl
    have hln:(((aG 32 s).getD i []).drop 6).length<2^30:=by rw[List.length_drop]; omega
    conv=>whnf
    repeat(refine VC.mk (by simp only[Rw.rng] at *; first|omega|(simp_all; done)|(simp_all; omega)) ?_; conv=>whnf)
    refine ah.pure (S.jm (((aG 32 s).getD i []).drop 6) p.values false hln (by omega) h2) rfl ?_
    cases hb:xZ p.values (((aG 32 s).getD i []).drop 6) with
    |true =>
     rw[hb] at hst
     rw[IZ,hb]
     conv=>whnf
     refine Fork.mk (fun q=>absurd (q.symm.trans ((rfl:(!true)=false))).symm Bool.false_ne_true) (fun _=>?_)
     conv=>whnf
     refine .mk (by simp only[okI] at *; first|omega|(simp_all; done)|(simp_all; omega)) ?_
     conv=>whnf
     conv=>whnf
     refine⟨(i+1,⟨e::r,yL p.values (((aG 32 s).getD i []).drop 6),eY⟩),[0,1,2,3],⟨by simp only; omega,by simp only; omega,by simp only[List.length_cons] at j3 ⊢; omega,by rw[j5,hst]; rfl⟩,by simp only; omega,(sR rfl),(sR rfl),iG rfl rfl,iG rfl rfl,vM rfl rfl rfl ⟨rfl,rfl⟩ (dD.of_eq rfl),iG rfl rfl,trivial⟩
    |false =>
     rw[hb] at hst
     rw[j5,hst,IZ,hb]
     conv=>whnf
     refine Fork.mk (fun _=>?_) (fun q=>absurd (q.symm.trans ((rfl:(!false)=true))) Bool.false_ne_true)
     conv=>whnf
     conv=>whnf
     exact au.rdN
   ·conv=>whnf
    refine .mk (by simp only[Rw.rng] at *; first|omega|(simp_all; done)|(simp_all; omega)) ?_
    conv=>whnf
    refine ah.pure (S.mY ((aG 32 s).getD i []) rD) rfl ?_
    conv=>whnf
    refine⟨fun h5=>?_,fun h5=>?_⟩
    ·have h6:5<=(((aG 32 s).getD i []):Str).length:=FU h5
     have hst:stepW p ⟨e::r,values,eY⟩ ((aG 32 s).getD i [])=(⟨e::r,values,yL p.states (((aG 32 s).getD i []).drop 5)⟩,xZ p.states (((aG 32 s).getD i []).drop 5)):=by rw[nI,h4,h5]; rfl
     have hln:(((aG 32 s).getD i []).drop 5).length<2^30:=by rw[List.length_drop]; omega
     conv=>whnf
     repeat(refine VC.mk (by simp only[Rw.rng] at *; first|omega|(simp_all; done)|(simp_all; omega)) ?_; conv=>whnf)
     refine ah.pure (S.jm (((aG 32 s).getD i []).drop 5) p.states false hln (by omega) h1) rfl ?_
     cases hb:xZ p.states (((aG 32 s).getD i []).drop 5) with
     |true =>
      rw[hb] at hst
      rw[IZ,hb]
      conv=>whnf
      refine Fork.mk (fun q=>absurd (q.symm.trans ((rfl:(!true)=false))).symm Bool.false_ne_true) (fun _=>?_)
      conv=>whnf
      refine .mk (by simp only[okI] at *; first|omega|(simp_all; done)|(simp_all; omega)) ?_
      conv=>whnf
      conv=>whnf
      refine⟨(i+1,⟨e::r,values,yL p.states (((aG 32 s).getD i []).drop 5)⟩),[0,1,2,3],⟨by simp only; omega,by simp only; omega,by simp only[List.length_cons] at j3 ⊢; omega,by rw[j5,hst]; rfl⟩,by simp only; omega,(sR rfl),(sR rfl),iG rfl rfl,iG rfl rfl,vM rfl rfl rfl ⟨rfl,rfl⟩ (dD.of_eq rfl),iG rfl rfl,trivial⟩
     |false =>
      rw[hb] at hst
      rw[j5,hst,IZ,hb]
      conv=>whnf
      refine Fork.mk (fun _=>?_) (fun q=>absurd (q.symm.trans ((rfl:(!false)=true))) Bool.false_ne_true)
      conv=>whnf
      conv=>whnf
      exact au.rdN
    ·have hst:stepW p ⟨e::r,values,eY⟩ ((aG 32 s).getD i [])=(bif xZ p.states ((aG 32 s).getD i []) then⟨e::r++[yL p.states ((aG 32 s).getD i [])],values,eY⟩ else⟨e::r,values,eY⟩,xZ p.states ((aG 32 s).getD i [])):=by rw[nI,h4,h5]; rfl
     conv=>whnf
     refine .mk (by simp only[Rw.rng] at *; first|omega|(simp_all; done)|(simp_all; omega)) ?_
     conv=>whnf
     refine ah.pure (S.jm ((aG 32 s).getD i []) p.states false hlW (by omega) h1) rfl ?_
     cases hb:xZ p.states ((aG 32 s).getD i []) with
     |true =>
      rw[hb] at hst
      rw[IZ,hb]
      conv=>whnf
      refine .mk (by exact hcap) ?_
      conv=>whnf
      refine Fork.mk (fun q=>absurd (q.symm.trans ((rfl:(!true)=false))).symm Bool.false_ne_true) (fun _=>?_)
      conv=>whnf
      refine .mk (by simp only[okI] at *; first|omega|(simp_all; done)|(simp_all; omega)) ?_
      conv=>whnf
      conv=>whnf
      refine⟨(i+1,⟨e::r++[yL p.states ((aG 32 s).getD i [])],values,eY⟩),[0,1,2,38],⟨by simp only; omega,by simp only; omega,by simp only[List.length_append,List.length_cons,List.length_nil] at j3 ⊢; omega,by rw[j5,hst]; rfl⟩,by simp only; omega,(sR rfl),(sR rfl),iG rfl rfl,iG rfl rfl,vM rfl rfl rfl ⟨rfl,rfl⟩ (dD.of_eq rfl),⟨rfl,nofun,rfl,rfl,_,rfl,rfl,rfl,JM (l:=e::r) (x:=yL p.states ((aG 32 s).getD i [])) (f:=false)⟩,trivial⟩
     |false =>
      rw[hb] at hst
      rw[j5,hst,IZ,hb]
      conv=>whnf
      refine .mk (by exact hcap) ?_
      conv=>whnf
      refine Fork.mk (fun _=>?_) (fun q=>absurd (q.symm.trans ((rfl:(!false)=true))) Bool.false_ne_true)
      conv=>whnf
      conv=>whnf
      exact au.rdN
 ·have hi':i=(aG 32 s).length:=by have: ¬ ((i:Int)<((aG 32 s).length:Int)):=of_decide_eq_false h3; omega
  rw[j4,List.drop_eq_nil_of_le (by omega)]
  cases each with
  |nil =>
   conv=>whnf
   exact au.rdE
  |cons e r =>
   conv=>whnf
   exact au.rdO rfl
def CB(p:aS)(s:Str):V:=.fH [.dat (.clause (nY p s)),.int (qL p s)]
theorem au.paN{h:Hz}{e:Int}:au (.fH [.dat (.clause D5),.int e]) (.fH [.agg [.row 0 true .nil,.row 0 true .nil,.row 0 true .nil],.int e]) h:=⟨⟨⟨rE,rE,rE,trivial⟩,aB _,trivial⟩⟩
structure VN(k:Clause)(n:Nat):Prop where
 each:k.each.length<=n
 rows: ∀ s∈k.each,s.length<=n
 values:k.values.length<=n
 some:k.some.length<=n
theorem VN.small{k:Clause}{n:Nat}(h:VN k n)(hn:n<2^30):nS k:=by
 refine⟨Nat.lt_of_le_of_lt h.each hn,fun i=>?_,Nat.lt_of_le_of_lt h.values hn,Nat.lt_of_le_of_lt h.some hn⟩
 by_cases hi:i<k.each.length
 ·rw[getD_in hi]; exact Nat.lt_of_le_of_lt (h.rows _ (List.getElem_mem _)) hn
 ·rw[List.getD_eq_getElem?_getD,List.getElem?_eq_none (by omega)]; exact(by decide:(0:Nat)<2^30)
theorem Ld{names:List Str}{s:Str}:(yL names s).length<=s.length+1:=by
 unfold yL ixs
 cases (aG 124 s).any fun w=>decide (iE w names 0<0) with
 |true=>exact Nat.zero_le _
 |false =>
  have:=rU (b:=124) (s:=s)
  have h2:s.count 124<=s.length:=List.count_le_length
  simp only[cond_false,Option.getD_some,List.length_map]; omega
theorem Hq{p:aS}{k:Clause}{w:Str}{n m:Nat}(h:VN k n)(hw:w.length+1<=m)(hm:n+1<=m):VN (stepW p k w).1 m:=by
 have a1:=h.each; have a3:=h.values; have a4:=h.some
 have a2: ∀ s∈k.each,s.length<=m:=fun s hs=>Nat.le_trans (h.rows s hs) (by omega)
 have b1:=Ld (names:=p.values) (s:=w.drop 6)
 have b2:=Ld (names:=p.states) (s:=w.drop 5)
 have b3:=Ld (names:=p.states) (s:=w)
 rw[List.length_drop] at b1 b2
 rw[nI]
 cases og w pY<;>cases og w rD<;>simp only[cond_true,cond_false]
 ·cases xZ p.states w with
  |false=>simp only[cond_false]; exact⟨by omega,a2,by omega,by omega⟩
  |true =>
   refine⟨by simp only[cond_true,List.length_append,List.length_singleton]; omega,fun s hs=>?_,by simp only[cond_true]; omega,by simp only[cond_true]; omega⟩
   rcases List.mem_append.1 hs with hs|hs
   ·exact a2 s hs
   ·rw[List.mem_singleton] at hs; subst hs; omega
 ·exact⟨by simp only; omega,a2,by simp only; omega,by simp only; omega⟩
 ·exact⟨by simp only; omega,a2,by simp only; omega,by simp only; omega⟩
 ·exact⟨by simp only; omega,a2,by simp only; omega,by simp only; omega⟩
theorem NM{p:aS}: ∀ {ws:List Str} {k k':Clause} {n:Nat},VN k n->(∀ w∈ws,w.length+1<=n)->Qi p k ws=some k'->VN k' (n+ws.length)
 |[],k,k',n,h,_,e=>by cases e; exact h
 |w::ws,k,k',n,h,hw,e=>by
  rw[Qi] at e
  cases hb:(stepW p k w).2 with
  |false=>rw[hb] at e; cases e
  |true =>
   rw[hb,cond_true] at e
   have:=NM (n:=n+1) (Hq h (by have:=hw w (by simp); omega) (Nat.le_refl _)) (fun w' hw'=>by have:=hw w' (List.mem_cons_of_mem _ hw'); omega) e
   rw[List.length_cons,show n+(ws.length+1)=n+1+ws.length by omega]; exact this
theorem Qj{p:aS}{s:Str}{k:Clause}(h:Qi p D5 ((aG 32 s).drop 1)=some k):VN k (2*s.length+2):=by
 have hl:=rU (b:=32) (s:=s)
 have hc:s.count 32<=s.length:=List.count_le_length
 have h1:=NM (n:=s.length+1) ⟨Nat.zero_le _,(fun x hx=>by cases hx),Nat.zero_le _,Nat.zero_le _⟩ (fun w hw=>Nat.succ_le_succ (Ho w (List.mem_of_mem_drop hw))) h
 rw[List.length_drop] at h1
 have e:s.length+1+((aG 32 s).length-1)<=2*s.length+2:=by omega
 exact⟨Nat.le_trans h1.each e,fun x hx=>Nat.le_trans (h1.rows x hx) e,Nat.le_trans h1.values e,Nat.le_trans h1.some e⟩
theorem par_none{p:aS}{s:Str}(hin:tC p=0)(hl:s.length<=4000)(h:Qi p D5 ((aG 32 s).drop 1)=none):qL p s=3/\nY p s=D5:=by
 have h1:(qM p s).2=false:=by unfold qM; rw[Lc.1,h]; rfl
 have h2:qL p s=3:=by
  unfold qL
  rw[hin,h1,decide_eq_false (show ¬ 4000<s.length by omega)]; rfl
 exact⟨h2,by unfold nY; rw[h2]; rfl⟩
theorem WU{p:aS}{s:Str}{k:Clause}(hin:tC p=0)(hl:s.length<=4000)(h:Qi p D5 ((aG 32 s).drop 1)=some k):qL p s=(bif (nT p k !=0)||(fmtS p k !=s) then 3 else 0)/\nY p s=(bif (nT p k !=0)||(fmtS p k !=s) then D5 else k):=by
 have h1:(qM p s).2=true:=by unfold qM; rw[Lc.1,h]; rfl
 have h3:(qM p s).1=k:=Lc.2 k h
 have h2:qL p s=(bif (nT p k !=0)||(fmtS p k !=s) then 3 else 0):=by
  unfold qL
  rw[hin,h1,h3,decide_eq_false (show ¬ 4000<s.length by omega)]
  show(bif !(true&&(nT p k==0)&&(fmtS p k==s)) then(3:Int) else 0)=_
  rw[show(nT p k !=0)= !(nT p k==0) from rfl,show(fmtS p k !=s)= !(fmtS p k==s) from rfl]
  cases nT p k==0<;>cases fmtS p k==s<;>rfl
 refine⟨h2,?_⟩
 unfold nY
 rw[h2,h3]
 cases (nT p k !=0)||(fmtS p k !=s)<;>rfl
theorem S.lJ(p:aS)(s:Str)(hp:dK p)(hs:s.length<2^30):ak Tryz.prog 7 [.dat (.eu p),.str s] (CB p s):=by
 refine ak.of Bd.lJ (by simp) rfl rfl ?_
 conv=>whnf
 refine ah.pure (S.qX p hp) rfl ?_
 conv=>whnf
 refine⟨fun h1=>?_,fun h1=>?_⟩
 ·have e1:qL p s=tC p:=by unfold qL; rw[h1]; rfl
  have e2:nY p s=D5:=by unfold nY; rw[e1,show(tC p==0)=false by simpa using h1]; rfl
  conv=>whnf
  rw[CB,e1,e2]
  exact au.paN
 have hin:tC p=0:=by simpa using h1
 obtain⟨hn,hv⟩:=yS hin
 have hF:=Bc (uG hin)
 conv=>whnf
 refine⟨fun h2=>?_,fun h2=>?_⟩
 ·have e0:decide (4000<s.length)=true:=decide_eq_true (by have:((s.length:Int)>4000):=of_decide_eq_true h2; omega)
  have e1:qL p s=4:=by unfold qL; rw[hin,e0]; rfl
  have e2:nY p s=D5:=by unfold nY; rw[e1]; rfl
  conv=>whnf
  rw[CB,e1,e2]
  exact au.paN
 have hl:s.length<=4000:=by have: ¬ ((s.length:Int)>4000):=of_decide_eq_false h2; omega
 conv=>whnf
 have hR:=S.y8 p s hp hs hn hv hF.states hF.values
 cases hr:Qi p D5 ((aG 32 s).drop 1) with
 |none =>
  obtain⟨e1,e2⟩:=par_none hin hl hr
  rw[hr] at hR
  refine ah.pure (hR) rfl ?_
  conv=>whnf
  conv=>whnf
  refine Fork.mk (fun _=>?_) (fun q=>absurd (q.symm.trans ((rfl:(!false)=true))) Bool.false_ne_true)
  conv=>whnf
  conv=>whnf
  rw[CB,e1,e2]
  exact au.paN
 |some k =>
  obtain⟨e1,e2⟩:=WU hin hl hr
  have hk:=(Qj hr).small (by omega)
  rw[hr] at hR
  refine ah.pure (hR) rfl ?_
  conv=>whnf
  conv=>whnf
  refine Fork.mk (fun q=>absurd (q.symm.trans ((rfl:(!true)=false))).symm Bool.false_ne_true) (fun _=>?_)
  conv=>whnf
  conv=>whnf
  refine ah.pure (S.jo p k hp hk) rfl ?_
  conv=>whnf
  repeat(refine VC.mk (by first|exact fun h=>⟨h,h⟩|(intro h; rw[h]; rfl)) ?_; conv=>whnf)
  have hcd:(Fp p k !=0|| !((bif Fp p k !=0 then [] else fmtS p k)==s))=((nT p k !=0)||(fmtS p k !=s)):=by
   have:Fp p k=nT p k:=by unfold Fp; rw[h1]; rfl
   rw[this]; cases nT p k !=0<;>rfl
  refine⟨fun h3=>?_,fun h3=>?_⟩
  ·rw[hcd] at h3
   rw[h3] at e1 e2
   conv=>whnf
   rw[CB,e1,e2]
   exact au.paN
  ·rw[hcd] at h3
   rw[h3] at e1 e2
   conv=>whnf
   rw[CB,e1,e2]
   exact au.eqv rfl
theorem au.paE{h:Hz}{v q:List Int}{b:Int}:au (.fH [.dat (.clause ⟨[],v,q⟩),.int b]) (.fH [.agg [.row 0 true .nil,.row 0 false (.ints v),.row 0 false (.ints q)],.int b]) h:=⟨⟨⟨rE,aB _,aB _,trivial⟩,aB _,trivial⟩⟩
theorem au.paO{h:Hz}{j:Nat}{e:List (List Int)}{v q:List Int}{b:Int}(g:h.get j=some (CV e)):au (.fH [.dat (.clause ⟨e,v,q⟩),.int b]) (.fH [.agg [.own j,.row 0 false (.ints v),.row 0 false (.ints q)],.int b]) h:=⟨⟨⟨P6 trivial g,aB _,aB _,trivial⟩,aB _,trivial⟩⟩
structure PaI(p:aS)(ws:List Str)(x:Nat×Clause×Bool):Prop where
 hi:x.1<=ws.length
 len:x.2.1.each.length<=x.1
 rd:uQ p D5 true ws=uQ p x.2.1 x.2.2 (ws.drop x.1)
theorem JO{p:aS}: ∀ {ws:List Str} {k:Clause} {b:Bool} {n:Nat},VN k n->(∀ w∈ws,w.length+1<=n)->VN (uQ p k b ws).1 (n+ws.length)
 |[],k,b,n,h,_=>h
 |w::ws,k,b,n,h,hw=>by
  have:=JO (p:=p) (ws:=ws) (b:=b&&(stepW p k w).2) (n:=n+1) (Hq (p:=p) (k:=k) (w:=w) h (by have:=hw w (by simp); omega) (Nat.le_refl _)) (fun w' hw'=>by have:=hw w' (List.mem_cons_of_mem _ hw'); omega)
  rw[List.length_cons,show n+(ws.length+1)=n+1+ws.length by omega]; exact this
theorem Gw{p:aS}{s:Str}:VN (uQ p D5 true ((aG 32 s).drop 1)).1 (2*s.length+2):=by
 have hl:=rU (b:=32) (s:=s)
 have hc:s.count 32<=s.length:=List.count_le_length
 have h1:=JO (p:=p) (b:=true) (ws:=(aG 32 s).drop 1) (n:=s.length+1) (k:=D5) ⟨Nat.zero_le _,(fun x hx=>by cases hx),Nat.zero_le _,Nat.zero_le _⟩ (fun w hw=>Nat.succ_le_succ (Ho w (List.mem_of_mem_drop hw)))
 rw[List.length_drop] at h1
 have e:s.length+1+((aG 32 s).length-1)<=2*s.length+2:=by omega
 exact⟨Nat.le_trans h1.each e,fun x hx=>Nat.le_trans (h1.rows x hx) e,Nat.le_trans h1.values e,Nat.le_trans h1.some e⟩
theorem Y8{p:aS}{s:Str}{k:Clause}{ok:Bool}(hin:tC p=0)(hl:s.length<=4000)(h:uQ p D5 true ((aG 32 s).drop 1)=(k,ok)):qL p s=(bif !ok||((nT p k !=0)||(fmtS p k !=s)) then 3 else 0)/\nY p s=(bif !ok||((nT p k !=0)||(fmtS p k !=s)) then D5 else k):=by
 have h1:(qM p s).2=ok:=by unfold qM; rw[h]
 have h3:(qM p s).1=k:=by unfold qM; rw[h]
 have h2:qL p s=(bif !ok||((nT p k !=0)||(fmtS p k !=s)) then 3 else 0):=by
  unfold qL
  rw[hin,h1,h3,decide_eq_false (show ¬ 4000<s.length by omega)]
  show(bif !(ok&&(nT p k==0)&&(fmtS p k==s)) then(3:Int) else 0)=_
  rw[show(nT p k !=0)= !(nT p k==0) from rfl,show(fmtS p k !=s)= !(fmtS p k==s) from rfl]
  cases ok<;>cases nT p k==0<;>cases fmtS p k==s<;>rfl
 refine⟨h2,?_⟩
 unfold nY
 rw[h2,h3]
 cases !ok||((nT p k !=0)||(fmtS p k !=s))<;>rfl
theorem S.fC(p:aS)(s:Str)(hp:dK p)(hs:s.length<2^30):ak Tryz.prog 6 [.dat (.eu p),.str s] (CB p s):=by
 refine ak.of Bd.fC (by simp) rfl rfl ?_
 conv=>whnf
 refine ah.pure (S.fA p hp) rfl ?_
 conv=>whnf
 refine⟨fun h1=>?_,fun h1=>?_⟩
 ·have e1:qL p s=tC p:=by unfold qL; rw[h1]; rfl
  have e2:nY p s=D5:=by unfold nY; rw[e1,show(tC p==0)=false by simpa using h1]; rfl
  conv=>whnf
  rw[CB,e1,e2]
  exact au.paN
 have hin:tC p=0:=by simpa using h1
 have hF:=Bc (uG hin)
 have q1:=hF.states; have q2:=hF.values
 conv=>whnf
 refine⟨fun h2=>?_,fun h2=>?_⟩
 ·have e0:decide (4000<s.length)=true:=decide_eq_true (by have:((s.length:Int)>4000):=of_decide_eq_true h2; omega)
  have e1:qL p s=4:=by unfold qL; rw[hin,e0]; rfl
  have e2:nY p s=D5:=by unfold nY; rw[e1]; rfl
  conv=>whnf
  rw[CB,e1,e2]
  exact au.paN
 have hl:s.length<=4000:=by have: ¬ ((s.length:Int)>4000):=of_decide_eq_false h2; omega
 have hl2:=rU (b:=32) (s:=s)
 have hc:s.count 32<=s.length:=List.count_le_length
 have hd1:((aG 32 s).drop 1).length=s.count 32:=by rw[List.length_drop]; omega
 have hcd0: ∀ (k:Clause) (ok:Bool),((!ok||(Fp p k !=0))|| !((bif Fp p k !=0 then [] else fmtS p k)==s))=(!ok||((nT p k !=0)||(fmtS p k !=s))):=fun k ok=>by
  have:Fp p k=nT p k:=by unfold Fp; rw[h1]; rfl
  rw[this]; cases ok<;>cases nT p k !=0<;>rfl
 conv=>whnf
 refine ah.pure (S.WO s 32 hs) rfl ?_
 conv=>whnf
 refine .mk (by simp only[Rw.oK]; omega) ?_
 conv=>whnf
 conv=>whnf
 refine aQ.AL 4 [1,2,4,31,32] (fun x:Nat×Clause×Bool=>[(33,.int x.1),(8,.bool x.2.2),(7,.ptr 2 0 0)]) (fun x=>(0,.box 27 11 (.dat (.eu p)))::(1,.box 30 4 (.agg [.row 0 true .nil,.row 0 true .nil,.row 0 true .nil]))::clO x.2.1) (PaI p ((aG 32 s).drop 1)) (fun x=>((aG 32 s).drop 1).length-x.1) (0,D5,true) [0,1,11] rfl (by decide) (fun _=>rfl) ⟨Nat.zero_le _,Nat.zero_le _,rfl⟩ ?_ ?_ ?_
 ·exact(sR rfl)
 ·exact⟨iG rfl rfl,iG rfl rfl,⟨rfl,nofun,rfl,rfl,_,rfl,rfl,rfl,fun Z h=>⟨⟨aB _,rE,rE,trivial⟩,trivial⟩⟩,trivial⟩
 conv=>whnf
 refine⟨(sR rfl),rfl,?_⟩
 rintro⟨i,⟨each,values,eY⟩,ok⟩ ⟨j2,j3,j4⟩
 simp only at j2 j3 j4
 conv=>whnf
 refine⟨fun h3=>?_,fun h3=>?_⟩
 ·have hi':i<((aG 32 s).drop 1).length:=by simpa using h3
  have hd:((aG 32 s).drop 1).drop i=((aG 32 s).drop 1).getD i []::((aG 32 s).drop 1).drop (i+1):=by rw[List.drop_eq_getElem_cons hi',getD_in hi']
  have j5:=j4
  rw[hd,uQ] at j5
  have hlW:(((aG 32 s).drop 1).getD i []).length<2^30:=by
   rw[getD_in hi']
   exact Nat.lt_of_le_of_lt (Ho _ (List.mem_of_mem_drop (List.getElem_mem _))) hs
  have CZ:Rw.rng (i:Int) (.strs ((aG 32 s).drop 1)):=by simp only[Rw.rng]; omega
  cases each with
  |nil =>
   have hcap:kQ 24 0 (0+1):=by show(0+(0+1))*24<=140737488355328/\0+(0+1)<=1152921504606846976; omega
   have hC:=S.strings_CutPrefix (((aG 32 s).drop 1).getD i []) pY
   cases h4:og (((aG 32 s).drop 1).getD i []) pY with
   |true =>
    have hst:stepW p ⟨[],values,eY⟩ (((aG 32 s).drop 1).getD i [])=(⟨[],yL p.values ((((aG 32 s).drop 1).getD i []).drop 6),eY⟩,xZ p.values ((((aG 32 s).drop 1).getD i []).drop 6)):=by rw[nI,h4]; rfl
    have hln:((((aG 32 s).drop 1).getD i []).drop 6).length<2^30:=by rw[List.length_drop]; omega
    rw[h4] at hC
    conv=>whnf
    refine .mk (by exact CZ) ?_
    conv=>whnf
    refine ah.pure (hC) rfl ?_
    conv=>whnf
    conv=>whnf
    refine Fork.mk (fun _=>?_) (fun q=>absurd (q.symm.trans ((rfl:true=true))) Bool.false_ne_true)
    conv=>whnf
    conv=>whnf
    refine ah.pure (S.dI ((((aG 32 s).drop 1).getD i []).drop 6) p.values false hln (by omega)) rfl ?_
    conv=>whnf
    repeat(refine VC.mk (by first|exact id|(simp only[okI,Rw.rng] at *; first|omega|(simp_all; done)|(simp_all; omega))) ?_; conv=>whnf)
    refine⟨(i+1,⟨[],yL p.values ((((aG 32 s).drop 1).getD i []).drop 6),eY⟩,ok&&xZ p.values ((((aG 32 s).drop 1).getD i []).drop 6)),[0,1,2],⟨by simp only; omega,by simp only[List.length_nil] at j3 ⊢; omega,by rw[j5,hst]; try rfl⟩,by simp only; omega,(sR rfl),(sR rfl),iG rfl rfl,iG rfl rfl,vM rfl rfl rfl ⟨rfl,rfl⟩ (dD.of_eq rfl),trivial⟩
   |false =>
    have hD:=S.strings_CutPrefix (((aG 32 s).drop 1).getD i []) rD
    rw[h4] at hC
    cases h5:og (((aG 32 s).drop 1).getD i []) rD with
    |true =>
     have hst:stepW p ⟨[],values,eY⟩ (((aG 32 s).drop 1).getD i [])=(⟨[],values,yL p.states ((((aG 32 s).drop 1).getD i []).drop 5)⟩,xZ p.states ((((aG 32 s).drop 1).getD i []).drop 5)):=by rw[nI,h4,h5]; rfl
     have hln:((((aG 32 s).drop 1).getD i []).drop 5).length<2^30:=by rw[List.length_drop]; omega
     rw[h5] at hD
     conv=>whnf
     refine .mk (by exact CZ) ?_
     conv=>whnf
     refine ah.pure (hC) rfl ?_
     conv=>whnf
     conv=>whnf
     refine Fork.mk (fun q=>absurd (q.symm.trans ((rfl:false=false))).symm Bool.false_ne_true) (fun _=>?_)
     conv=>whnf
     conv=>whnf
     refine ah.pure (hD) rfl ?_
     conv=>whnf
     conv=>whnf
     refine Fork.mk (fun _=>?_) (fun q=>absurd (q.symm.trans ((rfl:true=true))) Bool.false_ne_true)
     conv=>whnf
     conv=>whnf
     refine ah.pure (S.dI ((((aG 32 s).drop 1).getD i []).drop 5) p.states false hln (by omega)) rfl ?_
     conv=>whnf
     repeat(refine VC.mk (by first|exact id|(simp only[okI,Rw.rng] at *; first|omega|(simp_all; done)|(simp_all; omega))) ?_; conv=>whnf)
     refine⟨(i+1,⟨[],values,yL p.states ((((aG 32 s).drop 1).getD i []).drop 5)⟩,ok&&xZ p.states ((((aG 32 s).drop 1).getD i []).drop 5)),[0,1,2],⟨by simp only; omega,by simp only[List.length_nil] at j3 ⊢; omega,by rw[j5,hst]; try rfl⟩,by simp only; omega,(sR rfl),(sR rfl),iG rfl rfl,iG rfl rfl,vM rfl rfl rfl ⟨rfl,rfl⟩ (dD.of_eq rfl),trivial⟩
    |false =>
     have hst:stepW p ⟨[],values,eY⟩ (((aG 32 s).drop 1).getD i [])=(bif xZ p.states (((aG 32 s).drop 1).getD i []) then⟨[yL p.states (((aG 32 s).drop 1).getD i [])],values,eY⟩ else⟨[],values,eY⟩,xZ p.states (((aG 32 s).drop 1).getD i [])):=by rw[nI,h4,h5]; rfl
     have hX:=S.dI (((aG 32 s).drop 1).getD i []) p.states false hlW (by omega)
     rw[h5] at hD
     cases hb:xZ p.states (((aG 32 s).drop 1).getD i []) with
     |true =>
      rw[hb] at hst
      rw[IZ,hb] at hX
      conv=>whnf
      refine .mk (by exact CZ) ?_
      conv=>whnf
      refine ah.pure (hC) rfl ?_
      conv=>whnf
      conv=>whnf
      refine Fork.mk (fun q=>absurd (q.symm.trans ((rfl:false=false))).symm Bool.false_ne_true) (fun _=>?_)
      conv=>whnf
      conv=>whnf
      refine ah.pure (hD) rfl ?_
      conv=>whnf
      conv=>whnf
      refine Fork.mk (fun q=>absurd (q.symm.trans ((rfl:false=false))).symm Bool.false_ne_true) (fun _=>?_)
      conv=>whnf
      conv=>whnf
      refine ah.pure hX rfl ?_
      conv=>whnf
      refine Fork.mk (fun _=>?_) (fun q=>absurd (q.symm.trans ((rfl:true=true))) Bool.false_ne_true)
      conv=>whnf
      conv=>whnf
      repeat(refine VC.mk (by first|(exact hcap)|exact fun h=>h|(simp only[okI,Rw.rng] at *; first|omega|(simp_all; done)|(simp_all; omega))) ?_; conv=>whnf)
      refine⟨(i+1,⟨[yL p.states (((aG 32 s).drop 1).getD i [])],values,eY⟩,ok&&true),[0,1,2,40],⟨by simp only; omega,by simp only[List.length_cons,List.length_nil] at j3 ⊢; omega,by rw[j5,hst]; try rfl⟩,by simp only; omega,(sR rfl),(sR rfl),iG rfl rfl,iG rfl rfl,vM rfl rfl rfl ⟨rfl,rfl⟩ (dD.of_eq rfl),vM rfl rfl rfl ⟨rfl,rfl⟩ (dD.of_eq rfl),trivial⟩
     |false =>
      rw[hb] at hst
      rw[IZ,hb] at hX
      conv=>whnf
      refine .mk (by exact CZ) ?_
      conv=>whnf
      refine ah.pure (hC) rfl ?_
      conv=>whnf
      conv=>whnf
      refine Fork.mk (fun q=>absurd (q.symm.trans ((rfl:false=false))).symm Bool.false_ne_true) (fun _=>?_)
      conv=>whnf
      conv=>whnf
      refine ah.pure (hD) rfl ?_
      conv=>whnf
      conv=>whnf
      refine Fork.mk (fun q=>absurd (q.symm.trans ((rfl:false=false))).symm Bool.false_ne_true) (fun _=>?_)
      conv=>whnf
      conv=>whnf
      refine ah.pure hX rfl ?_
      conv=>whnf
      refine Fork.mk (fun q=>absurd (q.symm.trans ((rfl:false=false))).symm Bool.false_ne_true) (fun _=>?_)
      conv=>whnf
      repeat(refine VC.mk (by first|exact id|(simp only[okI,Rw.rng] at *; first|omega|(simp_all; done)|(simp_all; omega))) ?_; conv=>whnf)
      conv=>whnf
      refine⟨(i+1,⟨[],values,eY⟩,ok&&false),[0,1,2],⟨by simp only; omega,by simp only[List.length_nil] at j3 ⊢; omega,by rw[j5,hst]; try rfl⟩,by simp only; omega,(sR rfl),(sR rfl),iG rfl rfl,iG rfl rfl,vM rfl rfl rfl ⟨rfl,rfl⟩ (dD.of_eq rfl),trivial⟩
  |cons e r =>
   have hcap:kQ 24 (e::r).length (0+1):=by show((e::r).length+(0+1))*24<=140737488355328/\(e::r).length+(0+1)<=1152921504606846976; omega
   have hC:=S.strings_CutPrefix (((aG 32 s).drop 1).getD i []) pY
   cases h4:og (((aG 32 s).drop 1).getD i []) pY with
   |true =>
    have hst:stepW p ⟨e::r,values,eY⟩ (((aG 32 s).drop 1).getD i [])=(⟨e::r,yL p.values ((((aG 32 s).drop 1).getD i []).drop 6),eY⟩,xZ p.values ((((aG 32 s).drop 1).getD i []).drop 6)):=by rw[nI,h4]; rfl
    have hln:((((aG 32 s).drop 1).getD i []).drop 6).length<2^30:=by rw[List.length_drop]; omega
    rw[h4] at hC
    conv=>whnf
    refine .mk (by exact CZ) ?_
    conv=>whnf
    refine ah.pure (hC) rfl ?_
    conv=>whnf
    conv=>whnf
    refine Fork.mk (fun _=>?_) (fun q=>absurd (q.symm.trans ((rfl:true=true))) Bool.false_ne_true)
    conv=>whnf
    conv=>whnf
    refine ah.pure (S.dI ((((aG 32 s).drop 1).getD i []).drop 6) p.values false hln (by omega)) rfl ?_
    conv=>whnf
    repeat(refine VC.mk (by first|exact id|(simp only[okI,Rw.rng] at *; first|omega|(simp_all; done)|(simp_all; omega))) ?_; conv=>whnf)
    refine⟨(i+1,⟨e::r,yL p.values ((((aG 32 s).drop 1).getD i []).drop 6),eY⟩,ok&&xZ p.values ((((aG 32 s).drop 1).getD i []).drop 6)),[0,1,2,3],⟨by simp only; omega,by simp only[List.length_cons] at j3 ⊢; omega,by rw[j5,hst]; try rfl⟩,by simp only; omega,(sR rfl),(sR rfl),iG rfl rfl,iG rfl rfl,vM rfl rfl rfl ⟨rfl,rfl⟩ (dD.of_eq rfl),iG rfl rfl,trivial⟩
   |false =>
    have hD:=S.strings_CutPrefix (((aG 32 s).drop 1).getD i []) rD
    rw[h4] at hC
    cases h5:og (((aG 32 s).drop 1).getD i []) rD with
    |true =>
     have hst:stepW p ⟨e::r,values,eY⟩ (((aG 32 s).drop 1).getD i [])=(⟨e::r,values,yL p.states ((((aG 32 s).drop 1).getD i []).drop 5)⟩,xZ p.states ((((aG 32 s).drop 1).getD i []).drop 5)):=by rw[nI,h4,h5]; rfl
     have hln:((((aG 32 s).drop 1).getD i []).drop 5).length<2^30:=by rw[List.length_drop]; omega
     rw[h5] at hD
     conv=>whnf
     refine .mk (by exact CZ) ?_
     conv=>whnf
     refine ah.pure (hC) rfl ?_
     conv=>whnf
     conv=>whnf
     refine Fork.mk (fun q=>absurd (q.symm.trans ((rfl:false=false))).symm Bool.false_ne_true) (fun _=>?_)
     conv=>whnf
     conv=>whnf
     refine ah.pure (hD) rfl ?_
     conv=>whnf
     conv=>whnf
     refine Fork.mk (fun _=>?_) (fun q=>absurd (q.symm.trans ((rfl:true=true))) Bool.false_ne_true)
     conv=>whnf
     conv=>whnf
     refine ah.pure (S.dI ((((aG 32 s).drop 1).getD i []).drop 5) p.states false hln (by omega)) rfl ?_
     conv=>whnf
     repeat(refine VC.mk (by first|exact id|(simp only[okI,Rw.rng] at *; first|omega|(simp_all; done)|(simp_all; omega))) ?_; conv=>whnf)
     refine⟨(i+1,⟨e::r,values,yL p.states ((((aG 32 s).drop 1).getD i []).drop 5)⟩,ok&&xZ p.states ((((aG 32 s).drop 1).getD i []).drop 5)),[0,1,2,3],⟨by simp only; omega,by simp only[List.length_cons] at j3 ⊢; omega,by rw[j5,hst]; try rfl⟩,by simp only; omega,(sR rfl),(sR rfl),iG rfl rfl,iG rfl rfl,vM rfl rfl rfl ⟨rfl,rfl⟩ (dD.of_eq rfl),iG rfl rfl,trivial⟩
    |false =>
     have hst:stepW p ⟨e::r,values,eY⟩ (((aG 32 s).drop 1).getD i [])=(bif xZ p.states (((aG 32 s).drop 1).getD i []) then⟨e::r++[yL p.states (((aG 32 s).drop 1).getD i [])],values,eY⟩ else⟨e::r,values,eY⟩,xZ p.states (((aG 32 s).drop 1).getD i [])):=by rw[nI,h4,h5]; rfl
     have hX:=S.dI (((aG 32 s).drop 1).getD i []) p.states false hlW (by omega)
     rw[h5] at hD
     cases hb:xZ p.states (((aG 32 s).drop 1).getD i []) with
     |true =>
      rw[hb] at hst
      rw[IZ,hb] at hX
      conv=>whnf
      refine .mk (by exact CZ) ?_
      conv=>whnf
      refine ah.pure (hC) rfl ?_
      conv=>whnf
      conv=>whnf
      refine Fork.mk (fun q=>absurd (q.symm.trans ((rfl:false=false))).symm Bool.false_ne_true) (fun _=>?_)
      conv=>whnf
      conv=>whnf
      refine ah.pure (hD) rfl ?_
      conv=>whnf
      conv=>whnf
      refine Fork.mk (fun q=>absurd (q.symm.trans ((rfl:false=false))).symm Bool.false_ne_true) (fun _=>?_)
      conv=>whnf
      conv=>whnf
      refine ah.pure hX rfl ?_
      conv=>whnf
      refine Fork.mk (fun _=>?_) (fun q=>absurd (q.symm.trans ((rfl:true=true))) Bool.false_ne_true)
      conv=>whnf
      conv=>whnf
      repeat(refine VC.mk (by first|(exact hcap)|exact fun h=>h|(simp only[okI,Rw.rng] at *; first|omega|(simp_all; done)|(simp_all; omega))) ?_; conv=>whnf)
      refine⟨(i+1,⟨e::r++[yL p.states (((aG 32 s).drop 1).getD i [])],values,eY⟩,ok&&true),[0,1,2,40],⟨by simp only; omega,by simp only[List.length_append,List.length_cons,List.length_nil] at j3 ⊢; omega,by rw[j5,hst]; try rfl⟩,by simp only; omega,(sR rfl),(sR rfl),iG rfl rfl,iG rfl rfl,vM rfl rfl rfl ⟨rfl,rfl⟩ (dD.of_eq rfl),⟨rfl,nofun,rfl,rfl,_,rfl,rfl,rfl,JM (l:=e::r) (x:=yL p.states (((aG 32 s).drop 1).getD i [])) (f:=false)⟩,trivial⟩
     |false =>
      rw[hb] at hst
      rw[IZ,hb] at hX
      conv=>whnf
      refine .mk (by exact CZ) ?_
      conv=>whnf
      refine ah.pure (hC) rfl ?_
      conv=>whnf
      conv=>whnf
      refine Fork.mk (fun q=>absurd (q.symm.trans ((rfl:false=false))).symm Bool.false_ne_true) (fun _=>?_)
      conv=>whnf
      conv=>whnf
      refine ah.pure (hD) rfl ?_
      conv=>whnf
      conv=>whnf
      refine Fork.mk (fun q=>absurd (q.symm.trans ((rfl:false=false))).symm Bool.false_ne_true) (fun _=>?_)
      conv=>whnf
      conv=>whnf
      refine ah.pure hX rfl ?_
      conv=>whnf
      refine Fork.mk (fun q=>absurd (q.symm.trans ((rfl:false=false))).symm Bool.false_ne_true) (fun _=>?_)
      conv=>whnf
      repeat(refine VC.mk (by first|exact id|(simp only[okI,Rw.rng] at *; first|omega|(simp_all; done)|(simp_all; omega))) ?_; conv=>whnf)
      conv=>whnf
      refine⟨(i+1,⟨e::r,values,eY⟩,ok&&false),[0,1,2,3],⟨by simp only; omega,by simp only[List.length_cons] at j3 ⊢; omega,by rw[j5,hst]; try rfl⟩,by simp only; omega,(sR rfl),(sR rfl),iG rfl rfl,iG rfl rfl,vM rfl rfl rfl ⟨rfl,rfl⟩ (dD.of_eq rfl),iG rfl rfl,trivial⟩
 ·have hi':i=((aG 32 s).drop 1).length:=by have: ¬ ((i:Int)<(((aG 32 s).drop 1).length:Int)):=of_decide_eq_false h3; omega
  have hz:((aG 32 s).drop 1).drop i=[]:=List.drop_eq_nil_of_le (by omega)
  rw[hz] at j4
  have j4:uQ p D5 true ((aG 32 s).drop 1)=(⟨each,values,eY⟩,ok):=j4
  obtain⟨e1,e2⟩:=Y8 hin hl j4
  have hk:=Gw (p:=p) (s:=s)
  rw[j4] at hk
  have hk:=hk.small (by omega)
  simp only at hk
  cases each with
  |nil =>
   conv=>whnf
   refine ah.lend (S.bM p ⟨[],values,eY⟩ hp hk) (And.intro (aB _) (And.intro ⟨rE,aB _,aB _,trivial⟩ trivial)) rfl rfl ?_
   have hcd:=hcd0 ⟨[],values,eY⟩ ok
   conv=>whnf
   repeat(refine VC.mk (by first|exact id|exact fun h=>⟨h,h⟩|(intro h; rw[h]; rfl)) ?_; conv=>whnf)
   refine⟨fun h3=>?_,fun h3=>?_⟩
   ·replace h3:=hcd.symm.trans h3
    rw[h3] at e1 e2
    conv=>whnf
    rw[CB,e1,e2]
    exact au.paN
   ·replace h3:=hcd.symm.trans h3
    rw[h3] at e1 e2
    conv=>whnf
    rw[CB,e1,e2]
    exact au.paE
  |cons e r =>
   conv=>whnf
   refine ah.lend (S.bM p ⟨e::r,values,eY⟩ hp hk) (And.intro (aB _) (And.intro ⟨P6 (l:=e::r) trivial rfl,aB _,aB _,trivial⟩ trivial)) rfl rfl ?_
   have hcd:=hcd0 ⟨e::r,values,eY⟩ ok
   conv=>whnf
   repeat(refine VC.mk (by first|exact id|exact fun h=>⟨h,h⟩|(intro h; rw[h]; rfl)) ?_; conv=>whnf)
   refine⟨fun h3=>?_,fun h3=>?_⟩
   ·replace h3:=hcd.symm.trans h3
    rw[h3] at e1 e2
    conv=>whnf
    rw[CB,e1,e2]
    exact au.paN
   ·replace h3:=hcd.symm.trans h3
    rw[h3] at e1 e2
    conv=>whnf
    rw[CB,e1,e2]
    exact au.paO rfl
end Go.Proofs.YtbigdcimbhgjbaaGreatDoor
