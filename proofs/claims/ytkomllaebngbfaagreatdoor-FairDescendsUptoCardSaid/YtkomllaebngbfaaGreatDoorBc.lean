/-
 familychecklaw09.FairWeighs, as a contract. No condition.
-/
import Derived.Test.YtkomllaebngbfaaGreatDoorAa
import Derived.Test.YtkomllaebngbfaaGreatDoorOb
namespace Go.Proofs.YtkomllaebngbfaaGreatDoor
open Go.Ab Go.Proofs
set_option maxRecDepth 100000
theorem S.iG(p:aJ)(w:List Int)(e:Elem)(r x:Int)(hp:dA p)(hw:w.length<2^30)(he:e.counts.length<2^30):aj Tryz.prog 16 [.dat (.iC p),.agg [.row 0 false (.ints w),.int e.value,.row 0 false (.ints e.counts)],.agg [.int r,.int x]] (.bool true):=by
 have hs:N8 [e]:=fun y hy=>by rw[List.mem_singleton] at hy; subst hy; omega
 refine aj.of Bd.iG (by simp) rfl rfl ?_
 conv=>whnf
 refine ah.lend (S.mg [e] false (show 1<2^40 by decide) hs) (And.intro (TK trivial rfl rfl) trivial) rfl rfl ?_
 conv=>whnf
 refine⟨fun h1=>?_,fun h1=>?_⟩
 ·conv=>whnf
  refine ah.pure (S.fH) rfl ?_
  conv=>whnf
  exact ak.bool rfl
 conv=>whnf
 refine ah.pure (S.jV p w e false hp hw he) rfl ?_
 conv=>whnf
 refine ah.pure (S.og p w e false hp hw he) rfl ?_
 conv=>whnf
 repeat(refine VC.mk (by first|exact fun h=>⟨h,h⟩|(intro h; rw[h]; rfl)) ?_; conv=>whnf)
 refine Fork.mk (fun h2=>absurd h2 (by simp)) (fun _=>?_)
 conv=>whnf
 refine ah.pure (S.jW p w r false hp hw) rfl ?_
 conv=>whnf
 refine ah.pure (S.lZ p w r false hp hw) rfl ?_
 conv=>whnf
 repeat(refine VC.mk (by first|exact fun h=>⟨h,h⟩|(intro h; rw[h]; rfl)) ?_; conv=>whnf)
 refine Fork.mk (fun h2=>absurd h2 (by simp)) (fun _=>?_)
 conv=>whnf
 refine ah.pure (S.jq p w r false hp hw) rfl ?_
 conv=>whnf
 refine ah.pure (S.lD p w r false hp hw) rfl ?_
 conv=>whnf
 repeat(refine VC.mk (by first|exact fun h=>⟨h,h⟩|(intro h; rw[h]; rfl)) ?_; conv=>whnf)
 refine Fork.mk (fun h2=>absurd h2 (by simp)) (fun _=>?_)
 conv=>whnf
 refine ah.pure (S.oh p r x hp) rfl ?_
 conv=>whnf
 refine ah.pure (S.pO p r x hp) rfl ?_
 conv=>whnf
 repeat(refine VC.mk (by first|exact id|exact fun h=>⟨h,h⟩) ?_; conv=>whnf)
 refine ah.eY (fun _=>S.fH) rfl ?_
 conv=>whnf
 refine VC.mk id ?_
 conv=>whnf
 exact ak.bool (by simp)
theorem S.ou(a b:Elem)(ha:a.counts.length<2^40)(hb:b.counts.length<2^40):aj Tryz.prog 45 [.dat (.elem a),.dat (.elem b)] (.bool (AO a b==0)):=by
 refine aj.of Bd.ou (by simp) rfl rfl ?_
 conv=>whnf
 refine ah.pure (S.kT a b ha hb) rfl ?_
 conv=>whnf
 exact ak.bool rfl
theorem WT{p:aJ}{e:Elem}(he:e.counts.length<2^30):(PS p e).counts.length<2^30:=by
 unfold PS; cases (rD p e==0)<;>simp[z9,ES,wK]<;>omega
theorem QX(a:Elem):(AO a a==0)=true:=by rw[beq_iff_eq,Jf]
theorem S.iH(p:aJ)(q:Prop')(a e:Elem)(hp:dA p)(hq:zT q)(ha:a.counts.length<2^30)(he:e.counts.length<2^30):aj Tryz.prog 12 [.agg ((Dat.iC p).cells++(Dat.prop q).cells),.dat (.elem a),.dat (.elem e)] (.bool true):=by
 have hz:=WT (p:=p) he
 have hs:N8 [a,e]:=fun y hy=>by simp at hy; rcases hy with rfl|rfl<;>omega
 refine aj.of Bd.iH (by simp) rfl rfl ?_
 conv=>whnf
 refine ah.lend (S.mg [a,e] false (show 2<2^40 by decide) hs) (And.intro (TK trivial rfl rfl) trivial) rfl rfl ?_
 conv=>whnf
 refine⟨fun h1=>?_,fun h1=>?_⟩
 ·conv=>whnf
  refine ah.pure (S.fH) rfl ?_
  conv=>whnf
  exact ak.bool rfl
 conv=>whnf
 refine ah.pure (S.jm p e hp he) rfl ?_
 rw[WQ]
 conv=>whnf
 refine ah.pure (S.lq p e hp he) rfl ?_
 rw[WQ]
 conv=>whnf
 refine ah.pure (S.iW p a e hp ha he) rfl ?_
 conv=>whnf
 refine ah.pure (S.jy p a e hp ha he) rfl ?_
 conv=>whnf
 refine ah.pure (S.nX p q hp hq) rfl ?_
 conv=>whnf
 refine ah.pure (S.pG p q hp hq) rfl ?_
 conv=>whnf
 refine .mk (by exact fun h=>⟨h,h⟩) ?_
 conv=>whnf
 refine ah.eY (fun _=>S.gZ p a hp ha) rfl ?_
 conv=>whnf
 refine .mk (by exact fun h=>⟨h,h⟩) ?_
 conv=>whnf
 refine ah.eY (fun _=>S.iM p a hp ha) rfl ?_
 conv=>whnf
 repeat(refine VC.mk (by first|exact id|exact fun h=>⟨h,h⟩) ?_; conv=>whnf)
 refine ah.eY (fun _=>S.ou (PS p e) (PS p e) (by omega) (by omega)) rfl ?_
 conv=>whnf
 repeat(refine VC.mk (by first|exact id|exact fun h=>⟨h,h⟩) ?_; conv=>whnf)
 refine ah.eY (fun _=>S.fH) rfl ?_
 conv=>whnf
 refine VC.mk id ?_
 conv=>whnf
 exact ak.bool (by simp[QX])
theorem Zh{p:aJ}{w:List Int}{e:Elem}(h:Jk p w e=0):qG p=0/\G6 p w=true/\sF p e=false:=by
 unfold Jk at h
 by_cases h0:qG p=0
 ·rw[h0] at h
  refine⟨h0,?_⟩
  cases hv:G6 p w with
  |false=>rw[hv] at h; cases h
  |true =>
   rw[hv] at h
   cases hc:sF p e with
   |true=>rw[hc] at h; cases h
   |false=>exact⟨rfl,rfl⟩
 ·rw[show(qG p !=0)=true by simpa using h0] at h; exact absurd h h0
theorem Zi(r:Rule)(w:List Int):(xQ r w&&Ef r w)=false:=by
 unfold Ef; cases xQ r w<;>rfl
theorem S.fJ(p:aJ)(w:List Int)(e:Elem)(r:Int)(hp:dA p)(hw:w.length<2^30)(he:e.counts.length<2^30):aj Tryz.prog 15 [.dat (.iC p),.agg [.row 0 false (.ints w),.int e.value,.row 0 false (.ints e.counts)],.int r] (.bool true):=by
 refine aj.of Bd.fJ (by simp) rfl rfl ?_
 conv=>whnf
 refine ah.pure (S.jW p w r false hp hw) rfl ?_
 conv=>whnf
 refine ah.pure (S.jq p w r false hp hw) rfl ?_
 conv=>whnf
 refine ah.pure (S.jV p w e false hp hw he) rfl ?_
 conv=>whnf
 repeat(refine VC.mk (by first|exact id|(intro h; rw[h]; rfl)) ?_; conv=>whnf)
 refine⟨fun h1=>?_,fun h1=>?_⟩
 ·conv=>whnf
  refine ah.pure (S.fH) rfl ?_
  conv=>whnf
  exact ak.bool rfl
 have h1:qI p w r=0/\Jk p w e=0:=by simpa using h1
 obtain⟨hg,hwe⟩:=h1
 obtain⟨hc,hv,hcon⟩:=Zh hwe
 obtain⟨hr,hwo,r1,r2⟩:=TJ (CP hg).1 (CP hg).2
 obtain⟨hwl,_⟩:=Eo hv
 obtain⟨hel,hok⟩:=NZ hcon
 have hst:=(Ji (yN (EP hc)).1).states
 have hr':NQ e.counts.length (p.rules.getD r.toNat default):=by rw[hel,<- hwl]; exact hr
 have hxl:((kN (p.rules.getD r.toNat default) e).getD ⟨0,[]⟩).counts.length<2^30:=by
  cases hx:kN (p.rules.getD r.toNat default) e with
  |none=>decide
  |some x=>have:=Ig hx; show x.counts.length<_; omega
 have hR:Jl p w r=xQ (p.rules.getD r.toNat default) w:=by rw[Jl,hg]; rfl
 have hL:Jm p w r=Ef (p.rules.getD r.toNat default) w:=by rw[Jm,hg]; rfl
 have hlu:=Zi (p.rules.getD r.toNat default) w
 have hW:Tf p w e=sumW e.counts w w.length:=by rw[Tf,hwe]; rfl
 rw[hR,hL,hW]
 conv=>whnf
 refine .mk (by simp only[Rw.rng]; omega) ?_
 conv=>whnf
 refine PY.pure (aj.Lr (S.sH (p.rules.getD r.toNat default) e (hp.rule _) hr'.place hok (by omega))) rfl ?_
 conv=>whnf
 refine .mk (by exact fun h=>⟨h,h⟩) ?_
 conv=>whnf
 refine ah.eY (fun _=>S.nK p ((kN (p.rules.getD r.toNat default) e).getD ⟨0,[]⟩) hp hxl) rfl ?_
 conv=>whnf
 repeat(refine VC.mk (by first|exact id|(intro h; rw[h]; rfl)) ?_; conv=>whnf)
 refine⟨fun h2=>?_,fun h2=>?_⟩
 ·conv=>whnf
  refine VC.mk id ?_
  conv=>whnf
  refine ah.eY (fun _=>S.fH) rfl ?_
  conv=>whnf
  refine VC.mk id ?_
  conv=>whnf
  exact ak.bool (by rw[hlu]; rfl)
 have h2:(kN (p.rules.getD r.toNat default) e).isSome=true/\uM p ((kN (p.rules.getD r.toNat default) e).getD ⟨0,[]⟩)=false:=by simpa using h2
 obtain⟨hs,hvx⟩:=h2
 obtain⟨x,hx⟩:=Option.isSome_iff_exists.1 hs
 rw[hx] at hvx hxl ⊢
 replace hvx:uM p x=false:=hvx
 have hcx:=TN hst hr' hcon hx hvx
 have hwx:Jk p w x=0:=by rw[PV hc hv,hcx]; rfl
 have hWx:Tf p w x=sumW x.counts w w.length:=by rw[Tf,hwx]; rfl
 conv=>whnf
 refine ah.pure (S.jV p w x false hp hw hxl) rfl ?_
 rw[hWx,hwx]
 have hfin:((xQ (p.rules.getD r.toNat default) w||decide (sumW x.counts w w.length<=sumW e.counts w w.length))&&(!(Ef (p.rules.getD r.toNat default) w)||decide (sumW x.counts w w.length<sumW e.counts w w.length)))=true:=by
  cases hu:xQ (p.rules.getD r.toNat default) w with
  |true =>
   have:Ef (p.rules.getD r.toNat default) w=false:=by unfold Ef; rw[hu]; rfl
   rw[this]; rfl
  |false =>
   have hd:=QV hr' hok hx hu
   have hch:xP (p.rules.getD r.toNat default) w<=0:=by
    unfold xQ at hu
    rw[Bool.or_eq_false_iff] at hu
    have:=of_decide_eq_false hu.2; omega
   rw[hwl,<- hel]
   have a1:decide (sumW x.counts w e.counts.length<=sumW e.counts w e.counts.length)=true:=decide_eq_true (by omega)
   rw[a1]
   cases hl:Ef (p.rules.getD r.toNat default) w with
   |false=>rfl
   |true =>
    unfold Ef at hl
    rw[hu] at hl
    have hl:decide (xP (p.rules.getD r.toNat default) w<0)=true:=hl
    have:=of_decide_eq_true hl
    have a2:decide (sumW x.counts w e.counts.length<sumW e.counts w e.counts.length)=true:=decide_eq_true (by omega)
    rw[a2]; rfl
 clear hL hR
 revert hfin hlu
 generalize xQ (p.rules.getD r.toNat default) w=u
 generalize Ef (p.rules.getD r.toNat default) w=l
 intro hlu hfin
 conv=>whnf
 repeat(refine VC.mk (by(cases u<;>cases l<;>simp)) ?_; conv=>whnf)
 refine ah.eY (fun _=>S.fH) rfl ?_
 conv=>whnf
 refine VC.mk id ?_
 conv=>whnf
 refine ak.bool ?_
 rw[hlu,<- hfin]
 cases u<;>cases l<;>simp
end Go.Proofs.YtkomllaebngbfaaGreatDoor
