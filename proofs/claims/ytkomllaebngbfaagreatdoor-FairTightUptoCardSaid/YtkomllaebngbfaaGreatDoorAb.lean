/-
 fair: a step with a rule. No condition.
-/
import Derived.Test.YtkomllaebngbfaaGreatDoorAa
import Derived.Test.YtkomllaebngbfaaGreatDoorLg
import Derived.Test.YtkomllaebngbfaaGreatDoorKa
import Derived.Test.YtkomllaebngbfaaGreatDoorFa
namespace Go.Proofs.YtkomllaebngbfaaGreatDoor
open Go.Ab Go.Proofs
set_option maxRecDepth 100000
theorem S.RH(l:List Int)(f:Bool)(h0:0<l.length)(hl:l.length<2^30)(n:Nat):aQ Tryz.prog 123 (V.bg [.row 0 f (.ints l)]) (Hz.aA []) n (fun t hp=>t= .own n/\hp=Hz.aA [(n,some (xR l))]):=by
 refine xW.of (nx:=0) Bd.gq (by simp) ⟨_,_,rfl,rfl⟩ rfl rfl ?_
 conv=>whnf
 refine Xz.mk (fun hz=>absurd hz (by show ¬ l.length=0; omega)) ?_
 conv=>whnf
 refine Fork.mk (fun q=>absurd (q.symm.trans ((rfl:false=false))).symm Bool.false_ne_true) (fun _=>?_)
 conv=>whnf
 refine .mk (by simp only[oG,oO,Rw.len]; omega) ?_
 conv=>whnf
 repeat(refine VC.mk (by simp only[oG,oO,Rw.len]; omega) ?_; conv=>whnf)
 exact uo.one (c:=n) (o:=xR l) (t:=.own n) rfl rfl rfl nofun (.inr rfl) rfl (.eq rfl) ⟨rfl,rfl⟩
theorem S.RI(l:List Int)(f:Bool)(h0:0<l.length)(hl:l.length<2^30):rC Tryz.prog 123 [.sl 0 f (l.map T.int)] (fun n=>.own n) (some ⟨3,0,l.map T.int⟩):=by
 refine⟨rfl,fun n=>rfl,fun ob h=>?_,fun ob h=>?_,fun n=>?_⟩
 ·cases h
  show T.aY (l.map T.int)=true
  rw[gu]; intro t ht; obtain⟨x,_,rfl⟩:=List.mem_map.1 ht; rfl
 ·cases h; exact show(0:Nat)≠dI by decide
 ·have:=S.RH l f h0 hl n
  have e1:Hz.aA [(n,some (xR l))]=gJ no n (some ⟨3,0,l.map T.int⟩):=by
   rw[bP]; simp[gJ,OV.aG,Rw.bg,V.bg]; rfl
  rw[e1] at this
  exact this
theorem aaj{c:List Int}(hc: ∀ i,0<=c.getD i 0)(i:Nat):decide (0<c.getD i 0)= !(c.getD i 0==0):=by
 rw[Bool.eq_iff_iff]; simp only[decide_eq_true_eq,Bool.not_eq_true',beq_eq_false_iff_ne,ne_eq]
 have:=hc i; omega
theorem S.nM(r:Rule)(c:List Int)(f:Bool)(hr:xC r)(hc:c.length<2^40)(hpos: ∀ i,0<=c.getD i 0):aj Tryz.prog 124 [.dat (.rule r),.row 0 f (.ints c)] (.bool (pG r c)):=by
 have g1:=hr.ex; have g2:=hr.all
 refine aj.of Bd.nM (by simp) rfl rfl ?_
 conv=>whnf
 refine aK.same [2,12,13] (fun i:Nat=>[(14,.int i),(5,.bool (uZ r.ex c i))]) (fun i=>i<=c.length/\y5 r.all c i=false) (fun i=>c.length-i) 0 rfl (by decide) rfl (fun _=>rfl) ⟨by omega,rfl⟩ ⟨⟨_,rfl,rfl⟩,⟨_,rfl,?_⟩,trivial⟩ ?_
 ·show(V.bool (uZ r.ex c 0)).aH=(V.bool ((r.ex.length:Int)==0)).aH
  rw[uZ]; simp
 conv=>whnf
 refine⟨rfl,?_⟩
 rintro i ⟨hi,hall⟩
 conv=>whnf
 refine⟨fun h3=>?_,fun h3=>?_⟩
 ·have hi':i<c.length:=by simpa using h3
  have hp:=aaj hpos i
  conv=>whnf
  repeat(refine VC.mk (by first|exact id|exact fun h=>⟨h,h⟩|(simp only[Rw.rng] at *; first|omega|(simp_all; done)|(simp_all; omega))) ?_; conv=>whnf)
  refine ah.fD (fun _=>S.slices_Contains_int r.ex i false (by omega)) rfl ?_
  conv=>whnf
  refine VC.mk id ?_
  conv=>whnf
  refine⟨fun h4=>?_,fun h4=>?_⟩
  ·replace h4:(decide (0<c.getD i 0)&&y7 r.ex i)=true:=h4
   rw[hp] at h4
   conv=>whnf
   repeat(refine VC.mk (by first|exact id|exact fun h=>⟨h,h⟩) ?_; conv=>whnf)
   refine ah.fD (fun _=>S.slices_Contains_int r.all i false (by omega)) rfl ?_
   conv=>whnf
   repeat(refine VC.mk id ?_; conv=>whnf)
   refine⟨fun h5=>?_,fun h5=>?_⟩
   ·replace h5:(decide (0<c.getD i 0)&&decide (0<(r.all.length:Int))&& !(y7 r.all i))=true:=h5
    rw[hp,Bool.and_assoc,Bool.and_eq_true] at h5
    conv=>whnf
    exact ak.bool (by rw[pG,OY hi' (by simpa using h5.1) h5.2]; rfl)
   ·replace h5:(decide (0<c.getD i 0)&&decide (0<(r.all.length:Int))&& !(y7 r.all i))=false:=h5
    rw[hp,Bool.and_assoc] at h5
    conv=>whnf
    refine .mk (by simp only[okI] at *; first|omega|(simp_all; done)|(simp_all; omega)) ?_
    conv=>whnf
    refine⟨i+1,⟨by omega,by rw[IG,hall]; exact h5⟩,by omega,⟨⟨_,rfl,rfl⟩,⟨_,rfl,?_⟩,trivial⟩,?_,rfl⟩
    ·rw[II,h4]; simp[V.aH,ru]
    ·repeat' (first|exact trivial|exact⟨_,rfl,rfl⟩|constructor)
  ·replace h4:(decide (0<c.getD i 0)&&y7 r.ex i)=false:=h4
   rw[hp] at h4
   conv=>whnf
   repeat(refine VC.mk (by first|exact id|exact fun h=>⟨h,h⟩) ?_; conv=>whnf)
   refine ah.fD (fun _=>S.slices_Contains_int r.all i false (by omega)) rfl ?_
   conv=>whnf
   repeat(refine VC.mk id ?_; conv=>whnf)
   refine⟨fun h5=>?_,fun h5=>?_⟩
   ·replace h5:(decide (0<c.getD i 0)&&decide (0<(r.all.length:Int))&& !(y7 r.all i))=true:=h5
    rw[hp,Bool.and_assoc,Bool.and_eq_true] at h5
    conv=>whnf
    exact ak.bool (by rw[pG,OY hi' (by simpa using h5.1) h5.2]; rfl)
   ·replace h5:(decide (0<c.getD i 0)&&decide (0<(r.all.length:Int))&& !(y7 r.all i))=false:=h5
    rw[hp,Bool.and_assoc] at h5
    conv=>whnf
    refine .mk (by simp only[okI] at *; first|omega|(simp_all; done)|(simp_all; omega)) ?_
    conv=>whnf
    refine⟨i+1,⟨by omega,by rw[IG,hall]; exact h5⟩,by omega,⟨⟨_,rfl,rfl⟩,⟨_,rfl,?_⟩,trivial⟩,?_,rfl⟩
    ·rw[II,h4]; simp[V.aH]
    ·repeat' (first|exact trivial|exact⟨_,rfl,rfl⟩|constructor)
 ·have hi':c.length<=i:=by simpa using h3
  have e:i=c.length:=Nat.le_antisymm hi hi'
  subst e
  conv=>whnf
  exact ak.bool (by rw[pG,hall]; rfl)
set_option maxHeartbeats 1000000 in
theorem S.qg(r:Rule)(e:Elem)(hr:xC r)(hp:rG e.counts.length r)(hc:Bj e.counts)(hl:e.counts.length<=6):aj Tryz.prog 80 [.dat (.rule r),.dat (.elem e)] (gZ r e):=by
 obtain⟨f1,f2⟩:=hp.src
 obtain⟨d1,d2⟩:=hp.dst
 obtain⟨p1,p2⟩:=hp.acH
 obtain⟨q1,q2⟩:=hp.acI
 have hfr:=hc.get (i:=r.fr.toNat) (by omega)
 refine aj.of Bd.qg (by simp) rfl (IJ r e) ?_
 conv=>whnf
 repeat(refine VC.mk (by first|exact id|exact fun h=>⟨h,h⟩|(intro h; rw[h]; rfl)|(intro h; (repeat' apply And.intro)<;>first|exact h|omega|(simp only[Rw.oK]; omega)|(simp only[Rw.rng]; omega))) ?_; conv=>whnf)
 refine⟨fun h1=>?_,fun h1=>?_⟩
 ·have h1':(decide (0<=r.read)&&e.value !=r.read||e.counts.getD r.fr.toNat 0==0)=true:=by rw[bne_comm]; exact h1
  conv=>whnf
  refine ak.eqv ?_
  rw[gZ,dV,h1']; rfl
 have h1':(decide (0<=r.read)&&e.value !=r.read||e.counts.getD r.fr.toNat 0==0)=false:=by rw[bne_comm]; exact h1
 conv=>whnf
 refine Ai.row (r:=.ints e.counts) (S.RI e.counts false (by omega) (by omega)) ?_
 have hl1:(aP e.counts r.fr).length=e.counts.length:=by simp[aP]
 conv=>whnf
 repeat(refine VC.mk (by first|(simp only[Rw.rng]; omega)|(simp only[okI,aP] at *; omega)) ?_; conv=>whnf)
 have hpos: ∀ i,0<=(aP e.counts r.fr).getD i 0:=Hq hc h1'
 have hB:=hc.b.dec (by omega) r.fr
 refine⟨fun h2=>?_,fun h2=>?_⟩
 ·replace h2:(r.kind==1)=true:=h2
  have hBt:=hB.get (by omega) r.to.toNat
  conv=>whnf
  refine ah.lend (S.nM r (aP e.counts r.fr) false hr (by omega) hpos) (And.intro (fG _) (And.intro (IK trivial rfl) trivial)) rfl rfl ?_
  conv=>whnf
  refine⟨fun h5=>?_,fun h5=>?_⟩
  ·replace h5:(!(pG r (aP e.counts r.fr)))=true:=h5
   conv=>whnf
   refine ak.eqv ?_
   rw[gZ,dV,h1',h2,h5]; rfl
  replace h5:(!(pG r (aP e.counts r.fr)))=false:=h5
  conv=>whnf
  repeat(refine VC.mk (by first|(simp only[Rw.rng,List.length_set]; omega)|(simp only[okI,aP] at *; omega)) ?_; conv=>whnf)
  refine⟨fun h4=>?_,fun h4=>?_⟩
  ·replace h4:decide (r.write>=0)=true:=h4
   have hS:gZ r e= .fV [.dat (.elem ⟨r.write,iE (aP e.counts r.fr) r.to 1⟩),.bool true]:=by rw[gZ,dV,h1',h2,h5,h4]; rfl
   conv=>whnf
   rw[hS]
   exact ak.wK rfl
  ·replace h4:decide (r.write>=0)=false:=h4
   have hS:gZ r e= .fV [.dat (.elem ⟨e.value,iE (aP e.counts r.fr) r.to 1⟩),.bool true]:=by rw[gZ,dV,h1',h2,h5,h4]; rfl
   conv=>whnf
   rw[hS]
   exact ak.wK rfl
 replace h2:(r.kind==1)=false:=h2
 conv=>whnf
 refine⟨fun h3=>?_,fun h3=>?_⟩
 ·replace h3:(r.kind==2)=true:=h3
  have hB1:=hB.get (by omega) r.gQ.toNat
  have hB2:=hB.dec (by omega) r.gQ
  have hB3:=hB2.get (by omega) r.BU.toNat
  have hB4:=hB2.add (by omega) r.BU 1 (k:=1) ⟨by omega,by omega⟩
  have hB5:=hB4.get (by omega) r.to.toNat
  conv=>whnf
  repeat(refine VC.mk (by first|(simp only[Rw.rng,List.length_set]; omega)|(simp only[aP,iE] at *; omega)) ?_; conv=>whnf)
  refine⟨fun h6=>?_,fun h6=>?_⟩
  ·replace h6:((aP e.counts r.fr).getD r.gQ.toNat 0==0)=true:=h6
   conv=>whnf
   refine ak.eqv ?_
   rw[gZ,dV,h1',h2,h3,h6]; rfl
  replace h6:((aP e.counts r.fr).getD r.gQ.toNat 0==0)=false:=h6
  conv=>whnf
  repeat(refine VC.mk (by first|(simp only[Rw.rng,List.length_set]; omega)|(simp only[okI,aP,iE] at *; omega)) ?_; conv=>whnf)
  refine⟨fun h4=>?_,fun h4=>?_⟩
  ·replace h4:decide (r.write>=0)=true:=h4
   have hS:gZ r e= .fV [.dat (.elem ⟨r.write,iE (iE (aP (aP e.counts r.fr) r.gQ) r.BU 1) r.to 1⟩),.bool true]:=by rw[gZ,dV,h1',h2,h3,h6,h4]; rfl
   conv=>whnf
   rw[hS]
   exact ak.wK rfl
  ·replace h4:decide (r.write>=0)=false:=h4
   have hS:gZ r e= .fV [.dat (.elem ⟨e.value,iE (iE (aP (aP e.counts r.fr) r.gQ) r.BU 1) r.to 1⟩),.bool true]:=by rw[gZ,dV,h1',h2,h3,h6,h4]; rfl
   conv=>whnf
   rw[hS]
   exact ak.wK rfl
 replace h3:(r.kind==2)=false:=h3
 conv=>whnf
 refine⟨fun h6=>?_,fun h6=>?_⟩
 ·replace h6:(r.kind==3)=true:=h6
  obtain⟨rs1,rs2⟩:=hp.rsp (beq_iff_eq.1 h6)
  conv=>whnf
  have hm:=DV (n:=(aP e.counts r.fr).length) (by omega)
  simp only[aP] at hm
  rw[hm]
  conv=>whnf
  refine .mk (by simp only[List.length_set]; omega) ?_
  conv=>whnf
  refine aK.wJ 100 [2,4,6,83,84] (fun i:Nat=>[(85,.int i)]) (fun i=>[(0,.box 71 19 (.dat (.rule r))),(1,.box 50 3 (.dat (.elem e))),(2,.box 50 3 (.agg [.int 0,.row 0 true .nil])),(27,xR (aP e.counts r.fr)),(29,.box 50 3 (.agg [.int e.value,.own 52])),(52,xR (lS r (aP e.counts r.fr) i))]) (fun i=>i<=(aP e.counts r.fr).length) (fun i=>(aP e.counts r.fr).length-i) 0 [0,1,2,27,29,52] rfl (by decide) (fun _=>rfl) (Nat.zero_le _) ?_ ?_ ?_
  ·exact⟨⟨_,rfl,.eq rfl⟩,trivial⟩
  ·exact⟨okF rfl nofun rfl rfl rfl ⟨rfl,rfl⟩ rfl,okF rfl nofun rfl rfl rfl ⟨rfl,rfl⟩ rfl,okF rfl nofun rfl rfl rfl ⟨rfl,rfl⟩ rfl,okF rfl nofun rfl rfl rfl ⟨rfl,rfl⟩ rfl,⟨rfl,nofun,rfl,rfl,_,rfl,rfl,rfl,fM.of_eq rfl⟩,okF rfl nofun rfl rfl rfl ⟨rfl,rfl⟩ rfl,trivial⟩
  conv=>whnf
  refine⟨⟨⟨_,rfl,.eq rfl⟩,⟨_,rfl,.eq rfl⟩,⟨_,rfl,.eq rfl⟩,⟨_,rfl,.eq rfl⟩,⟨_,rfl,.eq rfl⟩,trivial⟩,rfl,?_⟩
  rintro i hi
  have hn6:(i:Int)*1048577<=6*1048577:=Int.mul_le_mul_of_nonneg_right (by omega) (by omega)
  have hn0:0<=(i:Int)*1048577:=Int.mul_nonneg (by omega) (by omega)
  have hRB:=XA hB (by omega) (r:=r) i
  have hRl:(lS r (aP e.counts r.fr) i).length=e.counts.length:=by rw[oP,hl1]
  conv=>whnf
  refine⟨fun g1=>?_,fun g1=>?_⟩
  ·have hi':i<(aP e.counts r.fr).length:=by
    have:(i:Int)<((aP e.counts r.fr).length:Int):=of_decide_eq_true g1
    omega
   have hir:i<r.response.length:=by omega
   obtain⟨q3,q4⟩:0<=r.response.getD i 0/\r.response.getD i 0<e.counts.length:=by
    rw[show r.response.getD i 0=r.response[i] by simp[hir]]; exact rs2 _ (List.getElem_mem hir)
   have hR1:=hRB.get hn0 (r.response.getD i 0).toNat
   have hR2:=hB.get (by omega) i
   conv=>whnf
   repeat(refine VC.mk (by first|(first|(simp only[Rw.rng,oP]; omega)|(simp only[okI,aP,Int.toNat_natCast] at *; omega))|(simp only[Rw.rng] at *; first|omega|(simp_all; done)|(simp_all; omega))) ?_; conv=>whnf)
   refine⟨i+1,[0,1,2,27,29,52],by omega,by omega,⟨⟨_,rfl,.eq rfl⟩,trivial⟩,⟨⟨_,rfl,.eq rfl⟩,⟨_,rfl,.eq rfl⟩,⟨_,rfl,.eq rfl⟩,⟨_,rfl,.eq rfl⟩,⟨_,rfl,.eq rfl⟩,trivial⟩,okF rfl nofun rfl rfl rfl ⟨rfl,rfl⟩ rfl,okF rfl nofun rfl rfl rfl ⟨rfl,rfl⟩ rfl,okF rfl nofun rfl rfl rfl ⟨rfl,rfl⟩ rfl,okF rfl nofun rfl rfl rfl ⟨rfl,rfl⟩ rfl,⟨rfl,nofun,rfl,rfl,_,rfl,rfl,rfl,fM.of_eq rfl⟩,okF rfl nofun rfl rfl rfl ?_ ?_,trivial⟩
   ·exact⟨rfl,rfl⟩
   ·rw[uI]; rfl
  have hi':i=(aP e.counts r.fr).length:=by
   have: ¬ ((i:Int)<((aP e.counts r.fr).length:Int)):=of_decide_eq_false g1
   omega
  subst hi'
  have hR1:=hRB.get hn0 r.to.toNat
  conv=>whnf
  repeat(refine VC.mk (by first|(simp only[Rw.rng,oP]; omega)|(simp only[okI,aP,Int.toNat_natCast] at *; omega)) ?_; conv=>whnf)
  refine⟨fun h4=>?_,fun h4=>?_⟩
  ·replace h4:decide (r.write>=0)=true:=h4
   have hS:gZ r e= .fV [.dat (.elem ⟨r.write,iE (lS r (aP e.counts r.fr) (aP e.counts r.fr).length) r.to 1⟩),.bool true]:=by rw[gZ,dV,h1',h2,h3,h6,h4]; rfl
   conv=>whnf
   rw[hS]
   exact ak.wK rfl
  ·replace h4:decide (r.write>=0)=false:=h4
   have hS:gZ r e= .fV [.dat (.elem ⟨e.value,iE (lS r (aP e.counts r.fr) (aP e.counts r.fr).length) r.to 1⟩),.bool true]:=by rw[gZ,dV,h1',h2,h3,h6,h4]; rfl
   conv=>whnf
   rw[hS]
   exact ak.wK rfl
 replace h6:(r.kind==3)=false:=h6
 have hBt:=hB.get (by omega) r.to.toNat
 conv=>whnf
 repeat(refine VC.mk (by first|(simp only[Rw.rng,List.length_set]; omega)|(simp only[okI,aP] at *; omega)) ?_; conv=>whnf)
 refine⟨fun h4=>?_,fun h4=>?_⟩
 ·replace h4:decide (r.write>=0)=true:=h4
  have hS:gZ r e= .fV [.dat (.elem ⟨r.write,iE (aP e.counts r.fr) r.to 1⟩),.bool true]:=by rw[gZ,dV,h1',h2,h3,h6,h4]; rfl
  conv=>whnf
  rw[hS]
  exact ak.wK rfl
 ·replace h4:decide (r.write>=0)=false:=h4
  have hS:gZ r e= .fV [.dat (.elem ⟨e.value,iE (aP e.counts r.fr) r.to 1⟩),.bool true]:=by rw[gZ,dV,h1',h2,h3,h6,h4]; rfl
  conv=>whnf
  rw[hS]
  exact ak.wK rfl
abbrev jS(l:List (List Int)):OV:=.row 24 0 (.jr l) []
theorem Vx(l:List (List Int)):T.aY (l.map Go.Ab.ints)=true:=by
 rw[gu]; intro t ht; obtain⟨x,_,rfl⟩:=List.mem_map.1 ht; rfl
theorem RJ{h:Hz}{j:Nat}{Z:Nat->Prop}{l:List (List Int)}(hz:Z j)(q:h.get j=some (jS l)):T.sub Z h.aA (V.row 0 false (.jr l)).aH (V.own j).aH:=by
 show T.sub Z h.aA (.sl 0 false (l.map Go.Ab.ints)) (.own j)
 simp only[T.sub]
 refine⟨trivial,hz,Vx l,by decide,24,?_⟩
 have:=aX q; simpa [OV.aG,Rw.bg,V.bg] using this
theorem ak.aem{h:Hz}{j:Nat}{l:List (List Int)}(q:h.get j=some (jS l)):ak (.row 0 false (.jr l)) (.own j) h:=⟨RJ trivial q⟩
theorem FH{Z:Nat->Prop}{h:Hz}{i j:Nat}{r:Rw}{l:List (List Int)}{c:List Int}(q:h.get i=some (.row 24 0 r [.own j]))(hr:r.bg=l.map Go.Ab.ints)(hi: ¬ Z i)(hz:Z j)(qj:h.get j=some (xR c)) :
  ∃ o',h.get i=some o'/\ ¬ Z i/\o'.aG.ty=(jS (l++[c])).aG.ty/\o'.aG.k=(jS (l++[c])).aG.k/\T.dJ Z h.aA (jS (l++[c])).aG.l o'.aG.l/\(jS (l++[c])).aG.l.map T.kd=o'.aG.l.map T.kd/\(jS (l++[c])).aG.l.map gB=o'.aG.l.map gB:=by
 have e1:(jS (l++[c])).aG.l=r.bg++[Go.Ab.ints c]:=by rw[hr]; simp[OV.aG,Rw.bg,V.bg]
 refine⟨_,q,hi,rfl,rfl,?_,?_,?_⟩
 ·rw[e1]
  exact Aj (dP _) ⟨IK hz qj,trivial⟩
 ·rw[e1]; show _=List.map T.kd (r.bg++[.own j])
  rw[List.map_append,List.map_append]; rfl
 ·rw[e1]; show _=List.map gB (r.bg++[.own j])
  rw[List.map_append,List.map_append]; rfl
theorem kP{α:Type}{l:List α}{i:Nat}{d:α}(h:i<l.length):l.getD i d∈l:=by
 rw[List.getD_eq_getElem?_getD,List.getElem?_eq_getElem h]; exact List.getElem_mem h
def qG(N:List (List Int)):Nat->List (List Int)
 |0=>[[]]
 |i+1=>(qG N i).flatMap fun h=>(N.getD i []).map fun n=>h++[n]
def Nj(N:List (List Int))(i a:Nat):List (List Int):=((qG N i).take a).flatMap fun h=>(N.getD i []).map fun n=>h++[n]
def G9(N:List (List Int))(i a b:Nat):List (List Int):=Nj N i a++((N.getD i []).take b).map fun n=>(qG N i).getD a []++[n]
theorem Vy{N:List (List Int)}{i a:Nat}(ha:a<(qG N i).length):Nj N i (a+1)=G9 N i a (N.getD i []).length:=by
 unfold Nj G9
 have ht:(qG N i).take (a+1)=(qG N i).take a++[(qG N i).getD a []]:=by rw[List.take_add_one]; simp[ha]
 rw[ht,List.flatMap_append,List.take_length]; simp[Nj]
theorem OZ{N:List (List Int)}{i:Nat}:Nj N i (qG N i).length=qG N (i+1):=by
 unfold Nj; rw[List.take_length]; rfl
theorem Vz{N:List (List Int)}{i a b:Nat}(hb:b<(N.getD i []).length):G9 N i a (b+1)=G9 N i a b++[(qG N i).getD a []++[(N.getD i []).getD b 0]]:=by
 unfold G9
 revert hb
 generalize N.getD i []=L
 intro hb
 have ht:L.take (b+1)=L.take b++[L.getD b 0]:=by rw[List.take_add_one]; simp[hb]
 rw[ht,List.map_append,<- List.append_assoc]; rfl
theorem IL{α β:Type}{f:α->List β}{k:Nat}: ∀ {l:List α},(∀ x∈l,(f x).length<=k)->(l.flatMap f).length<=l.length*k:=by
 intro l
 induction l with
 |nil=>intro _; simp
 |cons x r ih =>
  intro h
  rw[List.flatMap_cons,List.length_append,List.length_cons,Nat.succ_mul]
  have:=h x (by simp); have:=ih fun y hy=>h y (by simp[hy]); omega
def CW(N:List (List Int)):Prop:= ∀ i,(N.getD i []).length<=3
theorem O1{N:List (List Int)}(hN:CW N){i a:Nat}(ha:a<=(qG N i).length):(Nj N i a).length<=a*3:=by
 have:=IL (l:=(qG N i).take a) (f:=fun h=>(N.getD i []).map fun n=>h++[n]) (k:=3) (fun x _=>by rw[List.length_map]; exact hN i)
 rw[List.length_take,Nat.min_eq_left ha] at this
 exact this
theorem aak{N:List (List Int)}(hN:CW N): ∀ {i:Nat},(qG N i).length<=3^i:=by
 intro i
 induction i with
 |zero=>exact Nat.le_refl _
 |succ i ih =>
  have:=O1 hN (Nat.le_refl (qG N i).length)
  rw[OZ] at this
  rw[Nat.pow_succ]; omega
theorem Nk{N:List (List Int)}: ∀ {i:Nat} {c:List Int},c∈qG N i->c.length=i:=by
 intro i
 induction i with
 |zero=>intro c h; simp[qG] at h; rw[h]; rfl
 |succ i ih =>
  intro c h
  simp only[qG,List.mem_flatMap,List.mem_map] at h
  obtain⟨x,hx,n,_,rfl⟩:=h
  rw[List.length_append,ih hx]; rfl
theorem Um{N:List (List Int)}(hN:CW N){i:Nat}(hi:i<=6):(qG N i).length<=729:=by
 have h1:=aak hN (i:=i)
 have h2:3^i<=3^6:=Nat.pow_le_pow_right (by decide) hi
 have h3:3^6=729:=by decide
 omega
def DX(v:Int)(l:List (List Int)):List Elem:=(l.map fun c=>(⟨v,c⟩:Elem)).filter fun e=>decide (0<oN e)
def mV(v:Int)(N:List (List Int)):List Elem:=DX v (qG N N.length)
theorem VA{v:Int}{l:List (List Int)}{a:Nat}(ha:a<l.length):DX v (l.take (a+1))=DX v (l.take a)++(if decide (0<oN ⟨v,l.getD a []⟩)=true then [⟨v,l.getD a []⟩] else []):=by
 unfold DX
 have ht:l.take (a+1)=l.take a++[l.getD a []]:=by rw[List.take_add_one]; simp[ha]
 rw[ht,List.map_append,List.filter_append]
 by_cases h:decide (0<oN ⟨v,l.getD a []⟩)=true
 ·rw[if_pos h]; simp only[List.map_cons,List.map_nil,List.filter_cons,h,if_true,List.filter_nil]
 ·rw[if_neg h]; simp only[List.map_cons,List.map_nil,List.filter_cons,h,Bool.false_eq_true,if_false,List.filter_nil]
theorem O4{v:Int}{l:List (List Int)}:(DX v l).length<=l.length:=by
 unfold DX
 have:=List.length_filter_le (fun e=>decide (0<oN e)) (l.map fun c=>(⟨v,c⟩:Elem))
 rwa [List.length_map] at this
theorem aal:fM [T.sl 0 false []] [T.sl 0 true []]:=by
 intro Z h; simp[T.dJ,T.sub]
set_option maxHeartbeats 1000000 in
theorem S.Ku(v:Int)(N:List (List Int))(f:Bool)(hN6:N.length<=6)(hN:CW N)(n:Nat):aQ Tryz.prog 120 (V.bg [.int v,.row 0 f (.jr N)]) (Hz.aA []) n (fun t hp=>t= .own n/\hp=Hz.aA [(n,some (jL (mV v N)))]):=by
 refine xW.of (nx:=0) Bd.kU (by simp) ⟨_,_,rfl,rfl⟩ rfl rfl ?_
 conv=>whnf
 refine aK.wJ 1 [0,18,19] (fun i:Nat=>[(20,.int i),(5,.own 0)]) (fun i=>[(0,jS (qG N i))]) (fun i=>i<=N.length) (fun i=>N.length-i) 0 [1] rfl (by decide) (fun _=>rfl) (Nat.zero_le _) ?_ ?_ ?_
 ·exact⟨⟨_,rfl,.eq rfl⟩,⟨_,rfl,.eq rfl⟩,trivial⟩
 ·exact⟨⟨rfl,nofun,rfl,rfl,_,rfl,rfl,rfl,aal⟩,trivial⟩
 conv=>whnf
 refine⟨⟨⟨_,rfl,.eq rfl⟩,⟨_,rfl,.eq rfl⟩,⟨_,rfl,.eq rfl⟩,trivial⟩,rfl,?_⟩
 rintro i hi
 have hcap:=Um hN (i:=i) (by omega)
 have h3:=hN i
 conv=>whnf
 refine⟨fun h1=>?_,fun h1=>?_⟩
 ·have hi':i<N.length:=by simpa using h1
  conv=>whnf
  refine .mk (by simp only[Rw.rng] at *; first|omega|(simp_all; done)|(simp_all; omega)) ?_
  conv=>whnf
  refine aK.nil 8 24 0 (by rfl) rfl rfl rfl ?_
  refine aK.wJ 2 [0,7,18,19,20,24,25] (fun a:Nat=>[(26,.int a),(8,.own 1)]) (fun a=>[(0,jS (qG N i)),(1,jS (Nj N i a))]) (fun a=>a<=(qG N i).length) (fun a=>(qG N i).length-a) 0 [0,9] rfl (by decide) (fun _=>rfl) (Nat.zero_le _) ?_ ?_ ?_
  ·exact⟨⟨_,rfl,.eq rfl⟩,⟨_,rfl,.eq rfl⟩,trivial⟩
  ·exact⟨okF rfl nofun rfl rfl rfl ⟨rfl,rfl⟩ rfl,okF rfl nofun rfl rfl rfl ⟨rfl,rfl⟩ rfl,trivial⟩
  conv=>whnf
  refine⟨⟨⟨_,rfl,.eq rfl⟩,⟨_,rfl,.eq rfl⟩,⟨_,rfl,.eq rfl⟩,⟨_,rfl,.eq rfl⟩,⟨_,rfl,.eq rfl⟩,⟨_,rfl,.eq rfl⟩,⟨_,rfl,.eq rfl⟩,trivial⟩,rfl,?_⟩
  rintro a ha
  have hA:=O1 hN ha
  conv=>whnf
  refine⟨fun h2=>?_,fun h2=>?_⟩
  ·have ha':a<(qG N i).length:=by simpa using h2
   have hcl:((qG N i).getD a []).length=i:=Nk (kP ha')
   conv=>whnf
   repeat(refine VC.mk (by simp only[Rw.rng] at *; first|omega|(simp_all; done)|(simp_all; omega)) ?_; conv=>whnf)
   refine aK.Un 2 [0,7,10,18,19,20,24,25,26,30,31] (fun b:Nat=>[(32,.int b),(8,.own 1)]) (fun b=>[(0,jS (qG N i)),(1,jS (G9 N i a b))]) (fun b=>b<=(N.getD i []).length) (fun b=>(N.getD i []).length-b) 0 [0,1] [(0,some (jS (qG N i))),(1,some (jS (Nj N i a)))] rfl (by decide) (fun _=>rfl) (Nat.zero_le _) ?_ ?_ ?_ ?_
   ·exact⟨⟨_,rfl,.eq rfl⟩,⟨_,rfl,.eq rfl⟩,trivial⟩
   ·exact⟨fun _=>False,mW (Z:=fun _=>False) rfl (fun q=>q),mW (Z:=fun _=>False) rfl (fun q=>q),trivial⟩
   ·exact⟨okF rfl nofun rfl rfl rfl ⟨rfl,rfl⟩ rfl,okF rfl nofun rfl rfl rfl ⟨rfl,rfl⟩ (by simp[G9]),trivial⟩
   conv=>whnf
   refine⟨⟨⟨_,rfl,.eq rfl⟩,⟨_,rfl,.eq rfl⟩,⟨_,rfl,.eq rfl⟩,⟨_,rfl,.eq rfl⟩,⟨_,rfl,.eq rfl⟩,⟨_,rfl,.eq rfl⟩,⟨_,rfl,.eq rfl⟩,⟨_,rfl,.eq rfl⟩,⟨_,rfl,.eq rfl⟩,⟨_,rfl,.eq rfl⟩,⟨_,rfl,.eq rfl⟩,trivial⟩,rfl,?_⟩
   rintro b hb
   have hB:(G9 N i a b).length<=729*3+3:=by
    unfold G9; rw[List.length_append,List.length_map,List.length_take]; omega
   conv=>whnf
   refine⟨fun h4=>?_,fun h4=>?_⟩
   ·have hb':b<(N.getD i []).length:=by simpa using h4
    conv=>whnf
    repeat(refine VC.mk (by first|(simp only[Rw.rng,Int.toNat_natCast]; omega)|(simp only[Rw.oK]; omega)) ?_; conv=>whnf)
    rw[show decide (((((qG N i).getD (a:Int).toNat []).length:Int))=(((qG N i).getD (a:Int).toNat []).length:Int))=true from decide_eq_true rfl]
    conv=>whnf
    refine aam.one ⟨.inr (Nat.zero_lt_succ _),?_⟩ ?_
    ·show(Rw.len (Rw.take _ _)+1)*8<=140737488355328/\Rw.len (Rw.take _ _)+1<=1152921504606846976
     rw[Rw.XB]; simp only[Rw.len,Int.toNat_natCast]; omega
    conv=>whnf
    repeat(refine VC.mk (by first|(show((G9 N i a b).length+(0+1))*24<=140737488355328/\(G9 N i a b).length+(0+1)<=1152921504606846976; omega)|(simp only[okI] at *; first|omega|(simp_all; done)|(simp_all; omega))) ?_; conv=>whnf)
    refine⟨[(0,some (jS (qG N i))),(17,some (jS (G9 N i a b++[((qG N i).getD a []).take ((((qG N i).getD a []).length:Int).toNat)++[(N.getD i []).getD b 0]])))],b+1,[0,17],⟨fun i=>i=15,mW (Z:=fun i=>i=15) (i:=0) rfl (by decide),FH (Z:=fun i=>i=15) (i:=17) (j:=15) rfl rfl (by decide) rfl rfl,trivial⟩,by omega,by omega,⟨⟨_,rfl,.eq rfl⟩,⟨_,rfl,.eq rfl⟩,trivial⟩,⟨⟨_,rfl,.eq rfl⟩,⟨_,rfl,.eq rfl⟩,⟨_,rfl,.eq rfl⟩,⟨_,rfl,.eq rfl⟩,⟨_,rfl,.eq rfl⟩,⟨_,rfl,.eq rfl⟩,⟨_,rfl,.eq rfl⟩,⟨_,rfl,.eq rfl⟩,⟨_,rfl,.eq rfl⟩,⟨_,rfl,.eq rfl⟩,⟨_,rfl,.eq rfl⟩,trivial⟩,okF rfl nofun rfl rfl rfl ⟨rfl,rfl⟩ rfl,okF rfl nofun rfl rfl rfl ⟨rfl,rfl⟩ ?_,trivial⟩
    rw[Vz hb',Int.toNat_natCast,List.take_length]
   ·have hb':b=(N.getD i []).length:=by
     have: ¬ ((b:Int)<((N.getD i []).length:Int)):=of_decide_eq_false h4
     omega
    subst hb'
    rw[<- Vy ha']
    conv=>whnf
    refine .mk (by simp only[okI] at *; first|omega|(simp_all; done)|(simp_all; omega)) ?_
    conv=>whnf
    refine⟨a+1,[0,1],by omega,by omega,⟨⟨_,rfl,.eq rfl⟩,⟨_,rfl,.eq rfl⟩,trivial⟩,⟨⟨_,rfl,.eq rfl⟩,⟨_,rfl,.eq rfl⟩,⟨_,rfl,.eq rfl⟩,⟨_,rfl,.eq rfl⟩,⟨_,rfl,.eq rfl⟩,⟨_,rfl,.eq rfl⟩,⟨_,rfl,.eq rfl⟩,trivial⟩,okF rfl nofun rfl rfl rfl ⟨rfl,rfl⟩ rfl,okF rfl nofun rfl rfl rfl ⟨rfl,rfl⟩ rfl,trivial⟩
  ·have ha':a=(qG N i).length:=by
    have: ¬ ((a:Int)<((qG N i).length:Int)):=of_decide_eq_false h2
    omega
   subst ha'
   rw[OZ]
   conv=>whnf
   refine .mk (by simp only[okI] at *; first|omega|(simp_all; done)|(simp_all; omega)) ?_
   conv=>whnf
   refine⟨i+1,[1],by omega,by omega,⟨⟨_,rfl,.eq rfl⟩,⟨_,rfl,.eq rfl⟩,trivial⟩,⟨⟨_,rfl,.eq rfl⟩,⟨_,rfl,.eq rfl⟩,⟨_,rfl,.eq rfl⟩,trivial⟩,okF rfl nofun rfl rfl rfl ⟨rfl,rfl⟩ rfl,trivial⟩
 ·have hi':i=N.length:=by
   have: ¬ ((i:Int)<(N.length:Int)):=of_decide_eq_false h1
   omega
  subst hi'
  conv=>whnf
  refine aK.nil 13 50 3 (by rfl) rfl rfl rfl ?_
  refine aK.wJ 2 [0,52,53] (fun a:Nat=>[(54,.int a),(13,.own 1)]) (fun a=>[(0,jS (qG N N.length)),(1,jL (DX v ((qG N N.length).take a)))]) (fun a=>a<=(qG N N.length).length) (fun a=>(qG N N.length).length-a) 0 [0,6] rfl (by decide) (fun _=>rfl) (Nat.zero_le _) ?_ ?_ ?_
  ·exact⟨⟨_,rfl,.eq rfl⟩,⟨_,rfl,.eq rfl⟩,trivial⟩
  ·exact⟨okF rfl nofun rfl rfl rfl ⟨rfl,rfl⟩ rfl,okF rfl nofun rfl rfl rfl ⟨rfl,rfl⟩ rfl,trivial⟩
  conv=>whnf
  refine⟨⟨⟨_,rfl,.eq rfl⟩,⟨_,rfl,.eq rfl⟩,⟨_,rfl,.eq rfl⟩,trivial⟩,rfl,?_⟩
  rintro a ha
  have hkl:=O4 (v:=v) (l:=(qG N N.length).take a)
  rw[List.length_take] at hkl
  conv=>whnf
  refine⟨fun h2=>?_,fun h2=>?_⟩
  ·have ha':a<(qG N N.length).length:=by simpa using h2
   have hcl:((qG N N.length).getD a []).length=N.length:=Nk (kP ha')
   have hn:=VA (v:=v) ha'
   conv=>whnf
   repeat(refine VC.mk (by simp only[Rw.rng] at *; first|omega|(simp_all; done)|(simp_all; omega)) ?_; conv=>whnf)
   refine ah.pure (S.jP ⟨v,(qG N N.length).getD a []⟩ (by show((qG N N.length).getD a []).length<_; omega)) rfl ?_
   conv=>whnf
   refine⟨fun h3=>?_,fun h3=>?_⟩
   ·rw[if_pos h3] at hn
    conv=>whnf
    repeat(refine VC.mk (by first|(show((DX v ((qG N N.length).take a)).length+(0+1))*32<=140737488355328/\(DX v ((qG N N.length).take a)).length+(0+1)<=1152921504606846976; omega)|(simp only[okI] at *; first|omega|(simp_all; done)|(simp_all; omega))) ?_; conv=>whnf)
    refine⟨a+1,[0,17],by omega,by omega,⟨⟨_,rfl,.eq rfl⟩,⟨_,rfl,.eq rfl⟩,trivial⟩,⟨⟨_,rfl,.eq rfl⟩,⟨_,rfl,.eq rfl⟩,⟨_,rfl,.eq rfl⟩,trivial⟩,okF rfl nofun rfl rfl rfl ⟨rfl,rfl⟩ rfl,okF rfl nofun rfl rfl rfl ⟨rfl,rfl⟩ ?_,trivial⟩
    rw[hn]
    show List.map fH (DX v (List.take a (qG N N.length))++[⟨v,(qG N N.length).getD a []⟩])++[]=List.map fH (DX v (List.take a (qG N N.length)))++[fH ⟨v,(qG N N.length).getD a []⟩]
    simp
   ·rw[if_neg (by rw[h3]; decide),List.append_nil] at hn
    conv=>whnf
    refine .mk (by simp only[okI] at *; first|omega|(simp_all; done)|(simp_all; omega)) ?_
    conv=>whnf
    refine⟨a+1,[0,1],by omega,by omega,⟨⟨_,rfl,.eq rfl⟩,⟨_,rfl,.eq rfl⟩,trivial⟩,⟨⟨_,rfl,.eq rfl⟩,⟨_,rfl,.eq rfl⟩,⟨_,rfl,.eq rfl⟩,trivial⟩,okF rfl nofun rfl rfl rfl ⟨rfl,rfl⟩ rfl,okF rfl nofun rfl rfl rfl ⟨rfl,rfl⟩ (by rw[hn]),trivial⟩
  ·have ha':(qG N N.length).length<=a:=by simpa using h2
   rw[List.take_of_length_le ha']
   conv=>whnf
   exact uo.one (c:=n) (j:=1) (o:=jL (mV v N)) (t:=.own n) rfl rfl rfl nofun (.inr rfl) rfl (.eq rfl) ⟨rfl,rfl⟩
theorem S.kU(v:Int)(N:List (List Int))(f:Bool)(hN6:N.length<=6)(hN:CW N):rC Tryz.prog 120 (V.bg [.int v,.row 0 f (.jr N)]) (fun n=>.own n) (some ⟨50,3,(Rw.elems (mV v N)).bg⟩):=by
 refine⟨rfl,fun n=>rfl,fun ob h=>?_,fun ob h=>?_,fun n=>?_⟩
 ·cases h; exact uY _
 ·cases h; exact show(3:Nat)≠dI by decide
 ·have:=S.Ku v N f hN6 hN n
  have e1:Hz.aA [(n,some (jL (mV v N)))]=gJ no n (some ⟨50,3,(Rw.elems (mV v N)).bg⟩):=by
   rw[bP]; simp[gJ,OV.aG,V.bg]; rfl
  rw[e1] at this
  exact this
theorem S.kV(a b:Elem)(ha:a.counts.length<2^40)(hb:b.counts.length<2^40):aj Tryz.prog 162 [.dat (.elem a),.dat (.elem b)] (.bool (decide (a=b))):=by
 refine aj.of Bd.kV (by simp) rfl rfl ?_
 conv=>whnf
 refine ah.pure (S.gy a b ha hb) rfl ?_
 conv=>whnf
 refine ak.bool ?_
 rw[Bool.eq_iff_iff]; simp only[decide_eq_true_eq,beq_iff_eq]
 exact lX.symm
theorem S.XC(l:List Elem)(n:Nat)(hl:l.length<2^30)(hs:kM l) :
  aQ Tryz.prog 161 (V.bg [.own 0,.fn 162 []]) (h1 l).aA n
   (fun t hp=>(rD l=l/\t= .own 0/\hp=(h1 l).aA)\/(∃ m,t= .lD 0 0 (rD l).length/\hp=Hz.aA [(0,some (.row 50 3 (.elems (rD l)) (List.replicate m zeroV)))])):=by
 refine xW.of (nx:=1) Bd.bG (by simp) ⟨_,_,.inr ⟨0,rfl,rfl⟩⟩ rfl rfl ?_
 conv=>whnf
 refine⟨fun h1=>?_,fun h1=>?_⟩
 ·conv=>whnf
  have hc:rD l=l:=by
   have h2:l.length<2:=by simp at h1; omega
   rw[rD,IQ (Nat.le_refl _) (fun i h3 h4=>by omega),List.take_length]
  exact uo.one (c:=0) (j:=0) (o:=jL l) (t:=.own 0) rfl rfl rfl (fun _=>rfl) (.inl rfl) rfl (.eq rfl) (.inl ⟨hc,rfl,rfl⟩)
 ·have h2:2<=l.length:=by simp at h1; omega
  conv=>whnf
  refine aK.same [0,1] (fun i:Nat=>[(5,.int i)]) (fun i=>1<=i/\i<=l.length/\ ∀ k,0<k->k<i->l.getD k default≠l.getD (k-1) default) (fun i=>l.length-i) 1 rfl (by decide) rfl (fun _=>rfl) ⟨by omega,by omega,fun k h3 h4=>by omega⟩ ⟨⟨_,rfl,rfl⟩,trivial⟩ ?_
  conv=>whnf
  refine⟨rfl,?_⟩
  rintro k ⟨hk0,hk,hne⟩
  have e1:((k:Int)-1).toNat=k-1:=by omega
  conv=>whnf
  refine⟨fun h3=>?_,fun h3=>?_⟩
  ·have hk':k<l.length:=by simpa using h3
   conv=>whnf
   repeat(refine VC.mk (by simp only[okI,Rw.rng]; omega) ?_; conv=>whnf)
   refine ah.pure (S.kV _ _ (hs.get _) (hs.get _)) rfl ?_
   conv=>whnf
   refine⟨fun h4=>?_,fun h4=>?_⟩
   ·have heq:l.getD k default=l.getD (k-1) default:=by
     rw[e1] at h4; simpa using h4
    have hdk:tN l k=l.take k:=IQ hk hne
    have acJ:tN l (k+1)=l.take k:=by rw[O5 (by omega) heq,hdk]
    conv=>whnf
    refine .mk (by simp only[Rw.oK]; omega) ?_
    conv=>whnf
    refine aK.objs 1 [0,1,6] (fun j:Nat=>[(7,.int j),(5,.int (tN l (k+j)).length)]) (fun j=>[(0,jL (mid l (k+j)))]) (fun j=>1<=j/\k+j<=l.length/\(tN l (k+j)).length+1<=k+j) (fun j=>l.length-j) 1 [0] rfl (by decide) (fun _=>rfl) ⟨by omega,by omega,?_⟩ ?_ ?_ ?_
    ·rw[acJ]; simp; omega
    ·refine⟨⟨_,rfl,.eq rfl⟩,⟨_,rfl,.eq ?_⟩,trivial⟩
     rw[acJ]
     show T.int (((l.take k).length:Nat):Int)=T.int (k:Int)
     simp[Nat.min_eq_left hk]
    ·refine⟨⟨rfl,(fun _=>rfl),rfl,rfl,rfl,_,rfl,rfl,rfl,fM.of_eq ?_⟩,trivial⟩
     have:mid l (k+1)=l:=by unfold mid; rw[acJ]; simp[Nat.min_eq_left hk]
     rw[this]
    conv=>whnf
    refine⟨⟨⟨_,rfl,.eq rfl⟩,⟨_,rfl,.eq rfl⟩,⟨_,rfl,.eq rfl⟩,trivial⟩,rfl,?_⟩
    rintro j ⟨hj0,hj,hdl⟩
    have hml:=aan hj
    have e2:((j:Int)-1).toNat=j-1:=by omega
    have hsm:kM (mid l (k+j)):=fun x hx=>by
     unfold mid at hx
     rcases List.mem_append.1 hx with hx|hx
     ·exact hs x (aao hx hj)
     ·exact hs x (List.mem_of_mem_drop hx)
    conv=>whnf
    refine⟨fun h5=>?_,fun h5=>?_⟩
    ·have hj':k+j<l.length:=by
      have h6:j<l.length-k:=by
       have:(j:Int)<(((Rw.elems l).len-k:Nat):Int):=by simpa using h5
       have e3:(Rw.elems l).len=l.length:=rfl
       rw[e3] at this
       omega
      omega
     have g1:=Uo (l:=l) (j:=k+j) (i:=k+j) (by omega)
     have g2:=Uo (l:=l) (j:=k+j) (i:=k+(j-1)) (by omega)
     conv=>whnf
     repeat(refine VC.mk (by first|(simp only[okI]; omega)|(show _/\_<(((l.length-k:Nat)):Int); omega)|(simp only[Rw.rng,hml,Int.toNat_natCast,e2]; omega)|(show(0:Int)<=_/\_<((mid l (k+j)).length:Int); rw[hml]; simp only[Int.toNat_natCast,e2]; omega)) ?_; conv=>whnf)
     refine ah.pure (S.kV _ _ (hsm.get _) (hsm.get _)) rfl ?_
     simp only[Int.toNat_natCast,e2,g1,g2]
     conv=>whnf
     have e4:k+(j-1)=k+j-1:=by omega
     refine⟨fun h6=>?_,fun h6=>?_⟩
     ·have hne':l.getD (k+j) default≠l.getD (k+j-1) default:=by
       rw[e4] at h6; simpa using h6
      have hst:=aap hj' (.inr hne')
      have hd1:tN l (k+j+1)=tN l (k+j)++[l.getD (k+j) default]:=by simp only[tN]; rw[if_pos (.inr hne')]
      conv=>whnf
      repeat(refine VC.mk (by first|(simp only[okI]; omega)|(show _/\_<(((l.length-k:Nat)):Int); omega)|(simp only[Rw.rng,hml,Int.toNat_natCast]; omega)|(show(0:Int)<=_/\_<((mid l (k+j)).length:Int); rw[hml]; simp only[Int.toNat_natCast]; omega)) ?_; conv=>whnf)
      refine⟨j+1,[0],⟨by omega,by omega,?_⟩,by omega,⟨⟨_,rfl,.eq rfl⟩,⟨_,rfl,.eq ?_⟩,trivial⟩,⟨⟨_,rfl,.eq rfl⟩,⟨_,rfl,.eq rfl⟩,⟨_,rfl,.eq rfl⟩,trivial⟩,⟨rfl,(fun _=>rfl),rfl,rfl,rfl,_,rfl,rfl,rfl,fM.of_eq ?_⟩,trivial⟩
      ·show(tN l (k+j+1)).length+1<=k+(j+1)
       rw[hd1]; simp; omega
      ·show T.int (((tN l (k+j+1)).length:Nat):Int)=T.int (((tN l (k+j)).length:Int)+1)
       rw[hd1]; simp
      ·show(jL (mid l (k+j+1))).aG.l=(OV.row 50 3 (.elems ((mid l (k+j)).set (((tN l (k+j)).length:Int)).toNat ((mid l (k+j)).getD ((k:Int).toNat+(j:Int).toNat) default))) []).aG.l
       simp only[Int.toNat_natCast,g1,hst]
     ·have heq':l.getD (k+j) default=l.getD (k+j-1) default:=by
       rw[e4] at h6; simpa using h6
      have hd1:tN l (k+j+1)=tN l (k+j):=O5 (by omega) heq'
      conv=>whnf
      refine .mk (by simp only[okI] at *; first|omega|(simp_all; done)|(simp_all; omega)) ?_
      conv=>whnf
      refine⟨j+1,[0],⟨by omega,by omega,?_⟩,by omega,⟨⟨_,rfl,.eq rfl⟩,⟨_,rfl,.eq ?_⟩,trivial⟩,⟨⟨_,rfl,.eq rfl⟩,⟨_,rfl,.eq rfl⟩,⟨_,rfl,.eq rfl⟩,trivial⟩,⟨rfl,(fun _=>rfl),rfl,rfl,rfl,_,rfl,rfl,rfl,fM.of_eq ?_⟩,trivial⟩
      ·show(tN l (k+j+1)).length+1<=k+(j+1)
       rw[hd1]; omega
      ·show T.int (((tN l (k+j+1)).length:Nat):Int)=T.int ((tN l (k+j)).length:Int)
       rw[hd1]
      ·show(jL (mid l (k+j+1))).aG.l=(jL (mid l (k+j))).aG.l
       unfold mid; rw[hd1]
    ·have hj':k+j=l.length:=by
      have h6: ¬ (j:Int)<(((Rw.elems l).len-k:Nat):Int):=by simpa using h5
      have e3:(Rw.elems l).len=l.length:=rfl
      rw[e3] at h6
      omega
     have ags:(tN l (k+j)).length<=l.length:=by have:=Hr l (k+j); omega
     conv=>whnf
     repeat(refine VC.mk (by first|(simp only[Rw.oK,hml]; omega)|(refine⟨?_,rfl⟩; show((tN l (k+j)).length:Int).toNat<=(mid l (k+j)).length; rw[hml,Int.toNat_natCast]; omega)|(show(0:Int)<=((tN l (k+j)).length:Int)/\((tN l (k+j)).length:Int)<=(((mid l (k+j)).take ((tN l (k+j)).length:Int).toNat).length:Int); rw[List.length_take,hml,Int.toNat_natCast]; omega)|(show _<=(mid l (k+j)).length/\(mid l (k+j)).length=(mid l (k+j)).length; rw[hml]; simp only[Int.toNat_natCast]; omega)|(show(0:Int)<=_/\_<=(((mid l (k+j)).take _).length:Int); rw[List.length_take,hml]; simp only[Int.toNat_natCast]; omega)) ?_; conv=>whnf)
     have htk:(mid l (k+j)).take ((tN l (k+j)).length:Int).toNat=rD l:=by
      rw[Int.toNat_natCast]; unfold mid; rw[List.take_left,hj']; rfl
     have hcl:((tN l (k+j)).length:Int).toNat=(rD l).length:=by rw[Int.toNat_natCast,hj']; rfl
     refine uo.one (c:=0) (j:=0) (o:=.row 50 3 (.elems (rD l)) (List.replicate ((mid l (k+j)).length-((tN l (k+j)).length:Int).toNat) zeroV)) (t:=.lD 0 0 (rD l).length) ?_ (O6 _ _ _) (Nl _ _) (fun _=>rfl) (.inl rfl) rfl (.eq ?_) (.inr ⟨_,rfl,rfl⟩)
     ·rw[<- htk]; rfl
     ·rw[<- hcl]; rfl
   ·conv=>whnf
    refine .mk (by simp only[okI] at *; first|omega|(simp_all; done)|(simp_all; omega)) ?_
    conv=>whnf
    refine⟨k+1,⟨by omega,by omega,fun i h5 h6=>?_⟩,by omega,⟨⟨_,rfl,rfl⟩,trivial⟩,?_,rfl⟩
    ·by_cases e:i=k
     ·subst e; rw[e1] at h4; simpa using h4
     ·exact hne i h5 (by omega)
    ·repeat' (first|exact trivial|exact⟨_,rfl,rfl⟩|constructor)
  ·conv=>whnf
   have hk':l.length<=k:=by simpa using h3
   have hc:rD l=l:=by
    rw[rD,IQ (Nat.le_refl _) (fun i h3 h4=>hne i h3 (by omega)),List.take_length]
   exact uo.one (c:=0) (j:=0) (o:=jL l) (t:=.own 0) rfl rfl rfl (fun _=>rfl) (.inl rfl) rfl (.eq rfl) (.inl ⟨hc,rfl,rfl⟩)
theorem S.rH(l:List Elem)(n:Nat)(hl:l.length<2^30)(hs:kM l) :
  aQ Tryz.prog 119 (V.bg [.own 0]) (h1 l).aA n
   (fun t hp=>(t= .own 0/\hp=(h1 (ug l)).aA)\/(∃ m,t= .lD 0 0 (ug l).length/\hp=Hz.aA [(0,some (.row 50 3 (.elems (ug l)) (List.replicate m zeroV)))])):=by
 refine xW.of (nx:=1) Bd.rH (by simp) ⟨_,_,.inl ⟨rfl,rfl⟩⟩ rfl rfl ?_
 conv=>whnf
 refine ah.heap (S.SortFunc l _ hl hs) ?_
 rintro t hp ⟨rfl,rfl⟩
 refine⟨.fV [],h1 (qN l),rfl,rfl,?_⟩
 conv=>whnf
 refine ah.heap (S.XC (qN l) _ (by rw[FI]; exact hl) (O7 hs)) ?_
 rintro t hp (⟨hc,rfl,rfl⟩|⟨m,rfl,rfl⟩)
 ·refine⟨.own 0,h1 (qN l),rfl,rfl,?_⟩
  conv=>whnf
  refine uo.one (c:=0) (j:=0) (o:=jL (qN l)) (t:=.own 0) rfl rfl rfl (fun _=>rfl) (.inl rfl) rfl (.eq rfl) (.inl ⟨rfl,?_⟩)
  rw[ug,hc]
 ·refine⟨.lD 0 0 (rD (qN l)).length,[(0,some (.row 50 3 (.elems (rD (qN l))) (List.replicate m zeroV)))],rfl,rfl,?_⟩
  conv=>whnf
  exact uo.one (c:=0) (j:=0) (o:=.row 50 3 (.elems (rD (qN l))) (List.replicate m zeroV)) (t:=.lD 0 0 (rD (qN l)).length) rfl (O6 _ _ _) (Nl _ _) (fun _=>rfl) (.inl rfl) rfl (.eq rfl) (.inr ⟨m,rfl,rfl⟩)
theorem ah.ab2{h:Hz}{i n:Nat}{l:List Elem}{K:V->Hz->Prop}{KW:Nat->V->Hz->Prop}(hi:h.get i=some (jL l))(hn:h.get n=none)(hl:l.length<2^30)(hs:kM l)
  (h1:K (.own i) ((i,some (jL (ug l)))::h)) (h2: ∀ m,K (.lD i 0 (ug l).length) ((i,some (.row 50 3 (.elems (ug l)) (List.replicate m zeroV)))::h)):ah Tryz.prog false none 119 [.own i] h n K KW:=by
 refine ah.XD (ts:=[.own 0]) (S.rH l 1 hl hs) rfl rfl rfl rfl hi hn ?_
 rintro t hp (⟨rfl,rfl⟩|⟨m,rfl,rfl⟩)
 ·exact .inl ⟨.own i,jL (ug l),rfl,rfl,rfl,h1⟩
 ·exact .inl ⟨.lD i 0 _,.row 50 3 (.elems (ug l)) (List.replicate m zeroV),rfl,Nl _ _,rfl,h2 m⟩
theorem ah.XE{P:Program}{f:FuncId}{args args':List V}{h h2:Hz}{n ty k:Nat}{r:Rw}{K:V->Hz->Prop}{KW:Nat->V->Hz->Prop}(Z:Nat->Prop)(F:XF Z h h2)(hs:T.dJ Z h.aA (V.bg args') (V.bg args))
  (H:rC P f (V.bg args') (fun n=>.own n) (some ⟨ty,k,r.bg⟩)) (hK:K (.own n) ((n,some (.row ty k r []))::h2)):ah P false none f args h n K KW:=by
 refine⟨.inl ?_⟩
 refine aQ.frz Z (ts2:=V.bg args') (h2:=h2.aA) (aQ.mono (rC.frame H h2.aA n) ?_) hs fun i ob hi=>?_
 ·rintro t hp ⟨rfl,rfl⟩
  exact⟨.own n,_,rfl,by rw[bP]; simp[gJ,OV.aG,V.bg],(fun e=>by cases e),hK⟩
 ·simp only[Hz.aA,Option.map_eq_some_iff] at hi
  obtain⟨o,e1,rfl⟩:=hi
  obtain⟨o',a1,a2,a3,a4,a5,a6,a7⟩:=O8 F e1
  exact⟨o'.aG,aX a1,a2,a3,a4,a5,a6,a7⟩
theorem XG{Z:Nat->Prop}{h:Hp}{t u:T}(hs:T.sub Z h t u): ∀ {a b:List T} {i:Nat},T.dJ Z h a b->T.dJ Z h (a.set i t) (b.set i u):=by
 intro a
 induction a with
 |nil=>intro b i q; cases b with
  |nil=>exact trivial
  |cons _ _=>exact q.elim
 |cons x r ih =>
  intro b i q
  cases b with
  |nil=>exact q.elim
  |cons y s =>
   cases i with
   |zero=>exact⟨hs,q.2⟩
   |succ i=>exact⟨q.1,ih q.2⟩
theorem O9(n:Nat):fM ((List.replicate n ([]:List Int)).map Go.Ab.ints) (V.bg (List.replicate n (BX .nil))):=by
 intro Z h
 rw[jk,List.map_replicate,List.map_replicate]
 have:T.sub Z h (Go.Ab.ints []) (BX .nil).aH:=by simp[Go.Ab.ints,BX,V.aH,T.sub,Rw.bg]
 induction n with
 |zero=>trivial
 |succ n ih=>exact⟨this,ih⟩
theorem VB{Z:Nat->Prop}{h:Hp}(c:List Int):T.sub Z h (Go.Ab.ints c) (V.row 0 true (.ints c)).aH:=by simp[Go.Ab.ints,V.aH,Rw.bg,T.sub]
theorem Np(L:List (List Int))(i:Nat)(c:List Int):fM ((L.set i c).map Go.Ab.ints) (V.bg ((Rw.vs (.jr L)).set i (.row 0 true (.ints c)))):=by
 intro Z h
 rw[jk,List.map_set,List.map_set,<- jk,Rw.RN]
 exact XG (VB c) (dP _)
theorem Pg(L:List (List Int))(i:Nat)(b c:List Int):fM ((L.set i c).map Go.Ab.ints) (V.bg (((Rw.vs (.jr L)).set i (.row 0 true (.ints b))).set i (.row 0 true (.ints c)))):=by
 rw[List.set_set]; exact Np L i c
theorem Ph{n:Nat}(h:0<n):(bif isZero (.int n) then some Rw.nil else XI (n:Int).toNat .nil)=none:=by
 cases n with
 |zero=>omega
 |succ n=>rfl
theorem okS{ρ:Nat->Nat}{nx pn c n:Nat}{h:Hz}{s:List Nat}{o o':OV}(q1:Nat.blt c nx=true)(q2:Nat.blt c pn=true->n=c)(q3:DY n s=true)(q4:(o.good nx&&o.Rt)=true)(q5:h.get n=some o')
  (q6:o'.aG.ty=o.aG.ty/\o'.aG.k=o.aG.k) (q7:fM o.aG.l o'.aG.l):Nat.blt c nx=true/\(Nat.blt c pn=true->n=c)/\DY n s=true/\o.good nx=true /\
   ∃ o',h.get n=some o'/\o'.aG.ty=o.aG.ty/\o'.aG.k=o.aG.k/\fM (T.dQ ρ o.aG.l) o'.aG.l:=by
 rw[Bool.and_eq_true] at q4
 exact⟨q1,q2,q3,q4.1,o',q5,q6.1,q6.2,by rw[OV.DZ q4.2 ρ]; exact q7⟩
theorem uJ{L:List (List Int)}{l:List T}(h:fM (L.map Go.Ab.ints) l):fM (jS L).aG.l l:=by
 show fM (List.map Go.Ab.ints L++[]) l
 rw[List.append_nil]; exact h
def IU(f:Nat->List Int)(n i:Nat):List (List Int):=(List.range i).map f++List.replicate (n-i) []
theorem Lc{f:Nat->List Int}{n:Nat}:IU f n 0=List.replicate n []:=by simp[IU]
theorem Pj{f:Nat->List Int}{n:Nat}:IU f n n=(List.range n).map f:=by simp[IU]
theorem Pm{f:Nat->List Int}{n i:Nat}(hi:i<=n):(IU f n i).length=n:=by simp[IU]; omega
theorem Ld{f:Nat->List Int}{n i:Nat}(hi:i<n):(IU f n i).set i (f i)=IU f n (i+1):=by
 have e1:n-i=(n-(i+1))+1:=by omega
 unfold IU
 rw[e1,List.replicate_succ,List.set_append_right _ _ (by simp)]
 have:i-((List.range i).map f).length=0:=by simp
 rw[this,List.set_cons_zero,List.range_succ]; simp
def CX(p:aN)(q:Prop')(x:Nat):List Int:=bif y7 (ng p q) x then [0,1,2] else [0]
def zS(p:aN)(q:Prop'):List (List Int):=(List.range p.states.length).map (CX p q)
def fiE(p:aN)(q:Prop'):List Elem:=ug (mV 0 (zS p q))
theorem uq{f:Nat->List Int}(hf: ∀ i,(f i).length<=3)(n:Nat):CW ((List.range n).map f):=by
 intro i
 rw[List.getD_eq_getElem?_getD,List.getElem?_map]
 cases hg:(List.range n)[i]? with
 |none=>simp
 |some j=>exact hf j
theorem Pn(p:aN)(q:Prop')(i:Nat):(CX p q i).length<=3:=by
 unfold CX; cases y7 (ng p q) i<;>simp
theorem Nq{v:Int}{N:List (List Int)}(hN:CW N)(h6:N.length<=6):(mV v N).length<=729:=Nat.le_trans O4 (Um hN h6)
theorem D5{v:Int}{N:List (List Int)}{e:Elem}(h:e∈mV v N):e.value=v/\e.counts.length=N.length/\e.counts∈qG N N.length/\0<oN e:=by
 unfold mV DX at h
 obtain⟨h1,h2⟩:=List.mem_filter.1 h
 obtain⟨c,hc,rfl⟩:=List.mem_map.1 h1
 exact⟨rfl,Nk hc,hc,of_decide_eq_true h2⟩
theorem VD{v:Int}{N:List (List Int)}(h6:N.length<=6):kM (mV v N):=fun e he=>by have:=(D5 he).2.1; omega
set_option maxHeartbeats 1000000 in
theorem S.lY(p:aN)(q:Prop')(hp:dH p)(hq:qM q)(hv:jO p q=0):aj Tryz.prog 75 [.dat (.iY p),.dat (.prop q)] (.row 3 false (.elems (fiE p q))):=by
 have hst:=(yY (y8 hv)).states
 have hpos:=(yY (y8 hv)).pos
 refine aj.of Bd.lY (by simp) rfl rfl ?_
 conv=>whnf
 refine ah.pure (S.jC p q hp hq hv) rfl ?_
 conv=>whnf
 rw[Ph hpos]
 conv=>whnf
 refine .mk (by omega) ?_
 conv=>whnf
 refine aK.wJ 19 [5,20] (fun i:Nat=>[(21,.int i),(7,.own 14)]) (fun i=>[(14,jS (IU (CX p q) p.states.length i))]) (fun i=>i<=p.states.length) (fun i=>p.states.length-i) 0 [14] rfl (by decide) (fun _=>rfl) (Nat.zero_le _) ?_ ?_ ?_
 ·exact⟨⟨_,rfl,.eq rfl⟩,⟨_,rfl,.eq rfl⟩,trivial⟩
 ·refine⟨okS rfl nofun rfl rfl rfl ⟨rfl,rfl⟩ (uJ ?_),trivial⟩
  rw[Lc]
  exact O9 p.states.length
 conv=>whnf
 refine⟨⟨⟨_,rfl,.eq rfl⟩,⟨_,rfl,.eq rfl⟩,trivial⟩,rfl,?_⟩
 rintro i hi
 have hSl:=Pm (f:=CX p q) hi
 have hsl:=Le hp hq
 conv=>whnf
 refine⟨fun h1=>?_,fun h1=>?_⟩
 ·have hi':i<p.states.length:=by simpa using h1
  have hstep:=Ld (f:=CX p q) hi'
  conv=>whnf
  repeat(refine VC.mk (by simp only[Rw.rng,Int.toNat_natCast]; omega) ?_; conv=>whnf)
  refine ah.pure (S.slices_Contains_int (ng p q) i false (by omega)) rfl ?_
  conv=>whnf
  refine⟨fun h2=>?_,fun h2=>?_⟩
  ·have hn:CX p q i=[0,1,2]:=by rw[CX,h2]; rfl
   rw[hn] at hstep
   conv=>whnf
   repeat(refine VC.mk (by first|(simp only[List.length_set,Rw.XJ,Rw.len,Int.toNat_natCast]; omega)|(simp only[okI] at *; first|omega|(simp_all; done)|(simp_all; omega))) ?_; conv=>whnf)
   refine⟨i+1,[14],by omega,by omega,⟨⟨_,rfl,.eq rfl⟩,⟨_,rfl,.eq rfl⟩,trivial⟩,⟨⟨_,rfl,.eq rfl⟩,⟨_,rfl,.eq rfl⟩,trivial⟩,okS rfl nofun rfl rfl rfl ⟨rfl,rfl⟩ (uJ ?_),trivial⟩
   rw[<- hstep]
   exact Pg _ _ _ _
  ·have hn:CX p q i=[0]:=by rw[CX,h2]; rfl
   rw[hn] at hstep
   conv=>whnf
   refine .mk (by simp only[okI] at *; first|omega|(simp_all; done)|(simp_all; omega)) ?_
   conv=>whnf
   refine⟨i+1,[14],by omega,by omega,⟨⟨_,rfl,.eq rfl⟩,⟨_,rfl,.eq rfl⟩,trivial⟩,⟨⟨_,rfl,.eq rfl⟩,⟨_,rfl,.eq rfl⟩,trivial⟩,okS rfl nofun rfl rfl rfl ⟨rfl,rfl⟩ (uJ ?_),trivial⟩
   rw[<- hstep]
   exact Np _ _ _
 ·have hi':i=p.states.length:=by
   have: ¬ i<p.states.length:=by simpa using h1
   omega
  subst hi'
  rw[Pj]
  conv=>whnf
  refine ah.XE (args':=[.int 0,.row 0 false (.jr (zS p q))]) (h2:=[]) (fun i=>i=14) trivial ⟨fG _,RJ rfl rfl,trivial⟩ (S.kU 0 (zS p q) false (by simp[zS]; omega) (uq (Pn p q) _)) ?_
  conv=>whnf
  have h6:(zS p q).length<=6:=by simp[zS]; omega
  have hcl:=Nq (v:=0) (uq (Pn p q) p.states.length) h6
  refine ah.ab2 rfl rfl (Nat.lt_of_le_of_lt hcl (by decide)) (VD h6) ?_ (fun m=>?_)
  ·conv=>whnf
   exact ak.XK rfl
  ·conv=>whnf
   exact ak.aen rfl
theorem Gv{a b:List Int}{j:Nat}(h:j<a.length):(a++b).getD j 0=a.getD j 0:=by
 simp[List.getD_eq_getElem?_getD,List.getElem?_append_left h]
theorem Po{a:List Int}{n:Int}:(a++[n]).getD a.length 0=n:=by
 simp[List.getD_eq_getElem?_getD]
theorem Ur{N:List (List Int)}: ∀ {i:Nat} {c:List Int},c∈qG N i↔c.length=i/\ ∀ j,j<i->c.getD j 0∈N.getD j []:=by
 intro i
 induction i with
 |zero =>
  intro c
  simp only[qG,List.mem_singleton]
  constructor
  ·rintro rfl; exact⟨rfl,fun j hj=>by omega⟩
  ·rintro⟨h,_⟩; exact List.eq_nil_of_length_eq_zero h
 |succ i ih =>
  intro c
  simp only[qG,List.mem_flatMap,List.mem_map]
  constructor
  ·rintro⟨x,hx,n,hn,rfl⟩
   obtain⟨h1,h2⟩:=ih.1 hx
   refine⟨by rw[List.length_append,h1]; rfl,fun j hj=>?_⟩
   by_cases e:j=i
   ·subst e; rw[<- h1,Po,h1]; exact hn
   ·rw[Gv (by omega)]; exact h2 j (by omega)
  ·rintro⟨h1,h2⟩
   have hne:c≠[]:=by intro e; rw[e] at h1; cases h1
   have hc:c=c.dropLast++[c.getD i 0]:=by
    have e1:=(List.dropLast_concat_getLast hne).symm
    have e2:c.getLast hne=c.getD i 0:=by
     rw[List.getLast_eq_getElem,List.getD_eq_getElem?_getD,List.getElem?_eq_getElem (by omega),Option.getD_some]
     congr 1; omega
    rw[e2] at e1; exact e1
   have hl:c.dropLast.length=i:=by rw[List.length_dropLast]; omega
   refine⟨c.dropLast,ih.2 ⟨hl,fun j hj=>?_⟩,c.getD i 0,h2 i (by omega),hc.symm⟩
   have:=h2 j (by omega)
   rw[hc,Gv (by omega)] at this
   exact this
def zZ(c:List Int)(x:Nat):List Int:=bif c.getD x 0==2 then [2,3,4] else [c.getD x 0]
def iH(c:List Int):List (List Int):=(List.range c.length).map (zZ c)
theorem Pq(c:List Int)(i:Nat):(zZ c i).length<=3:=by
 unfold zZ; cases c.getD i 0==2<;>simp
theorem Lh{c:List Int}{j:Nat}(hj:j<c.length):(iH c).getD j []=zZ c j:=by
 unfold iH
 simp[List.getD_eq_getElem?_getD,hj]
theorem lZ(c:List Int):(iH c).length=c.length:=by simp[iH]
theorem vg{c:List Int}(_hc:Bj c){d:List Int}:d∈qG (iH c) c.length↔d.length=c.length/\ ∀ j,j<c.length->d.getD j 0∈zZ c j:=by
 rw[Ur]
 constructor
 ·rintro⟨h1,h2⟩; exact⟨h1,fun j hj=>by rw[<- Lh hj]; exact h2 j hj⟩
 ·rintro⟨h1,h2⟩; exact⟨h1,fun j hj=>by rw[Lh hj]; exact h2 j hj⟩
theorem vk{c:List Int}{j:Nat}{x:Int}(h:x∈zZ c j):x=c.getD j 0\/(c.getD j 0=2/\(x=3\/x=4)):=by
 unfold zZ at h
 cases hb:(c.getD j 0==2) with
 |true =>
  rw[hb] at h
  have h2:c.getD j 0=2:=by simpa using hb
  simp at h
  omega
 |false=>rw[hb] at h; simp at h; left; simpa using h
theorem acK{d:List Int}(h: ∀ j,j<d.length->0<=d.getD j 0/\d.getD j 0<=1048576):Bj d:=fun x hx=>by
 obtain⟨j,hj,e⟩:=List.mem_iff_getElem.1 hx
 have:=h j hj
 rw[List.getD_eq_getElem?_getD,List.getElem?_eq_getElem hj,Option.getD_some,e] at this
 exact this
theorem Nr{c d:List Int}(hc:Bj c)(h:d∈qG (iH c) c.length):Bj d:=by
 obtain⟨h1,h2⟩:=(vg hc).1 h
 refine acK fun j hj=>?_
 have a:=vk (h2 j (by omega))
 have b:=hc.get (show j<c.length by omega)
 omega
def zT(r:Rule)(e:Elem):Option Elem:=(dV r e).map jq
def lT(r:Rule)(l:List Elem):List Elem:=l.filterMap (zT r)
def iF(r:Rule)(a:Elem):List Elem:=ug (lT r (mV a.value (iH a.counts)))
theorem IV{r:Rule}{l:List Elem}{j:Nat}(hj:j<l.length):lT r (l.take (j+1))=lT r (l.take j)++(zT r (l.getD j default)).toList:=by
 unfold lT
 have ht:l.take (j+1)=l.take j++[l.getD j default]:=by rw[List.take_add_one]; simp[hj]
 rw[ht,List.filterMap_append]
 simp only[List.filterMap_cons,List.filterMap_nil]
 cases zT r (l.getD j default)<;>rfl
theorem Bl{r:Rule}{l:List Elem}:(lT r l).length<=l.length:=List.length_filterMap_le _ _
theorem FK{r:Rule}{l:List Elem}{x:Elem}(h:x∈lT r l): ∃ e∈l,∃ y,dV r e=some y/\x=jq y:=by
 obtain⟨e,he,h⟩:=List.mem_filterMap.1 h
 unfold zT at h
 obtain⟨y,hy,rfl⟩:=Option.map_eq_some_iff.1 h
 exact⟨e,he,y,hy,rfl⟩
theorem Ak{r:Rule}{l:List Elem}{n:Nat}(hl: ∀ e∈l,e.counts.length=n){x:Elem}(h:x∈lT r l):x.counts.length=n:=by
 obtain⟨e,he,y,hy,rfl⟩:=FK h
 show(mZ y.counts).length=n
 rw[mZ,List.length_map,Bo hy,hl e he]
set_option maxHeartbeats 1000000 in
theorem S.rJ(r:Rule)(a:Elem)(hr:xC r)(hp:rG a.counts.length r)(hc:Bj a.counts)(h0:0<a.counts.length)(hl:a.counts.length<=6):aj Tryz.prog 82 [.dat (.rule r),.dat (.elem a)] (.row 3 false (.elems (iF r a))):=by
 refine aj.of Bd.rJ (by simp) rfl rfl ?_
 conv=>whnf
 rw[Ph h0]
 conv=>whnf
 refine .mk (by omega) ?_
 conv=>whnf
 refine aK.aeo 5 4 4 (.agg [.int 2,.int 3,.int 4]) rfl rfl rfl rfl (by decide) ?_
 refine aK.wJ 15 [2,3,5,20,21] (fun i:Nat=>[(22,.int i),(6,.own 9)]) (fun i=>[(0,.box 71 19 (.dat (.rule r))),(1,.box 50 3 (.dat (.elem a))),(9,jS (IU (zZ a.counts) a.counts.length i))]) (fun i=>i<=a.counts.length) (fun i=>a.counts.length-i) 0 [0,1,9] rfl (by decide) (fun _=>rfl) (Nat.zero_le _) ?_ ?_ ?_
 ·exact⟨⟨_,rfl,.eq rfl⟩,⟨_,rfl,.eq rfl⟩,trivial⟩
 ·refine⟨okF rfl nofun rfl rfl rfl ⟨rfl,rfl⟩ rfl,okF rfl nofun rfl rfl rfl ⟨rfl,rfl⟩ rfl,okS rfl nofun rfl rfl rfl ⟨rfl,rfl⟩ (uJ ?_),trivial⟩
  rw[Lc]
  exact O9 a.counts.length
 conv=>whnf
 refine⟨⟨⟨_,rfl,.eq rfl⟩,⟨_,rfl,.eq rfl⟩,⟨_,rfl,.eq rfl⟩,⟨_,rfl,.eq rfl⟩,⟨_,rfl,.eq rfl⟩,trivial⟩,rfl,?_⟩
 rintro i hi
 have hSl:=Pm (f:=zZ a.counts) hi
 conv=>whnf
 refine⟨fun h1=>?_,fun h1=>?_⟩
 ·have hi':i<a.counts.length:=by simpa using h1
  have hstep:=Ld (f:=zZ a.counts) hi'
  conv=>whnf
  repeat(refine VC.mk (by simp only[Rw.rng,Int.toNat_natCast]; omega) ?_; conv=>whnf)
  refine⟨fun h2=>?_,fun h2=>?_⟩
  ·have hn:zZ a.counts i=[2,3,4]:=by rw[zZ,show(a.counts.getD i 0==2)=true from h2]; rfl
   rw[hn] at hstep
   conv=>whnf
   repeat(refine VC.mk (by first|(simp only[List.length_set,Rw.XJ,Rw.len,Int.toNat_natCast]; omega)|(simp only[okI] at *; first|omega|(simp_all; done)|(simp_all; omega))) ?_; conv=>whnf)
   refine⟨i+1,[0,1,9],by omega,by omega,⟨⟨_,rfl,.eq rfl⟩,⟨_,rfl,.eq rfl⟩,trivial⟩,⟨⟨_,rfl,.eq rfl⟩,⟨_,rfl,.eq rfl⟩,⟨_,rfl,.eq rfl⟩,⟨_,rfl,.eq rfl⟩,⟨_,rfl,.eq rfl⟩,trivial⟩,okF rfl nofun rfl rfl rfl ⟨rfl,rfl⟩ rfl,okF rfl nofun rfl rfl rfl ⟨rfl,rfl⟩ rfl,okS rfl nofun rfl rfl rfl ⟨rfl,rfl⟩ (uJ ?_),trivial⟩
   rw[<- hstep]
   exact Pg _ _ _ _
  ·have hn:zZ a.counts i=[a.counts.getD i 0]:=by rw[zZ,show(a.counts.getD i 0==2)=false from h2]; rfl
   rw[hn] at hstep
   conv=>whnf
   refine .mk (by simp only[okI] at *; first|omega|(simp_all; done)|(simp_all; omega)) ?_
   conv=>whnf
   refine⟨i+1,[0,1,9],by omega,by omega,⟨⟨_,rfl,.eq rfl⟩,⟨_,rfl,.eq rfl⟩,trivial⟩,⟨⟨_,rfl,.eq rfl⟩,⟨_,rfl,.eq rfl⟩,⟨_,rfl,.eq rfl⟩,⟨_,rfl,.eq rfl⟩,⟨_,rfl,.eq rfl⟩,trivial⟩,okF rfl nofun rfl rfl rfl ⟨rfl,rfl⟩ rfl,okF rfl nofun rfl rfl rfl ⟨rfl,rfl⟩ rfl,okS rfl nofun rfl rfl rfl ⟨rfl,rfl⟩ (uJ ?_),trivial⟩
   rw[<- hstep]
   exact Np _ _ _
 ·have hi':i=a.counts.length:=by
   have: ¬ i<a.counts.length:=by simpa using h1
   omega
  subst hi'
  rw[Pj]
  conv=>whnf
  have h6:(iH a.counts).length<=6:=by rw[lZ]; exact hl
  have hs3:=uq (Pq a.counts) a.counts.length
  have hcl:(mV a.value (iH a.counts)).length<=729:=Nq (v:=a.value) hs3 h6
  refine ah.XE (args':=[.int a.value,.row 0 false (.jr (iH a.counts))]) (h2:=[(0,some (.box 71 19 (.dat (.rule r)))),(1,some (.box 50 3 (.dat (.elem a))))]) (fun i=>i=9) ⟨mW (Z:=fun i=>i=9) rfl (by decide),mW (Z:=fun i=>i=9) rfl (by decide),trivial⟩ ⟨fG _,RJ rfl rfl,trivial⟩ (S.kU a.value (iH a.counts) false h6 hs3) ?_
  conv=>whnf
  refine aK.nil 9 50 3 (by rfl) rfl rfl rfl ?_
  refine aK.wJ 24 [2,42,43] (fun j:Nat=>[(44,.int j),(9,.own 23)]) (fun j=>[(0,.box 71 19 (.dat (.rule r))),(20,jL (mV a.value (iH a.counts))),(23,jL (lT r ((mV a.value (iH a.counts)).take j)))]) (fun j=>j<=(mV a.value (iH a.counts)).length) (fun j=>(mV a.value (iH a.counts)).length-j) 0 [0,20,23] rfl (by decide) (fun _=>rfl) (Nat.zero_le _) ?_ ?_ ?_
  ·exact⟨⟨_,rfl,.eq rfl⟩,⟨_,rfl,.eq rfl⟩,trivial⟩
  ·exact⟨okF rfl nofun rfl rfl rfl ⟨rfl,rfl⟩ rfl,okF rfl nofun rfl rfl rfl ⟨rfl,rfl⟩ rfl,okF rfl nofun rfl rfl rfl ⟨rfl,rfl⟩ rfl,trivial⟩
  conv=>whnf
  refine⟨⟨⟨_,rfl,.eq rfl⟩,⟨_,rfl,.eq rfl⟩,⟨_,rfl,.eq rfl⟩,trivial⟩,rfl,?_⟩
  rintro j hj
  have hkl:=Bl (r:=r) (l:=(mV a.value (iH a.counts)).take j)
  rw[List.length_take] at hkl
  conv=>whnf
  refine⟨fun h2=>?_,fun h2=>?_⟩
  ·have hj':j<(mV a.value (iH a.counts)).length:=by simpa using h2
   have hstep:=IV (r:=r) hj'
   have hmem:(mV a.value (iH a.counts)).getD j default∈mV a.value (iH a.counts):=kP hj'
   obtain⟨_,g1,g2,_⟩:=D5 hmem
   rw[lZ] at g1 g2
   conv=>whnf
   repeat(refine VC.mk (by simp only[Rw.rng] at *; first|omega|(simp_all; done)|(simp_all; omega)) ?_; conv=>whnf)
   refine ah.pure (aj.BZ (S.qg r ((mV a.value (iH a.counts)).getD j default) hr (by rw[g1]; exact hp) (Nr hc g2) (by omega))) rfl ?_
   conv=>whnf
   refine⟨fun h3=>?_,fun h3=>?_⟩
   ·obtain⟨x,hx⟩:=Option.isSome_iff_exists.1 h3
    replace hx:dV r ((mV a.value (iH a.counts)).getD j default)=some x:=hx
    have hxl:=Bo hx
    rw[zT,hx] at hstep
    rw[show dV r ((mV a.value (iH a.counts)).getD (j:Int).toNat default)=some x from hx]
    conv=>whnf
    refine ah.pure (S.jQ x (by rw[hxl]; omega) (by rw[hxl]; omega)) rfl ?_
    conv=>whnf
    repeat(refine VC.mk (by first|(show((lT r ((mV a.value (iH a.counts)).take j)).length+(0+1))*32<=140737488355328/\(lT r ((mV a.value (iH a.counts)).take j)).length+(0+1)<=1152921504606846976; omega)|(simp only[okI] at *; first|omega|(simp_all; done)|(simp_all; omega))) ?_; conv=>whnf)
    refine⟨j+1,[0,20,43],by omega,by omega,⟨⟨_,rfl,.eq rfl⟩,⟨_,rfl,.eq rfl⟩,trivial⟩,⟨⟨_,rfl,.eq rfl⟩,⟨_,rfl,.eq rfl⟩,⟨_,rfl,.eq rfl⟩,trivial⟩,okF rfl nofun rfl rfl rfl ⟨rfl,rfl⟩ rfl,okF rfl nofun rfl rfl rfl ⟨rfl,rfl⟩ rfl,okF rfl nofun rfl rfl rfl ⟨rfl,rfl⟩ ?_,trivial⟩
    rw[hstep]
    show List.map fH (lT r ((mV a.value (iH a.counts)).take j)++[jq x])++[]=List.map fH (lT r ((mV a.value (iH a.counts)).take j))++[fH (jq x)]
    simp
   ·replace h3:(dV r ((mV a.value (iH a.counts)).getD j default)).isSome=false:=h3
    rw[Option.isSome_eq_false_iff,Option.isNone_iff_eq_none] at h3
    rw[zT,h3] at hstep
    conv=>whnf
    refine .mk (by simp only[okI] at *; first|omega|(simp_all; done)|(simp_all; omega)) ?_
    conv=>whnf
    refine⟨j+1,[0,20,23],by omega,by omega,⟨⟨_,rfl,.eq rfl⟩,⟨_,rfl,.eq rfl⟩,trivial⟩,⟨⟨_,rfl,.eq rfl⟩,⟨_,rfl,.eq rfl⟩,⟨_,rfl,.eq rfl⟩,trivial⟩,okF rfl nofun rfl rfl rfl ⟨rfl,rfl⟩ rfl,okF rfl nofun rfl rfl rfl ⟨rfl,rfl⟩ rfl,okF rfl nofun rfl rfl rfl ⟨rfl,rfl⟩ (by rw[hstep]; simp),trivial⟩
  ·have hj':(mV a.value (iH a.counts)).length<=j:=by simpa using h2
   rw[List.take_of_length_le hj']
   conv=>whnf
   have hsm:kM (lT r (mV a.value (iH a.counts))):=fun x hx=>by
    rw[Ak (n:=a.counts.length) (fun e he=>by rw[(D5 he).2.1,lZ]) hx]; omega
   have hpl:=Bl (r:=r) (l:=mV a.value (iH a.counts))
   refine ah.ab2 rfl rfl (Nat.lt_of_le_of_lt hpl (Nat.lt_of_le_of_lt hcl (by decide))) hsm ?_ (fun m=>?_)
   ·conv=>whnf
    exact ak.XK rfl
   ·conv=>whnf
    exact ak.aen rfl
def allM(m:Nat):Nat->List (List Int)
 |0=>[[]]
 |n+1=>(List.range (m+1)).flatMap fun(k:Nat)=>(allM m n).map fun c=>(k:Int)::c
def jY(m n j:Nat):List (List Int):=(allM m (n-j)).map fun c=>List.replicate j 0++c
def wL(m n j k:Nat):List (List Int):=(List.range k).flatMap fun(k:Nat)=>(jY m n (j+1)).map fun c=>c.set j (k:Int)
theorem IW{m n j k:Nat}:wL m n j (k+1)=wL m n j k++(jY m n (j+1)).map fun c=>c.set j (k:Int):=by
 unfold wL
 rw[List.range_succ,List.flatMap_append]; simp
theorem IX{m:Nat}: ∀ {n:Nat},(allM m n).length=(m+1)^n:=by
 intro n
 induction n with
 |zero=>rfl
 |succ n ih =>
  unfold allM
  rw[List.length_flatMap]
  have:(List.range (m+1)).map (fun(a:Nat)=>((allM m n).map fun c=>(a:Int)::c).length)=List.replicate (m+1) ((m+1)^n):=by
   rw[List.eq_replicate_iff]
   refine⟨by simp,fun b hb=>?_⟩
   obtain⟨a,_,rfl⟩:=List.mem_map.1 hb
   rw[List.length_map,ih]
  rw[this,List.sum_replicate_nat,Nat.pow_succ,Nat.mul_comm]
theorem D6{m:Nat}: ∀ {n:Nat} {c:List Int},c∈allM m n↔c.length=n/\ ∀ x∈c,0<=x/\x<=m:=by
 intro n
 induction n with
 |zero =>
  intro c
  simp only[allM,List.mem_singleton]
  constructor
  ·rintro rfl; exact⟨rfl,fun x hx=>by cases hx⟩
  ·rintro⟨h,_⟩; exact List.eq_nil_of_length_eq_zero h
 |succ n ih =>
  intro c
  simp only[allM,List.mem_flatMap,List.mem_range,List.mem_map]
  constructor
  ·rintro⟨k,hk,d,hd,rfl⟩
   obtain⟨h1,h2⟩:=ih.1 hd
   refine⟨by rw[List.length_cons,h1],fun x hx=>?_⟩
   rcases List.mem_cons.1 hx with rfl|hx
   ·omega
   ·exact h2 x hx
  ·rintro⟨h1,h2⟩
   cases c with
   |nil=>cases h1
   |cons x d =>
    have hx:=h2 x (by simp)
    refine⟨x.toNat,by omega,d,ih.2 ⟨by simpa using h1,fun y hy=>h2 y (by simp[hy])⟩,?_⟩
    rw[Int.toNat_of_nonneg hx.1]
theorem Lj{m n j:Nat}(hn:n<=6)(hm:m<=3):(jY m n j).length<=4096:=by
 unfold jY
 rw[List.length_map,IX]
 have h1:(m+1)^(n-j)<=4^(n-j):=Nat.pow_le_pow_left (by omega) _
 have h2:4^(n-j)<=4^6:=Nat.pow_le_pow_right (by decide) (by omega)
 have h3:4^6=4096:=by decide
 omega
theorem VE{m n j k:Nat}(hn:n<=6)(hm:m<=3):(wL m n j k).length<=k*4096:=by
 induction k with
 |zero=>simp[wL]
 |succ k ih =>
  rw[IW,List.length_append,List.length_map,Nat.succ_mul]
  have:=@Lj m n (j+1) hn hm
  omega
theorem aaq{j:Nat}{k:Int}{c:List Int}:(List.replicate (j+1) (0:Int)++c).set j k=List.replicate j 0++(k::c):=by
 rw[List.replicate_succ',List.append_assoc,List.set_append_right _ _ (by simp)]
 simp
theorem RP{m n j:Nat}(hj:j<n):wL m n j (m+1)=jY m n j:=by
 have e:n-j=(n-(j+1))+1:=by omega
 unfold wL jY
 rw[e,allM,List.map_flatMap]
 refine congrArg List.flatten (List.map_congr_left fun k _=>?_)
 rw[List.map_map,List.map_map]
 exact List.map_congr_left fun c _=>aaq
theorem VF{m n:Nat}:jY m n 0=allM m n:=by simp[jY]
theorem VG{m n j:Nat}(hj:j<=n){c:List Int}(h:c∈jY m n j):c.length=n:=by
 obtain⟨d,hd,rfl⟩:=List.mem_map.1 h
 have:=(D6.1 hd).1
 rw[List.length_append,List.length_replicate,this]; omega
set_option maxHeartbeats 1000000 in
theorem S.XL(m n:Nat)(hn0:0<n)(hn6:n<=6)(hm3:m<=3):aj Tryz.prog 74 [.int n,.int m] (.row 0 false (.jr (allM m n))):=by
 refine aj.of Bd.D7 (by simp) rfl rfl ?_
 conv=>whnf
 have hmk:=DV (n:=n) hn0
 rw[hmk]
 conv=>whnf
 repeat(refine VC.mk (by first|(omega)|(simp only[okI] at *; first|omega|(simp_all; done)|(simp_all; omega))) ?_; conv=>whnf)
 refine aK.Un 1 [0,1] (fun j:Nat=>[(6,.int ((j:Int)-1)),(5,.own 0)]) (fun j=>[(0,jS (jY m n j))]) (fun j=>j<=n) (fun j=>j) n [3] [(3,some (jS ([]++[List.replicate n 0])))] rfl (by decide) (fun _=>rfl) (Nat.le_refl _) ?_ ?_ ?_ ?_
 ·exact⟨⟨_,rfl,.eq rfl⟩,⟨_,rfl,.eq rfl⟩,trivial⟩
 ·exact⟨fun i=>i=2,FH (Z:=fun i=>i=2) (i:=3) (j:=2) rfl rfl (by decide) rfl rfl,trivial⟩
 ·exact⟨okF rfl nofun rfl rfl rfl ⟨rfl,rfl⟩ (by simp[jY,allM]),trivial⟩
 conv=>whnf
 refine⟨⟨⟨_,rfl,.eq rfl⟩,⟨_,rfl,.eq rfl⟩,trivial⟩,rfl,?_⟩
 rintro j hj
 conv=>whnf
 refine⟨fun h3=>?_,fun h3=>?_⟩
 ·obtain⟨j,rfl⟩: ∃ i,j=i+1:=⟨j-1,by have:=of_decide_eq_true h3; omega⟩
  have ej:(((j+1:Nat):Int)-1)=(j:Int):=by omega
  rw[ej]
  conv=>whnf
  refine aK.nil 7 24 0 (by rfl) rfl rfl rfl ?_
  refine aK.objs 2 [0,1,5,6] (fun k:Nat=>[(8,.int k),(7,.own 1)]) (fun k=>[(0,jS (jY m n (j+1))),(1,jS (wL m n j k))]) (fun k=>k<=m+1) (fun k=>m+1-k) 0 [0,5] rfl (by decide) (fun _=>rfl) (Nat.zero_le _) ?_ ?_ ?_
  ·exact⟨⟨_,rfl,.eq rfl⟩,⟨_,rfl,.eq rfl⟩,trivial⟩
  ·exact⟨⟨rfl,nofun,rfl,rfl,rfl,_,rfl,rfl,rfl,fM.of_eq rfl⟩,⟨rfl,nofun,rfl,rfl,rfl,_,rfl,rfl,rfl,fM.of_eq rfl⟩,trivial⟩
  conv=>whnf
  refine⟨⟨⟨_,rfl,.eq rfl⟩,⟨_,rfl,.eq rfl⟩,⟨_,rfl,.eq rfl⟩,⟨_,rfl,.eq rfl⟩,trivial⟩,rfl,?_⟩
  rintro k hk
  have hkl:=@VE m n j k hn6 hm3
  have hol:=@Lj m n (j+1) hn6 hm3
  conv=>whnf
  refine⟨fun h4=>?_,fun h4=>?_⟩
  ·have hk3:k<=m:=by have:=of_decide_eq_true h4; omega
   conv=>whnf
   refine aK.Un 2 [0,1,5,6,8] (fun i:Nat=>[(9,.int i),(7,.own 1)]) (fun i=>[(0,jS (jY m n (j+1))),(1,jS (wL m n j k++((jY m n (j+1)).take i).map fun c=>c.set j (k:Int)))]) (fun i=>i<=(jY m n (j+1)).length) (fun i=>(jY m n (j+1)).length-i) 0 [0,1] [(0,some (jS (jY m n (j+1)))),(1,some (jS (wL m n j k)))] rfl (by decide) (fun _=>rfl) (Nat.zero_le _) ?_ ?_ ?_ ?_
   ·exact⟨⟨_,rfl,.eq rfl⟩,⟨_,rfl,.eq rfl⟩,trivial⟩
   ·exact⟨fun _=>False,mW (Z:=fun _=>False) rfl (fun q=>q),mW (Z:=fun _=>False) rfl (fun q=>q),trivial⟩
   ·exact⟨okF rfl nofun rfl rfl rfl ⟨rfl,rfl⟩ rfl,okF rfl nofun rfl rfl rfl ⟨rfl,rfl⟩ (by simp),trivial⟩
   conv=>whnf
   refine⟨⟨⟨_,rfl,.eq rfl⟩,⟨_,rfl,.eq rfl⟩,⟨_,rfl,.eq rfl⟩,⟨_,rfl,.eq rfl⟩,⟨_,rfl,.eq rfl⟩,trivial⟩,rfl,?_⟩
   rintro i hi
   have hal:(wL m n j k++((jY m n (j+1)).take i).map fun c=>c.set j (k:Int)).length<=6*4096:=by
    rw[List.length_append,List.length_map,List.length_take]; omega
   conv=>whnf
   refine⟨fun h5=>?_,fun h5=>?_⟩
   ·have hi':i<(jY m n (j+1)).length:=by simpa using h5
    have hcl:((jY m n (j+1)).getD i []).length=n:=VG hj (kP hi')
    conv=>whnf
    repeat(refine VC.mk (by first|(first|(simp only[oG,oO,Rw.len,Int.toNat_natCast,hcl]; omega)|(simp only[Rw.rng,Int.toNat_natCast,hcl]; omega)|(show((wL m n j k++((jY m n (j+1)).take i).map fun c=>c.set j (k:Int)).length+(0+1))*24<=140737488355328/\(wL m n j k++((jY m n (j+1)).take i).map fun c=>c.set j (k:Int)).length+(0+1)<=1152921504606846976; omega))|(simp only[okI] at *; first|omega|(simp_all; done)|(simp_all; omega))) ?_; conv=>whnf)
    refine⟨[(0,some (jS (jY m n (j+1)))),(21,some (jS ((wL m n j k++((jY m n (j+1)).take i).map fun c=>c.set j (k:Int))++[((jY m n (j+1)).getD i []).set j (k:Int)])))],i+1,[0,21],⟨fun i=>i=11,mW (Z:=fun i=>i=11) (i:=0) rfl (by decide),FH (Z:=fun i=>i=11) (i:=21) (j:=11) rfl rfl (by decide) rfl rfl,trivial⟩,by omega,by omega,⟨⟨_,rfl,.eq rfl⟩,⟨_,rfl,.eq rfl⟩,trivial⟩,⟨⟨_,rfl,.eq rfl⟩,⟨_,rfl,.eq rfl⟩,⟨_,rfl,.eq rfl⟩,⟨_,rfl,.eq rfl⟩,⟨_,rfl,.eq rfl⟩,trivial⟩,okF rfl nofun rfl rfl rfl ⟨rfl,rfl⟩ rfl,okF rfl nofun rfl rfl rfl ⟨rfl,rfl⟩ ?_,trivial⟩
    have ht:(jY m n (j+1)).take (i+1)=(jY m n (j+1)).take i++[(jY m n (j+1)).getD i []]:=by rw[List.take_add_one]; simp[hi']
    rw[ht,List.map_append,<- List.append_assoc]; rfl
   ·have hi':i=(jY m n (j+1)).length:=by
     have: ¬ ((i:Int)<((jY m n (j+1)).length:Int)):=of_decide_eq_false h5
     omega
    subst hi'
    rw[List.take_length,<- IW]
    conv=>whnf
    refine .mk (by first|(simp only[okI]; omega)|omega) ?_
    conv=>whnf
    refine⟨k+1,[0,1],by omega,by omega,⟨⟨_,rfl,.eq rfl⟩,⟨_,rfl,.eq rfl⟩,trivial⟩,⟨⟨_,rfl,.eq rfl⟩,⟨_,rfl,.eq rfl⟩,⟨_,rfl,.eq rfl⟩,⟨_,rfl,.eq rfl⟩,trivial⟩,⟨rfl,nofun,rfl,rfl,rfl,_,rfl,rfl,rfl,fM.of_eq rfl⟩,⟨rfl,nofun,rfl,rfl,rfl,_,rfl,rfl,rfl,fM.of_eq rfl⟩,trivial⟩
  ·have hk4:k=m+1:=by have:=of_decide_eq_false h4; omega
   subst hk4
   rw[RP (by omega)]
   conv=>whnf
   refine .mk (by first|(simp only[okI]; omega)|omega) ?_
   conv=>whnf
   refine⟨[(1,some (jS (jY m n j)))],j,[1],⟨fun _=>False,mW (Z:=fun _=>False) rfl (fun q=>q),trivial⟩,by omega,by omega,⟨⟨_,rfl,.eq rfl⟩,⟨_,rfl,.eq rfl⟩,trivial⟩,⟨⟨_,rfl,.eq rfl⟩,⟨_,rfl,.eq rfl⟩,trivial⟩,okF rfl nofun rfl rfl rfl ⟨rfl,rfl⟩ rfl,trivial⟩
 ·have hj0:j=0:=by have:=of_decide_eq_false h3; omega
  subst hj0
  rw[VF]
  conv=>whnf
  exact ak.aem rfl
theorem S.CY(l:List Int)(s:Int)(f:Bool)(hl:l.length<2^40):aj Tryz.prog 126 [.row 0 f (.ints l),.int s] (.bool (y7 l s)):=by
 refine aj.of Bd.CY (by simp) rfl rfl ?_
 conv=>whnf
 refine aK.same [0,1] (fun i:Nat=>[(5,.int i)]) (fun i=>i<=l.length/\(l.take i).any (fun x=>s==x)=false) (fun i=>l.length-i) 0 rfl (by decide) rfl (fun _=>rfl) ⟨by omega,by simp⟩ ⟨⟨_,rfl,rfl⟩,trivial⟩ ?_
 conv=>whnf
 refine⟨rfl,?_⟩
 rintro i ⟨hi,hall⟩
 conv=>whnf
 refine⟨fun h3=>?_,fun h3=>?_⟩
 ·have hi':i<l.length:=by simpa using h3
  conv=>whnf
  refine .mk (by simp only[Rw.rng] at *; first|omega|(simp_all; done)|(simp_all; omega)) ?_
  conv=>whnf
  refine⟨fun h4=>?_,fun h4=>?_⟩
  ·have h4':(s==l.getD i 0)=true:=by rw[show(s==l.getD i 0)=(l.getD i 0==s) from Bool.beq_comm]; exact h4
   conv=>whnf
   exact ak.bool (iZ (d:=0) hi' h4')
  ·have h4':(s==l.getD i 0)=false:=by rw[show(s==l.getD i 0)=(l.getD i 0==s) from Bool.beq_comm]; exact h4
   conv=>whnf
   refine .mk (by simp only[okI] at *; first|omega|(simp_all; done)|(simp_all; omega)) ?_
   conv=>whnf
   refine⟨i+1,⟨by omega,?_⟩,by omega,⟨⟨_,rfl,rfl⟩,trivial⟩,?_,rfl⟩
   ·rw[kT (d:=0) hi' hall]; exact h4'
   ·repeat' (first|exact trivial|exact⟨_,rfl,rfl⟩|constructor)
 ·have hi':l.length<=i:=by simpa using h3
  rw[List.take_of_length_le hi'] at hall
  conv=>whnf
  exact ak.bool hall
theorem S.pI(l c:List Int)(f g:Bool)(hl:l.length<2^40)(hc:c.length<2^40):aj Tryz.prog 86 [.row 0 f (.ints l),.row 0 g (.ints c)] (.bool (!(D8 c l))):=by
 refine aj.of Bd.pI (by simp) rfl rfl ?_
 conv=>whnf
 refine aK.same [0,1] (fun i:Nat=>[(5,.int i)]) (fun i=>i<=c.length/\(List.range i).any (fun i=>decide (c.getD i 0>0)&& !(y7 l i))=false) (fun i=>c.length-i) 0 rfl (by decide) rfl (fun _=>rfl) ⟨by omega,by simp⟩ ⟨⟨_,rfl,rfl⟩,trivial⟩ ?_
 conv=>whnf
 refine⟨rfl,?_⟩
 rintro i ⟨hi,hall⟩
 conv=>whnf
 refine⟨fun h3=>?_,fun h3=>?_⟩
 ·have hi':i<c.length:=by simpa using h3
  conv=>whnf
  repeat(refine VC.mk (by first|exact fun h=>⟨h,h⟩|(simp only[Rw.rng] at *; first|omega|(simp_all; done)|(simp_all; omega))) ?_; conv=>whnf)
  refine ah.fD (fun _=>S.CY l i f hl) rfl ?_
  conv=>whnf
  repeat(refine VC.mk id ?_; conv=>whnf)
  refine⟨fun h4=>?_,fun h4=>?_⟩
  ·conv=>whnf
   exact ak.bool (by rw[show D8 c l=true from qh.2 ⟨i,hi',h4⟩]; rfl)
  ·conv=>whnf
   refine .mk (by simp only[okI] at *; first|omega|(simp_all; done)|(simp_all; omega)) ?_
   conv=>whnf
   refine⟨i+1,⟨by omega,?_⟩,by omega,⟨⟨_,rfl,rfl⟩,trivial⟩,?_,rfl⟩
   ·rw[List.range_succ,List.any_append,hall]
    simp only[List.any_cons,List.any_nil,Bool.or_false,Bool.false_or]; exact h4
   ·repeat' (first|exact trivial|exact⟨_,rfl,rfl⟩|constructor)
 ·have hi':c.length<=i:=by simpa using h3
  have e:i=c.length:=Nat.le_antisymm hi hi'
  subst e
  conv=>whnf
  exact ak.bool (by rw[show D8 c l=false from hall]; rfl)
def VH(p:aN)(q:Prop')(c:List Int):Bool:=decide (0<oN ⟨0,c⟩)&& !(D8 c (ng p q))
def initK(p:aN)(q:Prop')(l:List (List Int)):List Elem:=(l.filter (VH p q)).map fun c=>(⟨0,c⟩:Elem)
def xX(p:aN)(q:Prop'):List Elem:=initK p q (allM 2 p.states.length)
theorem RQ{p:aN}{q:Prop'}{l:List (List Int)}{a:Nat}(ha:a<l.length):initK p q (l.take (a+1))=initK p q (l.take a)++(if VH p q (l.getD a [])=true then [⟨0,l.getD a []⟩] else []):=by
 unfold initK
 have ht:l.take (a+1)=l.take a++[l.getD a []]:=by rw[List.take_add_one]; simp[ha]
 rw[ht,List.filter_append,List.map_append]
 by_cases h:VH p q (l.getD a [])=true
 ·rw[if_pos h]; simp only[List.filter_cons,h,if_true,List.filter_nil,List.map_cons,List.map_nil]
 ·rw[if_neg h]; simp only[List.filter_cons,h,Bool.false_eq_true,if_false,List.filter_nil,List.map_nil]
theorem Ll{p:aN}{q:Prop'}{l:List (List Int)}:(initK p q l).length<=l.length:=by
 unfold initK; rw[List.length_map]; exact List.length_filter_le _ _
set_option maxHeartbeats 1000000 in
theorem S.nN(p:aN)(q:Prop')(hp:dH p)(hq:qM q)(hv:jO p q=0):aj Tryz.prog 76 [.dat (.iY p),.dat (.prop q)] (.row 3 false (.elems (xX p q))):=by
 have hst:=(yY (y8 hv)).states
 have hpos:=(yY (y8 hv)).pos
 have hsl:=Le hp hq
 refine aj.of Bd.nN (by simp) rfl rfl ?_
 conv=>whnf
 refine ah.pure (S.pJ p q hp hq hv) rfl ?_
 conv=>whnf
 refine ah.pure (S.XL 2 p.states.length hpos hst (by decide)) rfl ?_
 conv=>whnf
 have hal:=IX (m:=2) (n:=p.states.length)
 have hal2:(2+1)^p.states.length<=3^6:=Nat.pow_le_pow_right (by decide) hst
 have h36:3^6=729:=by decide
 refine aK.nil 8 50 3 (by rfl) rfl rfl rfl ?_
 refine aK.wJ 19 [5,7] (fun i:Nat=>[(9,.int i),(8,.own 18)]) (fun i=>[(18,jL (initK p q ((allM 2 p.states.length).take i)))]) (fun i=>i<=(allM 2 p.states.length).length) (fun i=>(allM 2 p.states.length).length-i) 0 [18] rfl (by decide) (fun _=>rfl) (Nat.zero_le _) ?_ ?_ ?_
 ·exact⟨⟨_,rfl,.eq rfl⟩,⟨_,rfl,.eq rfl⟩,trivial⟩
 ·exact⟨okF rfl nofun rfl rfl rfl ⟨rfl,rfl⟩ rfl,trivial⟩
 conv=>whnf
 refine⟨⟨⟨_,rfl,.eq rfl⟩,⟨_,rfl,.eq rfl⟩,trivial⟩,rfl,?_⟩
 rintro i hi
 have hkl:=Ll (p:=p) (q:=q) (l:=(allM 2 p.states.length).take i)
 rw[List.length_take] at hkl
 conv=>whnf
 refine⟨fun h1=>?_,fun h1=>?_⟩
 ·have hi':i<(allM 2 p.states.length).length:=by simpa using h1
  have hcl:((allM 2 p.states.length).getD i []).length=p.states.length:=(D6.1 (kP hi')).1
  have hstep:=RQ (p:=p) (q:=q) hi'
  conv=>whnf
  refine .mk (by simp only[Rw.rng] at *; first|omega|(simp_all; done)|(simp_all; omega)) ?_
  conv=>whnf
  refine ah.pure (S.nZ ⟨0,(allM 2 p.states.length).getD i []⟩ (by show((allM 2 p.states.length).getD i []).length<_; omega)) rfl ?_
  conv=>whnf
  repeat(refine VC.mk (by first|exact id|exact fun h=>⟨h,h⟩|(intro h; (repeat' apply And.intro)<;>first|exact h|omega|(simp only[Rw.oK]; omega)|(simp only[Rw.rng]; omega))) ?_; conv=>whnf)
  refine ah.fD (fun _=>S.pI (ng p q) ((allM 2 p.states.length).getD i []) false false (by omega) (by omega)) rfl ?_
  conv=>whnf
  refine VC.mk id ?_
  conv=>whnf
  refine⟨fun h2=>?_,fun h2=>?_⟩
  ·replace h2:VH p q ((allM 2 p.states.length).getD i [])=true:=h2
   rw[if_pos h2] at hstep
   conv=>whnf
   refine ah.pure (S.oQ ⟨0,(allM 2 p.states.length).getD i []⟩ (by show((allM 2 p.states.length).getD i []).length<_; omega)) rfl ?_
   conv=>whnf
   repeat(refine VC.mk (by first|(show((initK p q ((allM 2 p.states.length).take i)).length+(0+1))*32<=140737488355328/\(initK p q ((allM 2 p.states.length).take i)).length+(0+1)<=1152921504606846976; omega)|(simp only[okI] at *; first|omega|(simp_all; done)|(simp_all; omega))) ?_; conv=>whnf)
   refine⟨i+1,[45],by omega,by omega,⟨⟨_,rfl,.eq rfl⟩,⟨_,rfl,.eq rfl⟩,trivial⟩,⟨⟨_,rfl,.eq rfl⟩,⟨_,rfl,.eq rfl⟩,trivial⟩,okF rfl nofun rfl rfl rfl ⟨rfl,rfl⟩ ?_,trivial⟩
   rw[hstep]
   show List.map fH (initK p q ((allM 2 p.states.length).take i)++[⟨0,(allM 2 p.states.length).getD i []⟩])++[]=List.map fH (initK p q ((allM 2 p.states.length).take i))++[fH ⟨0,(allM 2 p.states.length).getD i []⟩]
   simp
  ·replace h2:VH p q ((allM 2 p.states.length).getD i [])=false:=h2
   rw[if_neg (by rw[h2]; decide),List.append_nil] at hstep
   conv=>whnf
   refine .mk (by simp only[okI] at *; first|omega|(simp_all; done)|(simp_all; omega)) ?_
   conv=>whnf
   refine⟨i+1,[18],by omega,by omega,⟨⟨_,rfl,.eq rfl⟩,⟨_,rfl,.eq rfl⟩,trivial⟩,⟨⟨_,rfl,.eq rfl⟩,⟨_,rfl,.eq rfl⟩,trivial⟩,okF rfl nofun rfl rfl rfl ⟨rfl,rfl⟩ (by rw[hstep]),trivial⟩
 ·have hi':(allM 2 p.states.length).length<=i:=by simpa using h1
  rw[List.take_of_length_le hi']
  conv=>whnf
  exact ak.XK rfl
theorem D9{x y:Int}{a b:List Int}(h:x<y\/(x=y/\cmpL a b<0)):cmpL (x::a) (y::b)<0:=by
 rw[cmpL]
 rcases h with h|⟨rfl,h⟩
 ·rw[if_pos h]; decide
 ·rw[if_neg (Int.lt_irrefl _),if_neg (Int.lt_irrefl _)]; exact h
theorem VI{R:List Int->List Int->Prop}{f:Nat->List (List Int)}: ∀ {n:Nat},(∀ k,k<n->(f k).Pairwise R)->(∀ j k,j<k->k<n-> ∀ a∈f j,∀ b∈f k,R a b)->((List.range n).flatMap f).Pairwise R:=by
 intro n
 induction n with
 |zero=>intro _ _; exact List.Pairwise.nil
 |succ n ih =>
  intro h1 h2
  rw[List.range_succ,List.flatMap_append,List.pairwise_append]
  refine⟨ih (fun k hk=>h1 k (by omega)) (fun j k a b=>h2 j k a (by omega)),by simpa using h1 n (by omega),fun a ha b hb=>?_⟩
  obtain⟨j,hj,ha⟩:=List.mem_flatMap.1 ha
  have hb':b∈f n:=by simpa using hb
  exact h2 j n (List.mem_range.1 hj) (by omega) a ha b hb'
theorem Pv{m:Nat}: ∀ {n:Nat},(allM m n).Pairwise fun a b=>cmpL a b<0:=by
 intro n
 induction n with
 |zero=>exact List.pairwise_singleton _ _
 |succ n ih =>
  unfold allM
  refine VI (fun k _=>?_) (fun j k hjk _ a ha b hb=>?_)
  ·rw[List.pairwise_map]
   exact ih.imp fun h=>D9 (.inr ⟨rfl,h⟩)
  ·obtain⟨c,_,rfl⟩:=List.mem_map.1 ha
   obtain⟨d,_,rfl⟩:=List.mem_map.1 hb
   exact D9 (.inl (by omega))
theorem XM(p:aN)(q:Prop'):SS (xX p q):=by
 unfold SS xX initK
 rw[List.pairwise_map]
 refine(Pv.filter _).imp fun h=>?_
 unfold jh
 rw[if_neg (Int.lt_irrefl _),if_neg (Int.lt_irrefl _)]; exact h
theorem acL{c l:List Int}:D8 c l=false↔ ∀ i,i<c.length->0<c.getD i 0->y7 l i=true:=by
 constructor
 ·intro h i hi hp
  cases hb:y7 l i with
  |true=>rfl
  |false =>
   have:D8 c l=true:=qh.2 ⟨i,hi,by rw[hb]; simpa using hp⟩
   rw[this] at h; cases h
 ·intro h
  cases hb:D8 c l with
  |false=>rfl
  |true =>
   obtain⟨i,hi,h2⟩:=qh.1 hb
   simp at h2
   rw[h i hi (by simpa using h2.1)] at h2; cases h2.2
theorem Lm{p:aN}{q:Prop'}{j:Nat}(hj:j<p.states.length):(zS p q).getD j []=CX p q j:=by
 unfold zS; simp[List.getD_eq_getElem?_getD,hj]
theorem acM(p:aN)(q:Prop'):fiE p q=xX p q:=by
 refine Lp (Px _) (XM p q) fun x=>?_
 rw[fiE,rM]
 have hN:(zS p q).length=p.states.length:=by simp[zS]
 have key: ∀ c:List Int,c∈qG (zS p q) (zS p q).length↔(c∈allM 2 p.states.length/\D8 c (ng p q)=false):=by
  intro c
  rw[Ur,hN,D6,acL]
  constructor
  ·rintro⟨h1,h2⟩
   have h3: ∀ j,j<p.states.length->c.getD j 0∈CX p q j:=fun j hj=>by rw[<- Lm hj]; exact h2 j hj
   refine⟨⟨h1,fun x hx=>?_⟩,fun i hi hp=>?_⟩
   ·obtain⟨j,hj,e⟩:=List.mem_iff_getElem.1 hx
    have:=h3 j (by omega)
    rw[List.getD_eq_getElem?_getD,List.getElem?_eq_getElem hj,Option.getD_some,e] at this
    unfold CX at this
    cases hb:y7 (ng p q) j<;>rw[hb] at this<;>simp at this<;>omega
   ·have:=h3 i (by omega)
    unfold CX at this
    cases hb:y7 (ng p q) i with
    |true=>rfl
    |false=>rw[hb] at this; simp at this; rw[List.getD_eq_getElem?_getD] at hp; omega
  ·rintro⟨⟨h1,h2⟩,h3⟩
   refine⟨h1,fun j hj=>?_⟩
   rw[Lm hj]
   have hm:c.getD j 0∈c:=by
    rw[List.getD_eq_getElem?_getD,List.getElem?_eq_getElem (by omega)]; exact List.getElem_mem _
   have hr:=h2 _ hm
   have hs:=h3 j (by omega)
   unfold CX
   cases hb:y7 (ng p q) j with
   |true=>simp only[cond_true,List.mem_cons,List.not_mem_nil,or_false]; omega
   |false =>
    simp only[cond_false,List.mem_singleton]
    by_cases h0:0<c.getD j 0
    ·rw[hs h0] at hb; cases hb
    ·omega
 unfold mV DX xX initK VH
 simp only[List.mem_filter,List.mem_map,Bool.and_eq_true,decide_eq_true_eq,Bool.not_eq_true']
 constructor
 ·rintro⟨⟨c,hc,rfl⟩,ht⟩
  have:=(key c).1 hc
  exact⟨c,⟨this.1,ht,this.2⟩,rfl⟩
 ·rintro⟨c,⟨h1,h2,h3⟩,rfl⟩
  exact⟨⟨c,(key c).2 ⟨h1,h3⟩,rfl⟩,h2⟩
theorem IY{p:aN}{q:Prop'}(h:wE p q=0):jO p q=0:=by
 unfold wE at h
 by_cases h0:jO p q=0
 ·exact h0
 ·rw[show(jO p q !=0)=true by simpa using h0] at h; exact absurd h h0
theorem acN{p:aN}{q:Prop'}(h:wE p q=0):zX p=0:=by
 have h0:=IY h
 unfold wE at h
 rw[h0] at h; exact h
theorem S.mg(p:aN)(q:Prop')(hp:dH p)(hq:qM q):aj Tryz.prog 26 [.dat (.iY p),.dat (.prop q)] (.fV [.row 3 false (.elems (bif wE p q==0 then xX p q else [])),.int (wE p q)]):=by
 refine aj.of Bd.mg (by simp) rfl rfl ?_
 conv=>whnf
 refine ah.pure (S.pz p q hp hq) rfl ?_
 conv=>whnf
 refine⟨fun h1=>?_,fun h1=>?_⟩
 ·conv=>whnf
  rw[show(wE p q==0)=false by simpa using h1]
  exact ak.Py
 ·have h0:wE p q=0:=by simpa using h1
  conv=>whnf
  refine ah.pure (S.lY p q hp hq (IY h0)) rfl ?_
  rw[h0,acM]
  conv=>whnf
  exact ak.eqv rfl
theorem S.nO(p:aN)(q:Prop')(hp:dH p)(hq:qM q):aj Tryz.prog 27 [.dat (.iY p),.dat (.prop q)] (.fV [.row 3 false (.elems (bif wE p q==0 then xX p q else [])),.int (wE p q)]):=by
 refine aj.of Bd.nO (by simp) rfl rfl ?_
 conv=>whnf
 refine ah.pure (S.rF p q hp hq) rfl ?_
 conv=>whnf
 refine⟨fun h1=>?_,fun h1=>?_⟩
 ·conv=>whnf
  rw[show(wE p q==0)=false by simpa using h1]
  exact ak.Py
 ·have h0:wE p q=0:=by simpa using h1
  conv=>whnf
  refine ah.pure (S.nN p q hp hq (IY h0)) rfl ?_
  rw[h0]
  conv=>whnf
  exact ak.eqv rfl
theorem afE{Z:Nat->Prop}{h:Hz}{j:Nat}{v:Int}{l:List Int}(hz:Z j)(q:h.get j=some (xR l)):T.sub Z h.aA (fH ⟨v,l⟩) (.agg [.int v,.own j]):=by
 have:=IK hz q
 show T.sub Z h.aA (.agg [.int v,.sl 0 false (l.map T.int)]) (.agg [.int v,.own j])
 replace this:T.sub Z h.aA (.sl 0 false (l.map T.int)) (.own j):=this
 simp only[T.sub] at this
 simp only[T.sub,T.dJ]
 exact⟨trivial,this,trivial⟩
theorem XO{Z:Nat->Prop}{h:Hz}{i j:Nat}{l:List Elem}{e:Elem}(q:h.get i=some (.row 50 3 (.elems l) [.agg [.int e.value,.own j]]))(hi: ¬ Z i)(hz:Z j)(qj:h.get j=some (xR e.counts)) :
  ∃ o',h.get i=some o'/\ ¬ Z i/\o'.aG.ty=(jL (l++[e])).aG.ty/\o'.aG.k=(jL (l++[e])).aG.k/\T.dJ Z h.aA (jL (l++[e])).aG.l o'.aG.l/\(jL (l++[e])).aG.l.map T.kd=o'.aG.l.map T.kd/\(jL (l++[e])).aG.l.map gB=o'.aG.l.map gB:=by
 have e1:(jL (l++[e])).aG.l=l.map fH++[fH e]:=by simp[OV.aG,Rw.bg,V.bg]
 refine⟨_,q,hi,rfl,rfl,?_,?_,?_⟩
 ·rw[e1]
  exact Aj (dP _) ⟨afE hz qj,trivial⟩
 ·rw[e1]; show _=List.map T.kd (l.map fH++[.agg [.int e.value,.own j]])
  rw[List.map_append,List.map_append]; rfl
 ·rw[e1]; show _=List.map gB (l.map fH++[.agg [.int e.value,.own j]])
  rw[List.map_append,List.map_append]; rfl
def dR(c:List Int):Nat->List (List Int)
 |0=>[c]
 |x+1=>if c.getD x 0<2 then dR c x else dR c x++(dR c x).flatMap fun d=>[d.set x 3,d.set x 4]
def FM(c:List Int)(x i:Nat):List (List Int):=dR c x++((dR c x).take i).flatMap fun d=>[d.set x 3,d.set x 4]
def Am(c:List Int)(x i b:Nat):List (List Int):=FM c x i++((List.range b).map fun(k:Nat)=>((dR c x).getD i []).set x (3+(k:Int)))
def gU(a:Elem)(l:List (List Int)):List Elem:=l.map fun d=>(⟨a.value,d⟩:Elem)
theorem VJ{c:List Int}{x i:Nat}(hi:i<(dR c x).length):FM c x (i+1)=Am c x i 2:=by
 unfold FM Am FM
 have ht:(dR c x).take (i+1)=(dR c x).take i++[(dR c x).getD i []]:=by rw[List.take_add_one]; simp[hi]
 rw[ht,List.flatMap_append,<- List.append_assoc]; rfl
theorem XP{c:List Int}{x:Nat}(h: ¬ c.getD x 0<2):FM c x (dR c x).length=dR c (x+1):=by
 unfold FM; rw[List.take_length,dR,if_neg h]
theorem VK{c:List Int}{x i b:Nat}:Am c x i (b+1)=Am c x i b++[((dR c x).getD i []).set x (3+(b:Int))]:=by
 unfold Am
 rw[List.range_succ,List.map_append,<- List.append_assoc]; rfl
theorem Pz{c:List Int}: ∀ {x:Nat},(dR c x).length<=3^x:=by
 intro x
 induction x with
 |zero=>exact Nat.le_refl _
 |succ x ih =>
  rw[dR]
  split
  ·rw[Nat.pow_succ]; omega
  ·have:=IL (l:=dR c x) (f:=fun d=>[d.set x 3,d.set x 4]) (k:=2) (fun _ _=>Nat.le_refl _)
   rw[List.length_append,Nat.pow_succ]; omega
theorem PD{c:List Int}: ∀ {x:Nat} {d:List Int},x<=c.length->(d∈dR c x↔d.length=c.length/\ ∀ j,j<c.length->d.getD j 0=c.getD j 0\/(j<x/\2<=c.getD j 0/\(d.getD j 0=3\/d.getD j 0=4))):=by
 intro x
 induction x with
 |zero =>
  intro d _
  simp only[dR,List.mem_singleton]
  constructor
  ·rintro rfl; exact⟨rfl,fun j _=>.inl rfl⟩
  ·rintro⟨h1,h2⟩
   refine List.ext_getElem h1 fun j g1 g2=>?_
   have:=h2 j g2
   rcases this with h|⟨h,_⟩
   ·rw[List.getD_eq_getElem?_getD,List.getD_eq_getElem?_getD,List.getElem?_eq_getElem g1,List.getElem?_eq_getElem g2] at h; exact h
   ·omega
 |succ x ih =>
  intro d hx
  have ih:=fun {d}=>@ih d (by omega)
  rw[dR]
  split
  ·rename_i h2
   rw[ih]
   constructor
   ·rintro⟨g1,g2⟩
    exact⟨g1,fun j hj=>(g2 j hj).imp id fun⟨a,b⟩=>⟨by omega,b⟩⟩
   ·rintro⟨g1,g2⟩
    refine⟨g1,fun j hj=>(g2 j hj).imp id fun⟨a,b,c'⟩=>⟨?_,b,c'⟩⟩
    by_cases e:j=x
    ·subst e; omega
    ·omega
  ·rename_i h2
   rw[List.mem_append,List.mem_flatMap]
   have hset: ∀ {d:List Int} {k:Int},d.length=c.length-> ∀ j,(d.set x k).getD j 0=if j=x then k else d.getD j 0:=fun hd j=>Ah (by omega)
   constructor
   ·rintro(h|⟨e,he,h⟩)
    ·obtain⟨g1,g2⟩:=ih.1 h
     exact⟨g1,fun j hj=>(g2 j hj).imp id fun⟨a,b⟩=>⟨by omega,b⟩⟩
    ·obtain⟨g1,g2⟩:=ih.1 he
     have h34: ∃ k:Int,(k=3\/k=4)/\d=e.set x k:=by
      simp only[List.mem_cons,List.not_mem_nil,or_false] at h
      rcases h with rfl|rfl
      ·exact⟨3,.inl rfl,rfl⟩
      ·exact⟨4,.inr rfl,rfl⟩
     obtain⟨k,hk,rfl⟩:=h34
     refine⟨by rw[List.length_set]; exact g1,fun j hj=>?_⟩
     rw[hset g1]
     by_cases ej:j=x
     ·subst ej; rw[if_pos rfl]; exact .inr ⟨by omega,by omega,hk⟩
     ·rw[if_neg ej]; exact(g2 j hj).imp id fun⟨a,b⟩=>⟨by omega,b⟩
   ·rintro⟨g1,g2⟩
    rcases g2 x (by omega) with hxx|⟨_,hx2,hxx⟩
    ·refine .inl (ih.2 ⟨g1,fun j hj=>?_⟩)
     by_cases ej:j=x
     ·subst ej; exact .inl hxx
     ·exact(g2 j hj).imp id fun⟨a,b⟩=>⟨by omega,b⟩
    ·refine .inr ⟨d.set x (c.getD x 0),ih.2 ⟨by rw[List.length_set]; exact g1,fun j hj=>?_⟩,?_⟩
     ·rw[hset g1]
      by_cases ej:j=x
      ·subst ej; rw[if_pos rfl]; exact .inl rfl
      ·rw[if_neg ej]; exact(g2 j hj).imp id fun⟨a,b⟩=>⟨by omega,b⟩
     ·have hd: ∀ k:Int,d.getD x 0=k->d=(d.set x (c.getD x 0)).set x k:=fun k hk=>by
       rw[List.set_set]
       refine List.ext_getElem (by rw[List.length_set]) fun j q1 q2=>?_
       rw[List.getElem_set]
       split
       ·rename_i e; subst e
        rw[<- hk,List.getD_eq_getElem?_getD,List.getElem?_eq_getElem q1]; rfl
       ·rfl
      simp only[List.mem_cons,List.not_mem_nil,or_false]
      rcases hxx with h|h
      ·exact .inl (hd 3 h)
      ·exact .inr (hd 4 h)
theorem PE{c d:List Int}{x:Nat}(hx:x<=c.length)(h:d∈dR c x):d.length=c.length:=((PD hx).1 h).1
theorem aar{a:Elem}{x i b:Nat}(hi:i<(dR a.counts x).length):(gU a (Am a.counts x i b)).getD i default=⟨a.value,(dR a.counts x).getD i []⟩:=by
 unfold gU Am FM
 rw[List.append_assoc,List.map_append,List.getD_eq_getElem?_getD,List.getElem?_append_left (by rw[List.length_map]; exact hi),List.getElem?_map,List.getElem?_eq_getElem hi]
 simp[hi]
set_option maxHeartbeats 1000000 in
theorem S.qp(a:Elem)(hl:a.counts.length<=6):aj Tryz.prog 54 [.dat (.elem a)] (.row 3 false (.elems (gU a (dR a.counts a.counts.length)))):=by
 refine aj.of Bd.qp (by simp) rfl rfl ?_
 conv=>whnf
 refine ah.pure (S.oQ a (by omega)) rfl ?_
 conv=>whnf
 refine aK.wJ 7 [1] (fun i:Nat=>[(4,.int i),(3,.own 4)]) (fun i=>[(0,.box 50 3 (.dat (.elem a))),(4,jL (gU a (dR a.counts i)))]) (fun i=>i<=a.counts.length) (fun i=>a.counts.length-i) 0 [0,4] rfl (by decide) (fun _=>rfl) (Nat.zero_le _) ?_ ?_ ?_
 ·exact⟨⟨_,rfl,.eq rfl⟩,⟨_,rfl,.eq rfl⟩,trivial⟩
 ·exact⟨okF rfl nofun rfl rfl rfl ⟨rfl,rfl⟩ rfl,okF rfl nofun rfl rfl rfl ⟨rfl,rfl⟩ rfl,trivial⟩
 conv=>whnf
 refine⟨⟨⟨_,rfl,.eq rfl⟩,trivial⟩,rfl,?_⟩
 rintro x hx
 have hcap:=@Pz a.counts x
 have h3x:3^x<=3^6:=Nat.pow_le_pow_right (by decide) (by omega)
 have h36:3^6=729:=by decide
 conv=>whnf
 refine⟨fun h1=>?_,fun h1=>?_⟩
 ·have hx':x<a.counts.length:=by simpa using h1
  conv=>whnf
  refine .mk (by simp only[Rw.rng]; omega) ?_
  conv=>whnf
  refine⟨fun h2=>?_,fun h2=>?_⟩
  ·have h2':a.counts.getD x 0<2:=of_decide_eq_true h2
   conv=>whnf
   refine .mk (by simp only[okI] at *; first|omega|(simp_all; done)|(simp_all; omega)) ?_
   conv=>whnf
   refine⟨x+1,[0,4],by omega,by omega,⟨⟨_,rfl,.eq rfl⟩,⟨_,rfl,.eq rfl⟩,trivial⟩,⟨⟨_,rfl,.eq rfl⟩,trivial⟩,okF rfl nofun rfl rfl rfl ⟨rfl,rfl⟩ rfl,okF rfl nofun rfl rfl rfl ⟨rfl,rfl⟩ (by rw[dR,if_pos h2']),trivial⟩
  have h2': ¬ a.counts.getD x 0<2:=of_decide_eq_false h2
  conv=>whnf
  refine aK.wJ 7 [1,4,5] (fun i:Nat=>[(6,.int i),(3,.own 4)]) (fun i=>[(0,.box 50 3 (.dat (.elem a))),(4,jL (gU a (FM a.counts x i)))]) (fun i=>i<=(dR a.counts x).length) (fun i=>(dR a.counts x).length-i) 0 [0,4] rfl (by decide) (fun _=>rfl) (Nat.zero_le _) ?_ ?_ ?_
  ·exact⟨⟨_,rfl,.eq rfl⟩,⟨_,rfl,.eq rfl⟩,trivial⟩
  ·exact⟨okF rfl nofun rfl rfl rfl ⟨rfl,rfl⟩ rfl,okF rfl nofun rfl rfl rfl ⟨rfl,rfl⟩ (by simp[FM]),trivial⟩
  conv=>whnf
  refine⟨⟨⟨_,rfl,.eq rfl⟩,⟨_,rfl,.eq rfl⟩,⟨_,rfl,.eq rfl⟩,trivial⟩,rfl,?_⟩
  rintro i hi
  have hA:(FM a.counts x i).length<=729*3:=by
   unfold FM
   have:=IL (l:=(dR a.counts x).take i) (f:=fun d=>[d.set x 3,d.set x 4]) (k:=2) (fun _ _=>Nat.le_refl _)
   rw[List.length_take] at this
   rw[List.length_append]; omega
  conv=>whnf
  refine⟨fun h3=>?_,fun h3=>?_⟩
  ·have hi':i<(dR a.counts x).length:=by
    have hml:(gU a (dR a.counts x)).length=(dR a.counts x).length:=by simp[gU]
    have:(i:Int)<((gU a (dR a.counts x)).length:Int):=of_decide_eq_true h3
    omega
   have hdl:((dR a.counts x).getD i []).length=a.counts.length:=PE hx (kP hi')
   conv=>whnf
   refine aK.Un 7 [1,4,5,6] (fun b:Nat=>[(7,.int (3+(b:Int))),(3,.own 4)]) (fun b=>[(0,.box 50 3 (.dat (.elem a))),(4,jL (gU a (Am a.counts x i b)))]) (fun b=>b<=2) (fun b=>2-b) 0 [0,4] [(0,some (.box 50 3 (.dat (.elem a)))),(4,some (jL (gU a (FM a.counts x i))))] rfl (by decide) (fun _=>rfl) (Nat.zero_le _) ?_ ?_ ?_ ?_
   ·exact⟨⟨_,rfl,.eq rfl⟩,⟨_,rfl,.eq rfl⟩,trivial⟩
   ·exact⟨fun _=>False,mW (Z:=fun _=>False) rfl (fun q=>q),mW (Z:=fun _=>False) rfl (fun q=>q),trivial⟩
   ·exact⟨okF rfl nofun rfl rfl rfl ⟨rfl,rfl⟩ rfl,okF rfl nofun rfl rfl rfl ⟨rfl,rfl⟩ (by simp[Am]),trivial⟩
   conv=>whnf
   refine⟨⟨⟨_,rfl,.eq rfl⟩,⟨_,rfl,.eq rfl⟩,⟨_,rfl,.eq rfl⟩,⟨_,rfl,.eq rfl⟩,trivial⟩,rfl,?_⟩
   rintro b hb
   have hB:(gU a (Am a.counts x i b)).length<=729*3+2:=by
    unfold gU Am; rw[List.length_map,List.length_append,List.length_map,List.length_range]; omega
   have hiB:i<(gU a (Am a.counts x i b)).length:=by
    unfold gU Am FM; rw[List.length_map,List.length_append,List.length_append]; omega
   have hget:=aar (a:=a) (b:=b) hi'
   conv=>whnf
   refine⟨fun h4=>?_,fun h4=>?_⟩
   ·have hb':b<2:=by have:=of_decide_eq_true h4; omega
    conv=>whnf
    repeat(refine VC.mk (by simp only[Rw.rng,Int.toNat_natCast]; omega) ?_; conv=>whnf)
    rw[show(gU a (Am a.counts x i b)).getD (i:Int).toNat default=⟨a.value,(dR a.counts x).getD i []⟩ from hget]
    refine ah.heap (rC.frame (S.FD ⟨a.value,(dR a.counts x).getD i []⟩ (by show((dR a.counts x).getD i []).length<_; omega)) _ _) ?_
    rintro t hp' ⟨rfl,rfl⟩
    refine⟨.agg [.int a.value,.own 13],(13,some (xR ((dR a.counts x).getD i [])))::_,rfl,Na,?_⟩
    conv=>whnf
    repeat(refine VC.mk (by first|(first|(simp only[Rw.rng,Int.toNat_natCast]; omega)|(show((gU a (Am a.counts x i b)).length+(0+1))*32<=140737488355328/\(gU a (Am a.counts x i b)).length+(0+1)<=1152921504606846976; omega))|(simp only[okI] at *; first|omega|(simp_all; done)|(simp_all; omega))) ?_; conv=>whnf)
    refine⟨[(0,some (.box 50 3 (.dat (.elem a)))),(25,some (jL (gU a (Am a.counts x i b)++[⟨a.value,((dR a.counts x).getD i []).set x (3+(b:Int))⟩])))],b+1,[0,25],⟨fun i=>i=13,mW (Z:=fun i=>i=13) (i:=0) rfl (by decide),XO (Z:=fun i=>i=13) (i:=25) (j:=13) (e:=⟨a.value,((dR a.counts x).getD i []).set x (3+(b:Int))⟩) rfl (by decide) rfl rfl,trivial⟩,by omega,by omega,⟨⟨_,rfl,.eq ?_⟩,⟨_,rfl,.eq rfl⟩,trivial⟩,⟨⟨_,rfl,.eq rfl⟩,⟨_,rfl,.eq rfl⟩,⟨_,rfl,.eq rfl⟩,⟨_,rfl,.eq rfl⟩,trivial⟩,okF rfl nofun rfl rfl rfl ⟨rfl,rfl⟩ rfl,okF rfl nofun rfl rfl rfl ⟨rfl,rfl⟩ ?_,trivial⟩
    ·show T.int (3+((b+1:Nat):Int))=T.int (3+(b:Int)+1)
     have:(3+((b+1:Nat):Int))=3+(b:Int)+1:=by omega
     rw[this]
    ·rw[VK]; unfold gU; rw[List.map_append]; rfl
   ·have hb':b=2:=by have:=of_decide_eq_false h4; omega
    subst hb'
    rw[<- VJ hi']
    conv=>whnf
    refine .mk (by simp only[okI] at *; first|omega|(simp_all; done)|(simp_all; omega)) ?_
    conv=>whnf
    refine⟨i+1,[0,4],by omega,by omega,⟨⟨_,rfl,.eq rfl⟩,⟨_,rfl,.eq rfl⟩,trivial⟩,⟨⟨_,rfl,.eq rfl⟩,⟨_,rfl,.eq rfl⟩,⟨_,rfl,.eq rfl⟩,trivial⟩,okF rfl nofun rfl rfl rfl ⟨rfl,rfl⟩ rfl,okF rfl nofun rfl rfl rfl ⟨rfl,rfl⟩ rfl,trivial⟩
  ·have hi':i=(dR a.counts x).length:=by
    have hml:(gU a (dR a.counts x)).length=(dR a.counts x).length:=by simp[gU]
    have: ¬ (i:Int)<((gU a (dR a.counts x)).length:Int):=of_decide_eq_false h3
    omega
   subst hi'
   rw[XP h2']
   conv=>whnf
   refine .mk (by simp only[okI] at *; first|omega|(simp_all; done)|(simp_all; omega)) ?_
   conv=>whnf
   refine⟨x+1,[0,4],by omega,by omega,⟨⟨_,rfl,.eq rfl⟩,⟨_,rfl,.eq rfl⟩,trivial⟩,⟨⟨_,rfl,.eq rfl⟩,trivial⟩,okF rfl nofun rfl rfl rfl ⟨rfl,rfl⟩ rfl,okF rfl nofun rfl rfl rfl ⟨rfl,rfl⟩ rfl,trivial⟩
 ·have hx':x=a.counts.length:=by
   have: ¬ x<a.counts.length:=by simpa using h1
   omega
  subst hx'
  conv=>whnf
  exact ak.XK rfl
theorem FN{c d:List Int}(hc:Bj c)(h2:c.all Rq=true):d∈dR c c.length↔d∈qG (iH c) c.length:=by
 rw[PD (Nat.le_refl _),vg hc]
 have hle: ∀ j,j<c.length->c.getD j 0<=2:=fun j hj=>by
  have:=List.all_eq_true.1 h2 (c.getD j 0) (kP hj)
  simpa [Rq] using this
 refine and_congr_right fun _=>forall_congr' fun j=>forall_congr' fun hj=>?_
 have:=hle j hj
 constructor
 ·intro h
  unfold zZ
  cases hb:(c.getD j 0==2) with
  |true =>
   have:c.getD j 0=2:=by simpa using hb
   simp only[cond_true,List.mem_cons,List.not_mem_nil,or_false]; omega
  |false =>
   have:c.getD j 0≠2:=by simpa using hb
   simp only[cond_false,List.mem_singleton]; omega
 ·intro h
  rcases vk h with h|⟨h,g⟩
  ·exact .inl h
  ·exact .inr ⟨hj,by omega,g⟩
theorem XQ: ∀ {c d:List Int},d.length=c.length->(∀ j,j<c.length->c.getD j 0<=d.getD j 0)->c.sum<=d.sum:=by
 intro c
 induction c with
 |nil=>intro d h _; rw[List.eq_nil_of_length_eq_zero h]; exact Int.le_refl _
 |cons x c ih =>
  intro d h hj
  cases d with
  |nil=>cases h
  |cons y d =>
   have h0:=hj 0 (by simp)
   have h1:=ih (d:=d) (by simpa using h) (fun j q=>by have:=hj (j+1) (by simpa using q); simpa using this)
   simp only[List.getD_cons_zero] at h0
   simp only[List.sum_cons]; omega
theorem sJ{d:List Int}(h:Bj d):d.all DW=true:=List.all_eq_true.2 fun x hx=>Us.2 (h x hx)
theorem Ea{a:Elem}(hc:Bj a.counts)(hl:a.counts.length<=6)(h0:0<oN a){e:Elem}:e∈mV a.value (iH a.counts)↔e.value=a.value/\e.counts∈qG (iH a.counts) a.counts.length:=by
 constructor
 ·intro h
  obtain⟨h1,h2,h3,_⟩:=D5 h
  rw[lZ] at h3
  exact⟨h1,h3⟩
 ·rintro⟨h1,h2⟩
  obtain⟨v,d⟩:=e
  simp only at h1 h2
  subst h1
  unfold mV DX
  rw[List.mem_filter,lZ]
  refine⟨List.mem_map.2 ⟨d,h2,rfl⟩,decide_eq_true ?_⟩
  obtain⟨g1,g2⟩:=(vg hc).1 h2
  rw[yZ (by show d.length<=6; omega) (sJ (Nr hc h2))]
  rw[yZ hl (sJ hc)] at h0
  have:=XQ g1 fun j hj=>by
   have:=vk (g2 j hj); omega
  show 0<d.sum
  omega
theorem Eb{a e:Elem}{L:List (List Int)}:e∈gU a L↔e.value=a.value/\e.counts∈L:=by
 unfold gU
 rw[List.mem_map]
 constructor
 ·rintro⟨d,hd,rfl⟩; exact⟨rfl,hd⟩
 ·rintro⟨h1,h2⟩; exact⟨e.counts,h2,by rw[<- h1]⟩
structure Ec(a:Elem):Prop where
 ok:Bj a.counts
 two:a.counts.all Rq=true
 len:a.counts.length<=6
 tot:0<oN a
theorem Ec.cho{a:Elem}(h:Ec a){e:Elem}:e∈mV a.value (iH a.counts)↔e∈gU a (dR a.counts a.counts.length):=by
 rw[Ea h.ok h.len h.tot,Eb,FN h.ok h.two]
theorem Ec.pos{a:Elem}(h:Ec a):0<a.counts.length:=by
 have:=h.tot
 rcases Nat.eq_zero_or_pos a.counts.length with h0|h0
 ·rw[yZ h.len (sJ h.ok),List.eq_nil_of_length_eq_zero h0] at this; simp at this
 ·exact h0
def ab3(r:Rule)(a:Elem):List Elem:=(lT r (gU a (dR a.counts a.counts.length))).foldl qH []
theorem XR{r:Rule}{a:Elem}(h:Ec a):ab3 r a=iF r a:=by
 obtain⟨s1,s2⟩:=RS (lT r (gU a (dR a.counts a.counts.length))) [] (by simp[SS])
 refine Lp s1 (Px _) fun x=>?_
 unfold ab3 at *
 rw[s2,iF,rM]
 simp only[List.not_mem_nil,false_or]
 unfold lT
 rw[List.mem_filterMap,List.mem_filterMap]
 exact exists_congr fun e=>and_congr_left fun _=>h.cho.symm
theorem VL{l:List Elem}{r:Rule}{j:Nat}(hj:j<l.length):(lT r (l.take (j+1))).foldl qH []=match zT r (l.getD j default) with|some x=>qH ((lT r (l.take j)).foldl qH []) x|none=>(lT r (l.take j)).foldl qH []:=by
 rw[IV hj,List.foldl_append]
 cases zT r (l.getD j default)<;>rfl
theorem PG{a:Elem}(hl:a.counts.length<=6):(gU a (dR a.counts a.counts.length)).length<=729:=by
 have h:=@Pz a.counts a.counts.length
 have h3x:3^a.counts.length<=3^6:=Nat.pow_le_pow_right (by decide) hl
 have h36:3^6=729:=by decide
 unfold gU; rw[List.length_map]; omega
theorem Ht{a e:Elem}(h:Ec a)(he:e∈gU a (dR a.counts a.counts.length)):e.counts.length=a.counts.length/\Bj e.counts:=by
 have h2:=(Eb.1 he).2
 exact⟨PE (Nat.le_refl _) h2,Nr h.ok ((FN h.ok h.two).1 h2)⟩
set_option maxHeartbeats 1000000 in
theorem S.vw(p:aN)(r:Int)(a:Elem)(hp:dH p)(hr:rG a.counts.length (p.rules.getD r.toNat default))(Hu:0<=r/\r<p.rules.length)(h:Ec a):aj Tryz.prog 83 [.dat (.iY p),.int r,.dat (.elem a)] (.row 3 false (.elems (iF (p.rules.getD r.toNat default) a))):=by
 rw[<- XR h]
 have hml:=PG h.len
 have hlen:=h.len
 have hsr:=hp.rule r.toNat
 refine aj.of Bd.vw (by simp) rfl rfl ?_
 conv=>whnf
 refine ah.pure (S.qp a h.len) rfl ?_
 conv=>whnf
 refine aK.nil 8 50 3 (by rfl) rfl rfl rfl ?_
 refine aK.wJ 20 [1,3,7] (fun j:Nat=>[(9,.int j),(8,.own 8)]) (fun j=>[(0,.box 27 11 (.dat (.iY p))),(8,jL ((lT (p.rules.getD r.toNat default) ((gU a (dR a.counts a.counts.length)).take j)).foldl qH []))]) (fun j=>j<=(gU a (dR a.counts a.counts.length)).length) (fun j=>(gU a (dR a.counts a.counts.length)).length-j) 0 [0,8] rfl (by decide) (fun _=>rfl) (Nat.zero_le _) ?_ ?_ ?_
 ·exact⟨⟨_,rfl,.eq rfl⟩,⟨_,rfl,.eq rfl⟩,trivial⟩
 ·exact⟨okF rfl nofun rfl rfl rfl ⟨rfl,rfl⟩ rfl,okF rfl nofun rfl rfl rfl ⟨rfl,rfl⟩ rfl,trivial⟩
 conv=>whnf
 refine⟨⟨⟨_,rfl,.eq rfl⟩,⟨_,rfl,.eq rfl⟩,⟨_,rfl,.eq rfl⟩,trivial⟩,rfl,?_⟩
 rintro j hj
 have hfl:((lT (p.rules.getD r.toNat default) ((gU a (dR a.counts a.counts.length)).take j)).foldl qH []).length<=729:=by
  have h1:=XT (lT (p.rules.getD r.toNat default) ((gU a (dR a.counts a.counts.length)).take j)) []
  have h2:=Bl (r:=p.rules.getD r.toNat default) (l:=(gU a (dR a.counts a.counts.length)).take j)
  rw[List.length_take] at h2
  rw[List.length_nil,Nat.zero_add] at h1; omega
 have hsm:kM ((lT (p.rules.getD r.toNat default) ((gU a (dR a.counts a.counts.length)).take j)).foldl qH []):=fun x hx=>by
  rcases XU _ _ _ hx with hx|hx
  ·cases hx
  ·rw[Ak (n:=a.counts.length) (fun e he=>(Ht h (List.mem_of_mem_take he)).1) hx]; omega
 conv=>whnf
 refine⟨fun h2=>?_,fun h2=>?_⟩
 ·have hj':j<(gU a (dR a.counts a.counts.length)).length:=by simpa using h2
  have hstep:=VL (r:=p.rules.getD r.toNat default) hj'
  have hmem:(gU a (dR a.counts a.counts.length)).getD j default∈gU a (dR a.counts a.counts.length):=kP hj'
  obtain⟨g1,g2⟩:=Ht h hmem
  conv=>whnf
  repeat(refine VC.mk (by simp only[Rw.rng]; omega) ?_; conv=>whnf)
  refine Ai.pure (aj.BZ (S.oU (p.rules.getD r.toNat default) ((gU a (dR a.counts a.counts.length)).getD j default) hsr (by rw[g1]; exact hr) g2 (by omega))) rfl ?_
  conv=>whnf
  refine⟨fun h3=>?_,fun h3=>?_⟩
  ·obtain⟨x,hx⟩:=Option.isSome_iff_exists.1 h3
   replace hx:dV (p.rules.getD r.toNat default) ((gU a (dR a.counts a.counts.length)).getD j default)=some x:=hx
   have hxl:=Bo hx
   rw[zT,hx] at hstep
   rw[show dV (p.rules.getD r.toNat default) ((gU a (dR a.counts a.counts.length)).getD (j:Int).toNat default)=some x from hx]
   conv=>whnf
   refine ah.pure (S.lW x (by rw[hxl]; omega)) rfl ?_
   conv=>whnf
   refine ah.insert rfl rfl (by omega) hsm (by show(mZ x.counts).length<_; rw[mZ,List.length_map,hxl]; omega) (fun hf=>?_) (fun hf=>?_)
   ·have hins:qH ((lT (p.rules.getD r.toNat default) ((gU a (dR a.counts a.counts.length)).take j)).foldl qH []) (jq x)=(lT (p.rules.getD r.toNat default) ((gU a (dR a.counts a.counts.length)).take j)).foldl qH []:=by rw[qH,if_pos hf]
    conv=>whnf
    refine .mk (by simp only[okI] at *; first|omega|(simp_all; done)|(simp_all; omega)) ?_
    conv=>whnf
    refine⟨j+1,[0,8],by omega,by omega,⟨⟨_,rfl,.eq rfl⟩,⟨_,rfl,.eq rfl⟩,trivial⟩,⟨⟨_,rfl,.eq rfl⟩,⟨_,rfl,.eq rfl⟩,⟨_,rfl,.eq rfl⟩,trivial⟩,okF rfl nofun rfl rfl rfl ⟨rfl,rfl⟩ rfl,okF rfl nofun rfl rfl rfl ⟨rfl,rfl⟩ (by rw[hstep]; simp only[Option.map_some]; rw[hins]),trivial⟩
   ·conv=>whnf
    refine .mk (by simp only[okI] at *; first|omega|(simp_all; done)|(simp_all; omega)) ?_
    conv=>whnf
    refine⟨j+1,[0,44],by omega,by omega,⟨⟨_,rfl,.eq rfl⟩,⟨_,rfl,.eq rfl⟩,trivial⟩,⟨⟨_,rfl,.eq rfl⟩,⟨_,rfl,.eq rfl⟩,⟨_,rfl,.eq rfl⟩,trivial⟩,okF rfl nofun rfl rfl rfl ⟨rfl,rfl⟩ rfl,okF rfl nofun rfl rfl rfl ⟨rfl,rfl⟩ (by rw[hstep]; rfl),trivial⟩
  ·replace h3:(dV (p.rules.getD r.toNat default) ((gU a (dR a.counts a.counts.length)).getD j default)).isSome=false:=h3
   rw[Option.isSome_eq_false_iff,Option.isNone_iff_eq_none] at h3
   rw[zT,h3] at hstep
   conv=>whnf
   refine .mk (by simp only[okI] at *; first|omega|(simp_all; done)|(simp_all; omega)) ?_
   conv=>whnf
   refine⟨j+1,[0,8],by omega,by omega,⟨⟨_,rfl,.eq rfl⟩,⟨_,rfl,.eq rfl⟩,trivial⟩,⟨⟨_,rfl,.eq rfl⟩,⟨_,rfl,.eq rfl⟩,⟨_,rfl,.eq rfl⟩,trivial⟩,okF rfl nofun rfl rfl rfl ⟨rfl,rfl⟩ rfl,okF rfl nofun rfl rfl rfl ⟨rfl,rfl⟩ (by rw[hstep]; rfl),trivial⟩
 ·have hj':(gU a (dR a.counts a.counts.length)).length<=j:=by simpa using h2
  rw[List.take_of_length_le hj']
  conv=>whnf
  exact ak.XK rfl
theorem XV{p:aN}{a:Elem}(hc:zX p=0)(h:yX p a=0):Ec a/\a.counts.length=p.states.length:=by
 have hst:=(yY (xU (Fz hc)).1).states
 unfold yX at h
 cases hb:cvB p a with
 |true=>rw[hb] at h; cases h
 |false =>
  rw[hb] at h
  rw[FB hc] at hb
  obtain⟨h1,h2⟩:=RF hb
  unfold xQ at hb
  rw[Bool.or_eq_false_iff] at hb
  have h3:oN a≠0:=by simpa using hb.2
  have h4:=RD a
  cases ha:a.counts.all Rq with
  |false=>rw[ha] at h; cases h
  |true=>exact⟨⟨h2,ha,by omega,by omega⟩,h1⟩
theorem XW{p:aN}{r:Int}{a:Elem}(h:mY p r a=0):Ho p r=0/\yX p a=0:=by
 unfold mY at h
 by_cases h0:Ho p r=0
 ·rw[h0] at h; exact⟨h0,h⟩
 ·rw[show(Ho p r !=0)=true by simpa using h0] at h; exact absurd h h0
theorem y9{p:aN}{r:Int}{a:Elem}(h:mY p r a=0):Ec a/\rG a.counts.length (p.rules.getD r.toNat default)/\(0<=r/\r<p.rules.length)/\zX p=0:=by
 obtain⟨h1,h2⟩:=XW h
 have hc:=ael h1
 obtain⟨g1,g2⟩:=XV hc h2
 obtain⟨r1,r2,r3⟩:=abZ hc h1
 exact⟨g1,by rw[g2]; exact(wtR hc r2).place,⟨r1,r3⟩,hc⟩
def Xp(p:aN)(r:Int)(a:Elem):Bool:=(mY p r a==0)&&(dV (p.rules.getD r.toNat default) a).isSome
def Aa(p:aN)(r:Int)(a:Elem):List Elem:=bif mY p r a==0 then iF (p.rules.getD r.toNat default) a else []
theorem S.kW(p:aN)(r:Int)(a:Elem)(hp:dH p)(ha:a.counts.length<2^30):aj Tryz.prog 30 [.dat (.iY p),.int r,.dat (.elem a)] (.fV [.bool (Xp p r a),.int (mY p r a)]):=by
 refine aj.of Bd.kW (by simp) rfl rfl ?_
 conv=>whnf
 refine ah.pure (S.jl p r hp) rfl ?_
 conv=>whnf
 refine⟨fun h1=>?_,fun h1=>?_⟩
 ·conv=>whnf
  refine ak.eqv ?_
  have e:mY p r a=Ho p r:=by rw[mY,h1]; rfl
  rw[Xp,e,show(Ho p r==0)=false by simpa using h1]; rfl
 have e:mY p r a=yX p a:=by rw[mY,h1]; rfl
 conv=>whnf
 refine ah.pure (S.gI p a hp ha) rfl ?_
 conv=>whnf
 refine⟨fun h2=>?_,fun h2=>?_⟩
 ·conv=>whnf
  refine ak.eqv ?_
  rw[Xp,e,show(yX p a==0)=false by simpa using h2]; rfl
 have h0:mY p r a=0:=by rw[e]; simpa using h2
 obtain⟨hA,hpl,Hu,_⟩:=y9 h0
 conv=>whnf
 refine .mk (by simp only[Rw.rng]; omega) ?_
 conv=>whnf
 refine Ai.pure (aj.BZ (S.qg (p.rules.getD r.toNat default) a (hp.rule _) hpl hA.ok hA.len)) rfl ?_
 conv=>whnf
 refine ak.eqv ?_
 rw[Xp,h0]; rfl
theorem S.og(p:aN)(r:Int)(a:Elem)(hp:dH p)(ha:a.counts.length<2^30):aj Tryz.prog 32 [.dat (.iY p),.int r,.dat (.elem a)] (.fV [.row 3 false (.elems (Aa p r a)),.int (mY p r a)]):=by
 refine aj.of Bd.og (by simp) rfl rfl ?_
 conv=>whnf
 refine ah.pure (S.jl p r hp) rfl ?_
 conv=>whnf
 refine⟨fun h1=>?_,fun h1=>?_⟩
 ·conv=>whnf
  have e:mY p r a=Ho p r:=by rw[mY,h1]; rfl
  rw[Aa,e,show(Ho p r==0)=false by simpa using h1]
  exact ak.Py
 have e:mY p r a=yX p a:=by rw[mY,h1]; rfl
 conv=>whnf
 refine ah.pure (S.gI p a hp ha) rfl ?_
 conv=>whnf
 refine⟨fun h2=>?_,fun h2=>?_⟩
 ·conv=>whnf
  rw[Aa,e,show(yX p a==0)=false by simpa using h2]
  exact ak.Py
 have h0:mY p r a=0:=by rw[e]; simpa using h2
 obtain⟨hA,hpl,Hu,_⟩:=y9 h0
 conv=>whnf
 refine .mk (by simp only[Rw.rng]; omega) ?_
 conv=>whnf
 refine ah.pure (S.rJ (p.rules.getD r.toNat default) a (hp.rule _) hpl hA.ok hA.pos hA.len) rfl ?_
 rw[Aa,h0]
 conv=>whnf
 exact ak.eqv rfl
theorem S.qw(p:aN)(r:Int)(a:Elem)(hp:dH p)(ha:a.counts.length<2^30):aj Tryz.prog 81 [.dat (.iY p),.int r,.dat (.elem a)] (.int (mY p r a)):=by
 refine aj.of Bd.qw (by simp) rfl rfl ?_
 conv=>whnf
 refine ah.pure (S.nK p hp) rfl ?_
 conv=>whnf
 refine⟨fun h1=>?_,fun h1=>?_⟩
 ·conv=>whnf
  have e:Ho p r=zX p:=by rw[Ho,show(zX p==0)=false by simpa using h1]; rfl
  exact ak.int (by rw[mY,e,h1]; rfl)
 have hc:zX p=0:=by simpa using h1
 conv=>whnf
 repeat(refine VC.mk (by first|exact id|exact fun h=>⟨h,h⟩|(intro h; rw[h]; rfl)) ?_; conv=>whnf)
 refine⟨fun h2=>?_,fun h2=>?_⟩
 ·conv=>whnf
  have e:Ho p r=6:=by rw[Ho,hc,show(decide (r<0)||decide (r>=(p.rules.length:Int)))=true from h2]; rfl
  exact ak.int (by rw[mY,e]; rfl)
 have e:Ho p r=0:=by rw[Ho,hc,show(decide (r<0)||decide (r>=(p.rules.length:Int)))=false from h2]; rfl
 conv=>whnf
 refine ah.pure (S.lV p a hp ha) rfl ?_
 conv=>whnf
 refine⟨fun h3=>?_,fun h3=>?_⟩
 ·conv=>whnf
  exact ak.int (by rw[mY,e,Ul hc,show OW p a=false by simpa using h3]; rfl)
 ·conv=>whnf
  exact ak.int (by rw[mY,e,Ul hc,show OW p a=true by simpa using h3]; rfl)
theorem S.nP(p:aN)(r:Int)(a:Elem)(hp:dH p)(ha:a.counts.length<2^30):aj Tryz.prog 31 [.dat (.iY p),.int r,.dat (.elem a)] (.fV [.bool (Xp p r a),.int (mY p r a)]):=by
 refine aj.of Bd.nP (by simp) rfl rfl ?_
 conv=>whnf
 refine ah.pure (S.qw p r a hp ha) rfl ?_
 conv=>whnf
 refine⟨fun h1=>?_,fun h1=>?_⟩
 ·conv=>whnf
  refine ak.eqv ?_
  rw[Xp,show(mY p r a==0)=false by simpa using h1]; rfl
 have h0:mY p r a=0:=by simpa using h1
 obtain⟨hA,hpl,Hu,_⟩:=y9 h0
 conv=>whnf
 refine .mk (by simp only[Rw.rng]; omega) ?_
 conv=>whnf
 refine Ai.pure (aj.BZ (S.oU (p.rules.getD r.toNat default) a (hp.rule _) hpl hA.ok hA.len)) rfl ?_
 conv=>whnf
 refine ak.eqv ?_
 rw[Xp,h0]; rfl
theorem S.vC(p:aN)(r:Int)(a:Elem)(hp:dH p)(ha:a.counts.length<2^30):aj Tryz.prog 33 [.dat (.iY p),.int r,.dat (.elem a)] (.fV [.row 3 false (.elems (Aa p r a)),.int (mY p r a)]):=by
 refine aj.of Bd.vC (by simp) rfl rfl ?_
 conv=>whnf
 refine ah.pure (S.qw p r a hp ha) rfl ?_
 conv=>whnf
 refine⟨fun h1=>?_,fun h1=>?_⟩
 ·conv=>whnf
  rw[Aa,show(mY p r a==0)=false by simpa using h1]
  exact ak.Py
 have h0:mY p r a=0:=by simpa using h1
 obtain⟨hA,hpl,Hu,_⟩:=y9 h0
 conv=>whnf
 refine ah.pure (S.vw p r a hp hpl Hu hA) rfl ?_
 rw[Aa,h0]
 conv=>whnf
 exact ak.eqv rfl
theorem PI{r:Rule}{e:Elem}(h:(dV r e).isSome=true):(decide (0<=r.read)&&e.value !=r.read||e.counts.getD r.fr.toNat 0==0)=false:=by
 cases h0:(decide (0<=r.read)&&e.value !=r.read||e.counts.getD r.fr.toNat 0==0) with
 |false=>rfl
 |true=>unfold dV at h; simp only[h0,cond_true] at h; cases h
def Ap(c d:List Int):Prop:=d.length=c.length/\ ∀ j,j<c.length->(c.getD j 0=0↔d.getD j 0=0)
theorem IZ{c:List Int}{j:Nat}(h:c.length<=j):c.getD j 0=0:=by
 rw[List.getD_eq_getElem?_getD,List.getElem?_eq_none h]; rfl
theorem Ap.all{c d:List Int}(h:Ap c d)(j:Nat):(c.getD j 0==0)=(d.getD j 0==0):=by
 rw[Bool.eq_iff_iff,beq_iff_eq,beq_iff_eq]
 rcases Nat.lt_or_ge j c.length with hj|hj
 ·exact h.2 j hj
 ·rw[IZ hj,IZ (by rw[h.1]; exact hj)]
theorem RU{r:Rule}{c d:List Int}(h:Ap c d):pG r c=pG r d:=by
 have e: ∀ j,(c.getD j 0==0)=(d.getD j 0==0):=h.all
 unfold pG y5 uZ
 rw[h.1]
 simp only[e]
theorem FP{r:Rule}{a e:Elem}(hp:rG a.counts.length r)(hv:e.value=a.value)(hd: ∀ i,0<=i->i<(a.counts.length:Int)->Ap (aP a.counts i) (aP e.counts i))(h0:Ap a.counts e.counts):(dV r a).isSome=(dV r e).isSome:=by
 have h1:=hd r.fr hp.src.1 hp.src.2
 have e1:(decide (0<=r.read)&&a.value !=r.read||a.counts.getD r.fr.toNat 0==0)=(decide (0<=r.read)&&e.value !=r.read||e.counts.getD r.fr.toNat 0==0):=by
  rw[hv,h0.all]
 unfold dV
 simp only[e1,RU h1,h1.all]
 cases (decide (0<=r.read)&&e.value !=r.read||e.counts.getD r.fr.toNat 0==0) with
 |true=>rfl
 |false =>
  cases r.kind==1 with
  |true=>cases pG r (aP e.counts r.fr)<;>rfl
  |false =>
   cases r.kind==2 with
   |true=>cases (aP e.counts r.fr).getD r.gQ.toNat 0==0<;>rfl
   |false=>cases r.kind==3<;>rfl
theorem Bq{c:List Int}{i:Int}{j:Nat}(hi:0<=i/\i<c.length):(aP c i).getD j 0=if j=i.toNat then c.getD j 0-1 else c.getD j 0:=by
 unfold aP
 rw[Ah (by omega)]
 split
 ·rename_i e; rw[e]
 ·rfl
theorem RX{c d:List Int}(hc:Bj c)(h:d∈qG (iH c) c.length):Ap c d/\ ∀ i,0<=i->i<(c.length:Int)->Ap (aP c i) (aP d i):=by
 obtain⟨h1,h2⟩:=(vg hc).1 h
 refine⟨⟨h1,fun j hj=>?_⟩,fun i hi0 hi1=>⟨by rw[jc,jc,h1],fun j hj=>?_⟩⟩
 ·have:=vk (h2 j hj); omega
 ·rw[jc] at hj
  have:=vk (h2 j hj)
  rw[Bq ⟨hi0,hi1⟩,Bq ⟨hi0,by omega⟩]
  split<;>omega
theorem RY{c:List Int}(hc:Bj c):c∈qG (iH c) c.length:=by
 rw[vg hc]
 refine⟨rfl,fun j hj=>?_⟩
 unfold zZ
 cases hb:(c.getD j 0==2) with
 |true=>have:c.getD j 0=2:=(by simpa using hb); rw[this]; simp
 |false=>simp
theorem VN{r:Rule}{a:Elem}(h:Ec a)(hp:rG a.counts.length r):(dV r a).isSome=decide (0<((iF r a).length:Int)):=by
 cases hf:dV r a with
 |some x =>
  have:jq x∈iF r a:=by
   rw[iF,rM]
   exact List.mem_filterMap.2 ⟨a,(Ea h.ok h.len h.tot).2 ⟨rfl,RY h.ok⟩,by rw[zT,hf]; rfl⟩
  have hl:=List.length_pos_of_mem this
  rw[show decide (0<((iF r a).length:Int))=true from decide_eq_true (by omega)]; rfl
 |none =>
  have:iF r a=[]:=by
   rw[List.eq_nil_iff_forall_not_mem]
   intro x hx
   rw[iF,rM] at hx
   obtain⟨e,he,y,hy,_⟩:=FK hx
   obtain⟨g1,g2⟩:=(Ea h.ok h.len h.tot).1 he
   obtain⟨z1,z2⟩:=RX h.ok g2
   have:=FP hp g1 z2 z1
   rw[hf,hy] at this; cases this
  rw[this]; rfl
end Go.Proofs.YtkomllaebngbfaaGreatDoor
