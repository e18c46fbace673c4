/-
 fair: a step with a rule. No condition.
-/
import Derived.Test.YtkomllaebngbfaaGreatDoorAa
import Derived.Test.YtkomllaebngbfaaGreatDoorLg
import Derived.Test.YtkomllaebngbfaaGreatDoorKa
import Derived.Test.YtkomllaebngbfaaGreatDoorFa
namespace Go.Proofs.YtkomllaebngbfaaGreatDoor
open Go.Ab Go.Proofs
set_option maxRecDepth 100000
theorem S.RH(l:List Int)(f:Bool)(h0:0<l.length)(hl:l.length<2^30)(n:Nat):aO Tryz.prog 123 (V.bn [.row 0 f (.ints l)]) (Hz.ay []) n (fun t hp=>t= .own n/\hp=Hz.ay [(n,some (xJ l))]):=by
 refine oL.of (nx:=0) Bd.fV (by simp) ⟨_,_,rfl,rfl⟩ rfl rfl ?_
 conv=>whnf
 refine XM.mk (fun hz=>absurd hz (by show ¬ l.length=0; omega)) ?_
 conv=>whnf
 refine Fork.mk (fun q=>absurd (q.symm.trans ((rfl:false=false))).symm Bool.false_ne_true) (fun _=>?_)
 conv=>whnf
 refine .mk (by simp only[nI,oz,Rw.len]; omega) ?_
 conv=>whnf
 repeat(refine VC.mk (by simp only[nI,oz,Rw.len]; omega) ?_; conv=>whnf)
 exact nC.one (c:=n) (o:=xJ l) (t:=.own n) rfl rfl rfl nofun (.inr rfl) rfl (.eq rfl) ⟨rfl,rfl⟩
theorem S.RI(l:List Int)(f:Bool)(h0:0<l.length)(hl:l.length<2^30):qY Tryz.prog 123 [.sl 0 f (l.map T.int)] (fun n=>.own n) (some ⟨3,0,l.map T.int⟩):=by
 refine⟨rfl,fun n=>rfl,fun ob h=>?_,fun ob h=>?_,fun n=>?_⟩
 ·cases h
  show T.bC (l.map T.int)=true
  rw[fZ]; intro t ht; obtain⟨x,_,rfl⟩:=List.mem_map.1 ht; rfl
 ·cases h; exact show(0:Nat)≠dI by decide
 ·have:=S.RH l f h0 hl n
  have e1:Hz.ay [(n,some (xJ l))]=fU no n (some ⟨3,0,l.map T.int⟩):=by
   rw[bQ]; simp[fU,OV.aF,Rw.bn,V.bn]; rfl
  rw[e1] at this
  exact this
theorem aaK{c:List Int}(hc: ∀ i,0<=c.getD i 0)(i:Nat):decide (0<c.getD i 0)= !(c.getD i 0==0):=by
 rw[Bool.eq_iff_iff]; simp only[decide_eq_true_eq,Bool.not_eq_true',beq_eq_false_iff_ne,ne_eq]
 have:=hc i; omega
theorem S.nJ(r:Rule)(c:List Int)(f:Bool)(hr:xk r)(hc:c.length<2^40)(hpos: ∀ i,0<=c.getD i 0):aj Tryz.prog 124 [.dat (.rule r),.row 0 f (.ints c)] (.bool (xg r c)):=by
 have g1:=hr.ex; have g2:=hr.all
 refine aj.of Bd.nJ (by simp) rfl rfl ?_
 conv=>whnf
 refine aI.same [2,12,13] (fun i:Nat=>[(14,.int i),(5,.bool (xu r.ex c i))]) (fun i=>i<=c.length/\zO r.all c i=false) (fun i=>c.length-i) 0 rfl (by decide) rfl (fun _=>rfl) ⟨by omega,rfl⟩ ⟨⟨_,rfl,rfl⟩,⟨_,rfl,?_⟩,trivial⟩ ?_
 ·show(V.bool (xu r.ex c 0)).aG=(V.bool ((r.ex.length:Int)==0)).aG
  rw[xu]; simp
 conv=>whnf
 refine⟨rfl,?_⟩
 rintro i ⟨hi,hall⟩
 conv=>whnf
 refine⟨fun h3=>?_,fun h3=>?_⟩
 ·have hi':i<c.length:=by simpa using h3
  have hp:=aaK hpos i
  conv=>whnf
  repeat(refine VC.mk (by first|exact id|exact fun h=>⟨h,h⟩|(simp only[Rw.rng] at *; first|omega|(simp_all; done)|(simp_all; omega))) ?_; conv=>whnf)
  refine ah.gG (fun _=>S.slices_Contains_int r.ex i false (by omega)) rfl ?_
  conv=>whnf
  refine VC.mk id ?_
  conv=>whnf
  refine⟨fun h4=>?_,fun h4=>?_⟩
  ·replace h4:(decide (0<c.getD i 0)&&yR r.ex i)=true:=h4
   rw[hp] at h4
   conv=>whnf
   repeat(refine VC.mk (by first|exact id|exact fun h=>⟨h,h⟩) ?_; conv=>whnf)
   refine ah.gG (fun _=>S.slices_Contains_int r.all i false (by omega)) rfl ?_
   conv=>whnf
   repeat(refine VC.mk id ?_; conv=>whnf)
   refine⟨fun h5=>?_,fun h5=>?_⟩
   ·replace h5:(decide (0<c.getD i 0)&&decide (0<(r.all.length:Int))&& !(yR r.all i))=true:=h5
    rw[hp,Bool.and_assoc,Bool.and_eq_true] at h5
    conv=>whnf
    exact ak.bool (by rw[xg,OX hi' (by simpa using h5.1) h5.2]; rfl)
   ·replace h5:(decide (0<c.getD i 0)&&decide (0<(r.all.length:Int))&& !(yR r.all i))=false:=h5
    rw[hp,Bool.and_assoc] at h5
    conv=>whnf
    refine .mk (by simp only[okI] at *; first|omega|(simp_all; done)|(simp_all; omega)) ?_
    conv=>whnf
    refine⟨i+1,⟨by omega,by rw[Ib,hall]; exact h5⟩,by omega,⟨⟨_,rfl,rfl⟩,⟨_,rfl,?_⟩,trivial⟩,?_,rfl⟩
    ·rw[Ic,h4]; simp[V.aG,qZ]
    ·repeat' (first|exact trivial|exact⟨_,rfl,rfl⟩|constructor)
  ·replace h4:(decide (0<c.getD i 0)&&yR r.ex i)=false:=h4
   rw[hp] at h4
   conv=>whnf
   repeat(refine VC.mk (by first|exact id|exact fun h=>⟨h,h⟩) ?_; conv=>whnf)
   refine ah.gG (fun _=>S.slices_Contains_int r.all i false (by omega)) rfl ?_
   conv=>whnf
   repeat(refine VC.mk id ?_; conv=>whnf)
   refine⟨fun h5=>?_,fun h5=>?_⟩
   ·replace h5:(decide (0<c.getD i 0)&&decide (0<(r.all.length:Int))&& !(yR r.all i))=true:=h5
    rw[hp,Bool.and_assoc,Bool.and_eq_true] at h5
    conv=>whnf
    exact ak.bool (by rw[xg,OX hi' (by simpa using h5.1) h5.2]; rfl)
   ·replace h5:(decide (0<c.getD i 0)&&decide (0<(r.all.length:Int))&& !(yR r.all i))=false:=h5
    rw[hp,Bool.and_assoc] at h5
    conv=>whnf
    refine .mk (by simp only[okI] at *; first|omega|(simp_all; done)|(simp_all; omega)) ?_
    conv=>whnf
    refine⟨i+1,⟨by omega,by rw[Ib,hall]; exact h5⟩,by omega,⟨⟨_,rfl,rfl⟩,⟨_,rfl,?_⟩,trivial⟩,?_,rfl⟩
    ·rw[Ic,h4]; simp[V.aG]
    ·repeat' (first|exact trivial|exact⟨_,rfl,rfl⟩|constructor)
 ·have hi':c.length<=i:=by simpa using h3
  have e:i=c.length:=Nat.le_antisymm hi hi'
  subst e
  conv=>whnf
  exact ak.bool (by rw[xg,hall]; rfl)
set_option maxHeartbeats 1000000 in
theorem S.rH(r:Rule)(e:Elem)(hr:xk r)(hp:zN e.counts.length r)(hc:F7 e.counts)(hl:e.counts.length<=6):aj Tryz.prog 80 [.dat (.rule r),.dat (.elem e)] (gY r e):=by
 obtain⟨f1,f2⟩:=hp.src
 obtain⟨d1,d2⟩:=hp.dst
 obtain⟨p1,p2⟩:=hp.aaI
 obtain⟨q1,q2⟩:=hp.aaJ
 have hfr:=hc.get (i:=r.fr.toNat) (by omega)
 refine aj.of Bd.rH (by simp) rfl (Ie r e) ?_
 conv=>whnf
 repeat(refine VC.mk (by first|exact id|exact fun h=>⟨h,h⟩|(intro h; rw[h]; rfl)|(intro h; (repeat' apply And.intro)<;>first|exact h|omega|(simp only[Rw.pq]; omega)|(simp only[Rw.rng]; omega))) ?_; conv=>whnf)
 refine⟨fun h1=>?_,fun h1=>?_⟩
 ·have h1':(decide (0<=r.read)&&e.value !=r.read||e.counts.getD r.fr.toNat 0==0)=true:=by rw[bne_comm]; exact h1
  conv=>whnf
  refine ak.eqv ?_
  rw[gY,gJ,h1']; rfl
 have h1':(decide (0<=r.read)&&e.value !=r.read||e.counts.getD r.fr.toNat 0==0)=false:=by rw[bne_comm]; exact h1
 conv=>whnf
 refine Ig.row (r:=.ints e.counts) (S.RI e.counts false (by omega) (by omega)) ?_
 have hl1:(aQ e.counts r.fr).length=e.counts.length:=by simp[aQ]
 conv=>whnf
 repeat(refine VC.mk (by first|(simp only[Rw.rng]; omega)|(simp only[okI,aQ] at *; omega)) ?_; conv=>whnf)
 have hpos: ∀ i,0<=(aQ e.counts r.fr).getD i 0:=Uk hc h1'
 have hB:=hc.b.dec (by omega) r.fr
 refine⟨fun h2=>?_,fun h2=>?_⟩
 ·replace h2:(r.kind==1)=true:=h2
  have hBt:=hB.get (by omega) r.to.toNat
  conv=>whnf
  refine ah.lend (S.nJ r (aQ e.counts r.fr) false hr (by omega) hpos) (And.intro (dS _) (And.intro (Ih trivial rfl) trivial)) rfl rfl ?_
  conv=>whnf
  refine⟨fun h5=>?_,fun h5=>?_⟩
  ·replace h5:(!(xg r (aQ e.counts r.fr)))=true:=h5
   conv=>whnf
   refine ak.eqv ?_
   rw[gY,gJ,h1',h2,h5]; rfl
  replace h5:(!(xg r (aQ e.counts r.fr)))=false:=h5
  conv=>whnf
  repeat(refine VC.mk (by first|(simp only[Rw.rng,List.length_set]; omega)|(simp only[okI,aQ] at *; omega)) ?_; conv=>whnf)
  refine⟨fun h4=>?_,fun h4=>?_⟩
  ·replace h4:decide (r.write>=0)=true:=h4
   have hS:gY r e= .fJ [.dat (.elem ⟨r.write,gX (aQ e.counts r.fr) r.to 1⟩),.bool true]:=by rw[gY,gJ,h1',h2,h5,h4]; rfl
   conv=>whnf
   rw[hS]
   exact ak.wH rfl
  ·replace h4:decide (r.write>=0)=false:=h4
   have hS:gY r e= .fJ [.dat (.elem ⟨e.value,gX (aQ e.counts r.fr) r.to 1⟩),.bool true]:=by rw[gY,gJ,h1',h2,h5,h4]; rfl
   conv=>whnf
   rw[hS]
   exact ak.wH rfl
 replace h2:(r.kind==1)=false:=h2
 conv=>whnf
 refine⟨fun h3=>?_,fun h3=>?_⟩
 ·replace h3:(r.kind==2)=true:=h3
  have hB1:=hB.get (by omega) r.gI.toNat
  have hB2:=hB.dec (by omega) r.gI
  have hB3:=hB2.get (by omega) r.AO.toNat
  have hB4:=hB2.add (by omega) r.AO 1 (k:=1) ⟨by omega,by omega⟩
  have hB5:=hB4.get (by omega) r.to.toNat
  conv=>whnf
  repeat(refine VC.mk (by first|(simp only[Rw.rng,List.length_set]; omega)|(simp only[aQ,gX] at *; omega)) ?_; conv=>whnf)
  refine⟨fun h6=>?_,fun h6=>?_⟩
  ·replace h6:((aQ e.counts r.fr).getD r.gI.toNat 0==0)=true:=h6
   conv=>whnf
   refine ak.eqv ?_
   rw[gY,gJ,h1',h2,h3,h6]; rfl
  replace h6:((aQ e.counts r.fr).getD r.gI.toNat 0==0)=false:=h6
  conv=>whnf
  repeat(refine VC.mk (by first|(simp only[Rw.rng,List.length_set]; omega)|(simp only[okI,aQ,gX] at *; omega)) ?_; conv=>whnf)
  refine⟨fun h4=>?_,fun h4=>?_⟩
  ·replace h4:decide (r.write>=0)=true:=h4
   have hS:gY r e= .fJ [.dat (.elem ⟨r.write,gX (gX (aQ (aQ e.counts r.fr) r.gI) r.AO 1) r.to 1⟩),.bool true]:=by rw[gY,gJ,h1',h2,h3,h6,h4]; rfl
   conv=>whnf
   rw[hS]
   exact ak.wH rfl
  ·replace h4:decide (r.write>=0)=false:=h4
   have hS:gY r e= .fJ [.dat (.elem ⟨e.value,gX (gX (aQ (aQ e.counts r.fr) r.gI) r.AO 1) r.to 1⟩),.bool true]:=by rw[gY,gJ,h1',h2,h3,h6,h4]; rfl
   conv=>whnf
   rw[hS]
   exact ak.wH rfl
 replace h3:(r.kind==2)=false:=h3
 conv=>whnf
 refine⟨fun h6=>?_,fun h6=>?_⟩
 ·replace h6:(r.kind==3)=true:=h6
  obtain⟨rs1,rs2⟩:=hp.rsp (beq_iff_eq.1 h6)
  conv=>whnf
  have hm:=DC (n:=(aQ e.counts r.fr).length) (by omega)
  simp only[aQ] at hm
  rw[hm]
  conv=>whnf
  refine .mk (by simp only[List.length_set]; omega) ?_
  conv=>whnf
  refine aI.qg 100 [2,4,6,83,84] (fun i:Nat=>[(85,.int i)]) (fun i=>[(0,.box 71 19 (.dat (.rule r))),(1,.box 50 3 (.dat (.elem e))),(2,.box 50 3 (.agg [.int 0,.row 0 true .nil])),(27,xJ (aQ e.counts r.fr)),(29,.box 50 3 (.agg [.int e.value,.own 52])),(52,xJ (oK r (aQ e.counts r.fr) i))]) (fun i=>i<=(aQ e.counts r.fr).length) (fun i=>(aQ e.counts r.fr).length-i) 0 [0,1,2,27,29,52] rfl (by decide) (fun _=>rfl) (Nat.zero_le _) ?_ ?_ ?_
  ·exact⟨⟨_,rfl,.eq rfl⟩,trivial⟩
  ·exact⟨okF rfl nofun rfl rfl rfl ⟨rfl,rfl⟩ rfl,okF rfl nofun rfl rfl rfl ⟨rfl,rfl⟩ rfl,okF rfl nofun rfl rfl rfl ⟨rfl,rfl⟩ rfl,okF rfl nofun rfl rfl rfl ⟨rfl,rfl⟩ rfl,⟨rfl,nofun,rfl,rfl,_,rfl,rfl,rfl,dQ.of_eq rfl⟩,okF rfl nofun rfl rfl rfl ⟨rfl,rfl⟩ rfl,trivial⟩
  conv=>whnf
  refine⟨⟨⟨_,rfl,.eq rfl⟩,⟨_,rfl,.eq rfl⟩,⟨_,rfl,.eq rfl⟩,⟨_,rfl,.eq rfl⟩,⟨_,rfl,.eq rfl⟩,trivial⟩,rfl,?_⟩
  rintro i hi
  have hn6:(i:Int)*1048577<=6*1048577:=Int.mul_le_mul_of_nonneg_right (by omega) (by omega)
  have hn0:0<=(i:Int)*1048577:=Int.mul_nonneg (by omega) (by omega)
  have hRB:=XO hB (by omega) (r:=r) i
  have hRl:(oK r (aQ e.counts r.fr) i).length=e.counts.length:=by rw[qH,hl1]
  conv=>whnf
  refine⟨fun g1=>?_,fun g1=>?_⟩
  ·have hi':i<(aQ e.counts r.fr).length:=by
    have:(i:Int)<((aQ e.counts r.fr).length:Int):=of_decide_eq_true g1
    omega
   have hir:i<r.response.length:=by omega
   obtain⟨q3,q4⟩:0<=r.response.getD i 0/\r.response.getD i 0<e.counts.length:=by
    rw[show r.response.getD i 0=r.response[i] by simp[hir]]; exact rs2 _ (List.getElem_mem hir)
   have hR1:=hRB.get hn0 (r.response.getD i 0).toNat
   have hR2:=hB.get (by omega) i
   conv=>whnf
   repeat(refine VC.mk (by first|(first|(simp only[Rw.rng,qH]; omega)|(simp only[okI,aQ,Int.toNat_natCast] at *; omega))|(simp only[Rw.rng] at *; first|omega|(simp_all; done)|(simp_all; omega))) ?_; conv=>whnf)
   refine⟨i+1,[0,1,2,27,29,52],by omega,by omega,⟨⟨_,rfl,.eq rfl⟩,trivial⟩,⟨⟨_,rfl,.eq rfl⟩,⟨_,rfl,.eq rfl⟩,⟨_,rfl,.eq rfl⟩,⟨_,rfl,.eq rfl⟩,⟨_,rfl,.eq rfl⟩,trivial⟩,okF rfl nofun rfl rfl rfl ⟨rfl,rfl⟩ rfl,okF rfl nofun rfl rfl rfl ⟨rfl,rfl⟩ rfl,okF rfl nofun rfl rfl rfl ⟨rfl,rfl⟩ rfl,okF rfl nofun rfl rfl rfl ⟨rfl,rfl⟩ rfl,⟨rfl,nofun,rfl,rfl,_,rfl,rfl,rfl,dQ.of_eq rfl⟩,okF rfl nofun rfl rfl rfl ?_ ?_,trivial⟩
   ·exact⟨rfl,rfl⟩
   ·rw[uK]; rfl
  have hi':i=(aQ e.counts r.fr).length:=by
   have: ¬ ((i:Int)<((aQ e.counts r.fr).length:Int)):=of_decide_eq_false g1
   omega
  subst hi'
  have hR1:=hRB.get hn0 r.to.toNat
  conv=>whnf
  repeat(refine VC.mk (by first|(simp only[Rw.rng,qH]; omega)|(simp only[okI,aQ,Int.toNat_natCast] at *; omega)) ?_; conv=>whnf)
  refine⟨fun h4=>?_,fun h4=>?_⟩
  ·replace h4:decide (r.write>=0)=true:=h4
   have hS:gY r e= .fJ [.dat (.elem ⟨r.write,gX (oK r (aQ e.counts r.fr) (aQ e.counts r.fr).length) r.to 1⟩),.bool true]:=by rw[gY,gJ,h1',h2,h3,h6,h4]; rfl
   conv=>whnf
   rw[hS]
   exact ak.wH rfl
  ·replace h4:decide (r.write>=0)=false:=h4
   have hS:gY r e= .fJ [.dat (.elem ⟨e.value,gX (oK r (aQ e.counts r.fr) (aQ e.counts r.fr).length) r.to 1⟩),.bool true]:=by rw[gY,gJ,h1',h2,h3,h6,h4]; rfl
   conv=>whnf
   rw[hS]
   exact ak.wH rfl
 replace h6:(r.kind==3)=false:=h6
 have hBt:=hB.get (by omega) r.to.toNat
 conv=>whnf
 repeat(refine VC.mk (by first|(simp only[Rw.rng,List.length_set]; omega)|(simp only[okI,aQ] at *; omega)) ?_; conv=>whnf)
 refine⟨fun h4=>?_,fun h4=>?_⟩
 ·replace h4:decide (r.write>=0)=true:=h4
  have hS:gY r e= .fJ [.dat (.elem ⟨r.write,gX (aQ e.counts r.fr) r.to 1⟩),.bool true]:=by rw[gY,gJ,h1',h2,h3,h6,h4]; rfl
  conv=>whnf
  rw[hS]
  exact ak.wH rfl
 ·replace h4:decide (r.write>=0)=false:=h4
  have hS:gY r e= .fJ [.dat (.elem ⟨e.value,gX (aQ e.counts r.fr) r.to 1⟩),.bool true]:=by rw[gY,gJ,h1',h2,h3,h6,h4]; rfl
  conv=>whnf
  rw[hS]
  exact ak.wH rfl
abbrev jL(l:List (List Int)):OV:=.row 24 0 (.jr l) []
theorem Vz(l:List (List Int)):T.bC (l.map Go.Ab.ints)=true:=by
 rw[fZ]; intro t ht; obtain⟨x,_,rfl⟩:=List.mem_map.1 ht; rfl
theorem RJ{h:Hz}{j:Nat}{Z:Nat->Prop}{l:List (List Int)}(hz:Z j)(q:h.get j=some (jL l)):T.sub Z h.ay (V.row 0 false (.jr l)).aG (V.own j).aG:=by
 show T.sub Z h.ay (.sl 0 false (l.map Go.Ab.ints)) (.own j)
 simp only[T.sub]
 refine⟨trivial,hz,Vz l,by decide,24,?_⟩
 have:=aV q; simpa [OV.aF,Rw.bn,V.bn] using this
theorem ak.aeT{h:Hz}{j:Nat}{l:List (List Int)}(q:h.get j=some (jL l)):ak (.row 0 false (.jr l)) (.own j) h:=⟨RJ trivial q⟩
theorem E5{Z:Nat->Prop}{h:Hz}{i j:Nat}{r:Rw}{l:List (List Int)}{c:List Int}(q:h.get i=some (.row 24 0 r [.own j]))(hr:r.bn=l.map Go.Ab.ints)(hi: ¬ Z i)(hz:Z j)(qj:h.get j=some (xJ c)) :
  ∃ o',h.get i=some o'/\ ¬ Z i/\o'.aF.ty=(jL (l++[c])).aF.ty/\o'.aF.k=(jL (l++[c])).aF.k/\T.dJ Z h.ay (jL (l++[c])).aF.l o'.aF.l/\(jL (l++[c])).aF.l.map T.kd=o'.aF.l.map T.kd/\(jL (l++[c])).aF.l.map gq=o'.aF.l.map gq:=by
 have e1:(jL (l++[c])).aF.l=r.bn++[Go.Ab.ints c]:=by rw[hr]; simp[OV.aF,Rw.bn,V.bn]
 refine⟨_,q,hi,rfl,rfl,?_,?_,?_⟩
 ·rw[e1]
  exact zQ (dU _) ⟨Ih hz qj,trivial⟩
 ·rw[e1]; show _=List.map T.kd (r.bn++[.own j])
  rw[List.map_append,List.map_append]; rfl
 ·rw[e1]; show _=List.map gq (r.bn++[.own j])
  rw[List.map_append,List.map_append]; rfl
theorem je{α:Type}{l:List α}{i:Nat}{d:α}(h:i<l.length):l.getD i d∈l:=by
 rw[List.getD_eq_getElem?_getD,List.getElem?_eq_getElem h]; exact List.getElem_mem h
def qI(N:List (List Int)):Nat->List (List Int)
 |0=>[[]]
 |i+1=>(qI N i).flatMap fun h=>(N.getD i []).map fun n=>h++[n]
def MR(N:List (List Int))(i a:Nat):List (List Int):=((qI N i).take a).flatMap fun h=>(N.getD i []).map fun n=>h++[n]
def GH(N:List (List Int))(i a b:Nat):List (List Int):=MR N i a++((N.getD i []).take b).map fun n=>(qI N i).getD a []++[n]
theorem VA{N:List (List Int)}{i a:Nat}(ha:a<(qI N i).length):MR N i (a+1)=GH N i a (N.getD i []).length:=by
 unfold MR GH
 have ht:(qI N i).take (a+1)=(qI N i).take a++[(qI N i).getD a []]:=by rw[List.take_add_one]; simp[ha]
 rw[ht,List.flatMap_append,List.take_length]; simp[MR]
theorem OY{N:List (List Int)}{i:Nat}:MR N i (qI N i).length=qI N (i+1):=by
 unfold MR; rw[List.take_length]; rfl
theorem VB{N:List (List Int)}{i a b:Nat}(hb:b<(N.getD i []).length):GH N i a (b+1)=GH N i a b++[(qI N i).getD a []++[(N.getD i []).getD b 0]]:=by
 unfold GH
 revert hb
 generalize N.getD i []=L
 intro hb
 have ht:L.take (b+1)=L.take b++[L.getD b 0]:=by rw[List.take_add_one]; simp[hb]
 rw[ht,List.map_append,<- List.append_assoc]; rfl
theorem DK{α β:Type}{f:α->List β}{k:Nat}: ∀ {l:List α},(∀ x∈l,(f x).length<=k)->(l.flatMap f).length<=l.length*k:=by
 intro l
 induction l with
 |nil=>intro _; simp
 |cons x r ih =>
  intro h
  rw[List.flatMap_cons,List.length_append,List.length_cons,Nat.succ_mul]
  have:=h x (by simp); have:=ih fun y hy=>h y (by simp[hy]); omega
def Ci(N:List (List Int)):Prop:= ∀ i,(N.getD i []).length<=3
theorem OZ{N:List (List Int)}(hN:Ci N){i a:Nat}(ha:a<=(qI N i).length):(MR N i a).length<=a*3:=by
 have:=DK (l:=(qI N i).take a) (f:=fun h=>(N.getD i []).map fun n=>h++[n]) (k:=3) (fun x _=>by rw[List.length_map]; exact hN i)
 rw[List.length_take,Nat.min_eq_left ha] at this
 exact this
theorem aaL{N:List (List Int)}(hN:Ci N): ∀ {i:Nat},(qI N i).length<=3^i:=by
 intro i
 induction i with
 |zero=>exact Nat.le_refl _
 |succ i ih =>
  have:=OZ hN (Nat.le_refl (qI N i).length)
  rw[OY] at this
  rw[Nat.pow_succ]; omega
theorem MS{N:List (List Int)}: ∀ {i:Nat} {c:List Int},c∈qI N i->c.length=i:=by
 intro i
 induction i with
 |zero=>intro c h; simp[qI] at h; rw[h]; rfl
 |succ i ih =>
  intro c h
  simp only[qI,List.mem_flatMap,List.mem_map] at h
  obtain⟨x,hx,n,_,rfl⟩:=h
  rw[List.length_append,ih hx]; rfl
theorem Ul{N:List (List Int)}(hN:Ci N){i:Nat}(hi:i<=6):(qI N i).length<=729:=by
 have h1:=aaL hN (i:=i)
 have h2:3^i<=3^6:=Nat.pow_le_pow_right (by decide) hi
 have h3:3^6=729:=by decide
 omega
def DL(v:Int)(l:List (List Int)):List Elem:=(l.map fun c=>(⟨v,c⟩:Elem)).filter fun e=>decide (0<sS e)
def mG(v:Int)(N:List (List Int)):List Elem:=DL v (qI N N.length)
theorem VD{v:Int}{l:List (List Int)}{a:Nat}(ha:a<l.length):DL v (l.take (a+1))=DL v (l.take a)++(if decide (0<sS ⟨v,l.getD a []⟩)=true then [⟨v,l.getD a []⟩] else []):=by
 unfold DL
 have ht:l.take (a+1)=l.take a++[l.getD a []]:=by rw[List.take_add_one]; simp[ha]
 rw[ht,List.map_append,List.filter_append]
 by_cases h:decide (0<sS ⟨v,l.getD a []⟩)=true
 ·rw[if_pos h]; simp only[List.map_cons,List.map_nil,List.filter_cons,h,if_true,List.filter_nil]
 ·rw[if_neg h]; simp only[List.map_cons,List.map_nil,List.filter_cons,h,Bool.false_eq_true,if_false,List.filter_nil]
theorem O1{v:Int}{l:List (List Int)}:(DL v l).length<=l.length:=by
 unfold DL
 have:=List.length_filter_le (fun e=>decide (0<sS e)) (l.map fun c=>(⟨v,c⟩:Elem))
 rwa [List.length_map] at this
theorem aaM:dQ [T.sl 0 false []] [T.sl 0 true []]:=by
 intro Z h; simp[T.dJ,T.sub]
set_option maxHeartbeats 1000000 in
theorem S.JW(v:Int)(N:List (List Int))(f:Bool)(hN6:N.length<=6)(hN:Ci N)(n:Nat):aO Tryz.prog 120 (V.bn [.int v,.row 0 f (.jr N)]) (Hz.ay []) n (fun t hp=>t= .own n/\hp=Hz.ay [(n,some (eP (mG v N)))]):=by
 refine oL.of (nx:=0) Bd.kN (by simp) ⟨_,_,rfl,rfl⟩ rfl rfl ?_
 conv=>whnf
 refine aI.qg 1 [0,18,19] (fun i:Nat=>[(20,.int i),(5,.own 0)]) (fun i=>[(0,jL (qI N i))]) (fun i=>i<=N.length) (fun i=>N.length-i) 0 [1] rfl (by decide) (fun _=>rfl) (Nat.zero_le _) ?_ ?_ ?_
 ·exact⟨⟨_,rfl,.eq rfl⟩,⟨_,rfl,.eq rfl⟩,trivial⟩
 ·exact⟨⟨rfl,nofun,rfl,rfl,_,rfl,rfl,rfl,aaM⟩,trivial⟩
 conv=>whnf
 refine⟨⟨⟨_,rfl,.eq rfl⟩,⟨_,rfl,.eq rfl⟩,⟨_,rfl,.eq rfl⟩,trivial⟩,rfl,?_⟩
 rintro i hi
 have hcap:=Ul hN (i:=i) (by omega)
 have h3:=hN i
 conv=>whnf
 refine⟨fun h1=>?_,fun h1=>?_⟩
 ·have hi':i<N.length:=by simpa using h1
  conv=>whnf
  refine .mk (by simp only[Rw.rng] at *; first|omega|(simp_all; done)|(simp_all; omega)) ?_
  conv=>whnf
  refine aI.nil 8 24 0 (by rfl) rfl rfl rfl ?_
  refine aI.qg 2 [0,7,18,19,20,24,25] (fun a:Nat=>[(26,.int a),(8,.own 1)]) (fun a=>[(0,jL (qI N i)),(1,jL (MR N i a))]) (fun a=>a<=(qI N i).length) (fun a=>(qI N i).length-a) 0 [0,9] rfl (by decide) (fun _=>rfl) (Nat.zero_le _) ?_ ?_ ?_
  ·exact⟨⟨_,rfl,.eq rfl⟩,⟨_,rfl,.eq rfl⟩,trivial⟩
  ·exact⟨okF rfl nofun rfl rfl rfl ⟨rfl,rfl⟩ rfl,okF rfl nofun rfl rfl rfl ⟨rfl,rfl⟩ rfl,trivial⟩
  conv=>whnf
  refine⟨⟨⟨_,rfl,.eq rfl⟩,⟨_,rfl,.eq rfl⟩,⟨_,rfl,.eq rfl⟩,⟨_,rfl,.eq rfl⟩,⟨_,rfl,.eq rfl⟩,⟨_,rfl,.eq rfl⟩,⟨_,rfl,.eq rfl⟩,trivial⟩,rfl,?_⟩
  rintro a ha
  have hA:=OZ hN ha
  conv=>whnf
  refine⟨fun h2=>?_,fun h2=>?_⟩
  ·have ha':a<(qI N i).length:=by simpa using h2
   have hcl:((qI N i).getD a []).length=i:=MS (je ha')
   conv=>whnf
   repeat(refine VC.mk (by simp only[Rw.rng] at *; first|omega|(simp_all; done)|(simp_all; omega)) ?_; conv=>whnf)
   refine aI.Um 2 [0,7,10,18,19,20,24,25,26,30,31] (fun b:Nat=>[(32,.int b),(8,.own 1)]) (fun b=>[(0,jL (qI N i)),(1,jL (GH N i a b))]) (fun b=>b<=(N.getD i []).length) (fun b=>(N.getD i []).length-b) 0 [0,1] [(0,some (jL (qI N i))),(1,some (jL (MR N i a)))] rfl (by decide) (fun _=>rfl) (Nat.zero_le _) ?_ ?_ ?_ ?_
   ·exact⟨⟨_,rfl,.eq rfl⟩,⟨_,rfl,.eq rfl⟩,trivial⟩
   ·exact⟨fun _=>False,mJ (Z:=fun _=>False) rfl (fun q=>q),mJ (Z:=fun _=>False) rfl (fun q=>q),trivial⟩
   ·exact⟨okF rfl nofun rfl rfl rfl ⟨rfl,rfl⟩ rfl,okF rfl nofun rfl rfl rfl ⟨rfl,rfl⟩ (by simp[GH]),trivial⟩
   conv=>whnf
   refine⟨⟨⟨_,rfl,.eq rfl⟩,⟨_,rfl,.eq rfl⟩,⟨_,rfl,.eq rfl⟩,⟨_,rfl,.eq rfl⟩,⟨_,rfl,.eq rfl⟩,⟨_,rfl,.eq rfl⟩,⟨_,rfl,.eq rfl⟩,⟨_,rfl,.eq rfl⟩,⟨_,rfl,.eq rfl⟩,⟨_,rfl,.eq rfl⟩,⟨_,rfl,.eq rfl⟩,trivial⟩,rfl,?_⟩
   rintro b hb
   have hB:(GH N i a b).length<=729*3+3:=by
    unfold GH; rw[List.length_append,List.length_map,List.length_take]; omega
   conv=>whnf
   refine⟨fun h4=>?_,fun h4=>?_⟩
   ·have hb':b<(N.getD i []).length:=by simpa using h4
    conv=>whnf
    repeat(refine VC.mk (by first|(simp only[Rw.rng,Int.toNat_natCast]; omega)|(simp only[Rw.pq]; omega)) ?_; conv=>whnf)
    rw[show decide (((((qI N i).getD (a:Int).toNat []).length:Int))=(((qI N i).getD (a:Int).toNat []).length:Int))=true from decide_eq_true rfl]
    conv=>whnf
    refine aaN.one ⟨.inr (Nat.zero_lt_succ _),?_⟩ ?_
    ·show(Rw.len (Rw.take _ _)+1)*8<=140737488355328/\Rw.len (Rw.take _ _)+1<=1152921504606846976
     rw[Rw.XP]; simp only[Rw.len,Int.toNat_natCast]; omega
    conv=>whnf
    repeat(refine VC.mk (by first|(show((GH N i a b).length+(0+1))*24<=140737488355328/\(GH N i a b).length+(0+1)<=1152921504606846976; omega)|(simp only[okI] at *; first|omega|(simp_all; done)|(simp_all; omega))) ?_; conv=>whnf)
    refine⟨[(0,some (jL (qI N i))),(17,some (jL (GH N i a b++[((qI N i).getD a []).take ((((qI N i).getD a []).length:Int).toNat)++[(N.getD i []).getD b 0]])))],b+1,[0,17],⟨fun i=>i=15,mJ (Z:=fun i=>i=15) (i:=0) rfl (by decide),E5 (Z:=fun i=>i=15) (i:=17) (j:=15) rfl rfl (by decide) rfl rfl,trivial⟩,by omega,by omega,⟨⟨_,rfl,.eq rfl⟩,⟨_,rfl,.eq rfl⟩,trivial⟩,⟨⟨_,rfl,.eq rfl⟩,⟨_,rfl,.eq rfl⟩,⟨_,rfl,.eq rfl⟩,⟨_,rfl,.eq rfl⟩,⟨_,rfl,.eq rfl⟩,⟨_,rfl,.eq rfl⟩,⟨_,rfl,.eq rfl⟩,⟨_,rfl,.eq rfl⟩,⟨_,rfl,.eq rfl⟩,⟨_,rfl,.eq rfl⟩,⟨_,rfl,.eq rfl⟩,trivial⟩,okF rfl nofun rfl rfl rfl ⟨rfl,rfl⟩ rfl,okF rfl nofun rfl rfl rfl ⟨rfl,rfl⟩ ?_,trivial⟩
    rw[VB hb',Int.toNat_natCast,List.take_length]
   ·have hb':b=(N.getD i []).length:=by
     have: ¬ ((b:Int)<((N.getD i []).length:Int)):=of_decide_eq_false h4
     omega
    subst hb'
    rw[<- VA ha']
    conv=>whnf
    refine .mk (by simp only[okI] at *; first|omega|(simp_all; done)|(simp_all; omega)) ?_
    conv=>whnf
    refine⟨a+1,[0,1],by omega,by omega,⟨⟨_,rfl,.eq rfl⟩,⟨_,rfl,.eq rfl⟩,trivial⟩,⟨⟨_,rfl,.eq rfl⟩,⟨_,rfl,.eq rfl⟩,⟨_,rfl,.eq rfl⟩,⟨_,rfl,.eq rfl⟩,⟨_,rfl,.eq rfl⟩,⟨_,rfl,.eq rfl⟩,⟨_,rfl,.eq rfl⟩,trivial⟩,okF rfl nofun rfl rfl rfl ⟨rfl,rfl⟩ rfl,okF rfl nofun rfl rfl rfl ⟨rfl,rfl⟩ rfl,trivial⟩
  ·have ha':a=(qI N i).length:=by
    have: ¬ ((a:Int)<((qI N i).length:Int)):=of_decide_eq_false h2
    omega
   subst ha'
   rw[OY]
   conv=>whnf
   refine .mk (by simp only[okI] at *; first|omega|(simp_all; done)|(simp_all; omega)) ?_
   conv=>whnf
   refine⟨i+1,[1],by omega,by omega,⟨⟨_,rfl,.eq rfl⟩,⟨_,rfl,.eq rfl⟩,trivial⟩,⟨⟨_,rfl,.eq rfl⟩,⟨_,rfl,.eq rfl⟩,⟨_,rfl,.eq rfl⟩,trivial⟩,okF rfl nofun rfl rfl rfl ⟨rfl,rfl⟩ rfl,trivial⟩
 ·have hi':i=N.length:=by
   have: ¬ ((i:Int)<(N.length:Int)):=of_decide_eq_false h1
   omega
  subst hi'
  conv=>whnf
  refine aI.nil 13 50 3 (by rfl) rfl rfl rfl ?_
  refine aI.qg 2 [0,52,53] (fun a:Nat=>[(54,.int a),(13,.own 1)]) (fun a=>[(0,jL (qI N N.length)),(1,eP (DL v ((qI N N.length).take a)))]) (fun a=>a<=(qI N N.length).length) (fun a=>(qI N N.length).length-a) 0 [0,6] rfl (by decide) (fun _=>rfl) (Nat.zero_le _) ?_ ?_ ?_
  ·exact⟨⟨_,rfl,.eq rfl⟩,⟨_,rfl,.eq rfl⟩,trivial⟩
  ·exact⟨okF rfl nofun rfl rfl rfl ⟨rfl,rfl⟩ rfl,okF rfl nofun rfl rfl rfl ⟨rfl,rfl⟩ rfl,trivial⟩
  conv=>whnf
  refine⟨⟨⟨_,rfl,.eq rfl⟩,⟨_,rfl,.eq rfl⟩,⟨_,rfl,.eq rfl⟩,trivial⟩,rfl,?_⟩
  rintro a ha
  have hkl:=O1 (v:=v) (l:=(qI N N.length).take a)
  rw[List.length_take] at hkl
  conv=>whnf
  refine⟨fun h2=>?_,fun h2=>?_⟩
  ·have ha':a<(qI N N.length).length:=by simpa using h2
   have hcl:((qI N N.length).getD a []).length=N.length:=MS (je ha')
   have hn:=VD (v:=v) ha'
   conv=>whnf
   repeat(refine VC.mk (by simp only[Rw.rng] at *; first|omega|(simp_all; done)|(simp_all; omega)) ?_; conv=>whnf)
   refine ah.pure (S.kL ⟨v,(qI N N.length).getD a []⟩ (by show((qI N N.length).getD a []).length<_; omega)) rfl ?_
   conv=>whnf
   refine⟨fun h3=>?_,fun h3=>?_⟩
   ·rw[if_pos h3] at hn
    conv=>whnf
    repeat(refine VC.mk (by first|(show((DL v ((qI N N.length).take a)).length+(0+1))*32<=140737488355328/\(DL v ((qI N N.length).take a)).length+(0+1)<=1152921504606846976; omega)|(simp only[okI] at *; first|omega|(simp_all; done)|(simp_all; omega))) ?_; conv=>whnf)
    refine⟨a+1,[0,17],by omega,by omega,⟨⟨_,rfl,.eq rfl⟩,⟨_,rfl,.eq rfl⟩,trivial⟩,⟨⟨_,rfl,.eq rfl⟩,⟨_,rfl,.eq rfl⟩,⟨_,rfl,.eq rfl⟩,trivial⟩,okF rfl nofun rfl rfl rfl ⟨rfl,rfl⟩ rfl,okF rfl nofun rfl rfl rfl ⟨rfl,rfl⟩ ?_,trivial⟩
    rw[hn]
    show List.map dZ (DL v (List.take a (qI N N.length))++[⟨v,(qI N N.length).getD a []⟩])++[]=List.map dZ (DL v (List.take a (qI N N.length)))++[dZ ⟨v,(qI N N.length).getD a []⟩]
    simp
   ·rw[if_neg (by rw[h3]; decide),List.append_nil] at hn
    conv=>whnf
    refine .mk (by simp only[okI] at *; first|omega|(simp_all; done)|(simp_all; omega)) ?_
    conv=>whnf
    refine⟨a+1,[0,1],by omega,by omega,⟨⟨_,rfl,.eq rfl⟩,⟨_,rfl,.eq rfl⟩,trivial⟩,⟨⟨_,rfl,.eq rfl⟩,⟨_,rfl,.eq rfl⟩,⟨_,rfl,.eq rfl⟩,trivial⟩,okF rfl nofun rfl rfl rfl ⟨rfl,rfl⟩ rfl,okF rfl nofun rfl rfl rfl ⟨rfl,rfl⟩ (by rw[hn]),trivial⟩
  ·have ha':(qI N N.length).length<=a:=by simpa using h2
   rw[List.take_of_length_le ha']
   conv=>whnf
   exact nC.one (c:=n) (j:=1) (o:=eP (mG v N)) (t:=.own n) rfl rfl rfl nofun (.inr rfl) rfl (.eq rfl) ⟨rfl,rfl⟩
theorem S.kN(v:Int)(N:List (List Int))(f:Bool)(hN6:N.length<=6)(hN:Ci N):qY Tryz.prog 120 (V.bn [.int v,.row 0 f (.jr N)]) (fun n=>.own n) (some ⟨50,3,(Rw.elems (mG v N)).bn⟩):=by
 refine⟨rfl,fun n=>rfl,fun ob h=>?_,fun ob h=>?_,fun n=>?_⟩
 ·cases h; exact rG _
 ·cases h; exact show(3:Nat)≠dI by decide
 ·have:=S.JW v N f hN6 hN n
  have e1:Hz.ay [(n,some (eP (mG v N)))]=fU no n (some ⟨50,3,(Rw.elems (mG v N)).bn⟩):=by
   rw[bQ]; simp[fU,OV.aF,V.bn]; rfl
  rw[e1] at this
  exact this
theorem S.kP(a b:Elem)(ha:a.counts.length<2^40)(hb:b.counts.length<2^40):aj Tryz.prog 162 [.dat (.elem a),.dat (.elem b)] (.bool (decide (a=b))):=by
 refine aj.of Bd.kP (by simp) rfl rfl ?_
 conv=>whnf
 refine ah.pure (S.gu a b ha hb) rfl ?_
 conv=>whnf
 refine ak.bool ?_
 rw[Bool.eq_iff_iff]; simp only[decide_eq_true_eq,beq_iff_eq]
 exact ku.symm
theorem S.XQ(l:List Elem)(n:Nat)(hl:l.length<2^30)(hs:eH l) :
  aO Tryz.prog 161 (V.bn [.own 0,.fn 162 []]) (h1 l).ay n
   (fun t hp=>(rC l=l/\t= .own 0/\hp=(h1 l).ay)\/(∃ m,t= .kZ 0 0 (rC l).length/\hp=Hz.ay [(0,some (.row 50 3 (.elems (rC l)) (List.replicate m zeroV)))])):=by
 refine oL.of (nx:=1) Bd.aZ (by simp) ⟨_,_,.inr ⟨0,rfl,rfl⟩⟩ rfl rfl ?_
 conv=>whnf
 refine⟨fun h1=>?_,fun h1=>?_⟩
 ·conv=>whnf
  have hc:rC l=l:=by
   have h2:l.length<2:=by simp at h1; omega
   rw[rC,Ii (Nat.le_refl _) (fun i h3 h4=>by omega),List.take_length]
  exact nC.one (c:=0) (j:=0) (o:=eP l) (t:=.own 0) rfl rfl rfl (fun _=>rfl) (.inl rfl) rfl (.eq rfl) (.inl ⟨hc,rfl,rfl⟩)
 ·have h2:2<=l.length:=by simp at h1; omega
  conv=>whnf
  refine aI.same [0,1] (fun i:Nat=>[(5,.int i)]) (fun i=>1<=i/\i<=l.length/\ ∀ k,0<k->k<i->l.getD k default≠l.getD (k-1) default) (fun i=>l.length-i) 1 rfl (by decide) rfl (fun _=>rfl) ⟨by omega,by omega,fun k h3 h4=>by omega⟩ ⟨⟨_,rfl,rfl⟩,trivial⟩ ?_
  conv=>whnf
  refine⟨rfl,?_⟩
  rintro k ⟨hk0,hk,hne⟩
  have e1:((k:Int)-1).toNat=k-1:=by omega
  conv=>whnf
  refine⟨fun h3=>?_,fun h3=>?_⟩
  ·have hk':k<l.length:=by simpa using h3
   conv=>whnf
   repeat(refine VC.mk (by simp only[okI,Rw.rng]; omega) ?_; conv=>whnf)
   refine ah.pure (S.kP _ _ (hs.get _) (hs.get _)) rfl ?_
   conv=>whnf
   refine⟨fun h4=>?_,fun h4=>?_⟩
   ·have heq:l.getD k default=l.getD (k-1) default:=by
     rw[e1] at h4; simpa using h4
    have hdk:tY l k=l.take k:=Ii hk hne
    have adg:tY l (k+1)=l.take k:=by rw[O4 (by omega) heq,hdk]
    conv=>whnf
    refine .mk (by simp only[Rw.pq]; omega) ?_
    conv=>whnf
    refine aI.objs 1 [0,1,6] (fun j:Nat=>[(7,.int j),(5,.int (tY l (k+j)).length)]) (fun j=>[(0,eP (mid l (k+j)))]) (fun j=>1<=j/\k+j<=l.length/\(tY l (k+j)).length+1<=k+j) (fun j=>l.length-j) 1 [0] rfl (by decide) (fun _=>rfl) ⟨by omega,by omega,?_⟩ ?_ ?_ ?_
    ·rw[adg]; simp; omega
    ·refine⟨⟨_,rfl,.eq rfl⟩,⟨_,rfl,.eq ?_⟩,trivial⟩
     rw[adg]
     show T.int (((l.take k).length:Nat):Int)=T.int (k:Int)
     simp[Nat.min_eq_left hk]
    ·refine⟨⟨rfl,(fun _=>rfl),rfl,rfl,rfl,_,rfl,rfl,rfl,dQ.of_eq ?_⟩,trivial⟩
     have:mid l (k+1)=l:=by unfold mid; rw[adg]; simp[Nat.min_eq_left hk]
     rw[this]
    conv=>whnf
    refine⟨⟨⟨_,rfl,.eq rfl⟩,⟨_,rfl,.eq rfl⟩,⟨_,rfl,.eq rfl⟩,trivial⟩,rfl,?_⟩
    rintro j ⟨hj0,hj,hdl⟩
    have hml:=aaO hj
    have e2:((j:Int)-1).toNat=j-1:=by omega
    have hsm:eH (mid l (k+j)):=fun x hx=>by
     unfold mid at hx
     rcases List.mem_append.1 hx with hx|hx
     ·exact hs x (aaP hx hj)
     ·exact hs x (List.mem_of_mem_drop hx)
    conv=>whnf
    refine⟨fun h5=>?_,fun h5=>?_⟩
    ·have hj':k+j<l.length:=by
      have h6:j<l.length-k:=by
       have:(j:Int)<(((Rw.elems l).len-k:Nat):Int):=by simpa using h5
       have e3:(Rw.elems l).len=l.length:=rfl
       rw[e3] at this
       omega
      omega
     have g1:=Un (l:=l) (j:=k+j) (i:=k+j) (by omega)
     have g2:=Un (l:=l) (j:=k+j) (i:=k+(j-1)) (by omega)
     conv=>whnf
     repeat(refine VC.mk (by first|(simp only[okI]; omega)|(show _/\_<(((l.length-k:Nat)):Int); omega)|(simp only[Rw.rng,hml,Int.toNat_natCast,e2]; omega)|(show(0:Int)<=_/\_<((mid l (k+j)).length:Int); rw[hml]; simp only[Int.toNat_natCast,e2]; omega)) ?_; conv=>whnf)
     refine ah.pure (S.kP _ _ (hsm.get _) (hsm.get _)) rfl ?_
     simp only[Int.toNat_natCast,e2,g1,g2]
     conv=>whnf
     have e4:k+(j-1)=k+j-1:=by omega
     refine⟨fun h6=>?_,fun h6=>?_⟩
     ·have hne':l.getD (k+j) default≠l.getD (k+j-1) default:=by
       rw[e4] at h6; simpa using h6
      have hst:=aaQ hj' (.inr hne')
      have hd1:tY l (k+j+1)=tY l (k+j)++[l.getD (k+j) default]:=by simp only[tY]; rw[if_pos (.inr hne')]
      conv=>whnf
      repeat(refine VC.mk (by first|(simp only[okI]; omega)|(show _/\_<(((l.length-k:Nat)):Int); omega)|(simp only[Rw.rng,hml,Int.toNat_natCast]; omega)|(show(0:Int)<=_/\_<((mid l (k+j)).length:Int); rw[hml]; simp only[Int.toNat_natCast]; omega)) ?_; conv=>whnf)
      refine⟨j+1,[0],⟨by omega,by omega,?_⟩,by omega,⟨⟨_,rfl,.eq rfl⟩,⟨_,rfl,.eq ?_⟩,trivial⟩,⟨⟨_,rfl,.eq rfl⟩,⟨_,rfl,.eq rfl⟩,⟨_,rfl,.eq rfl⟩,trivial⟩,⟨rfl,(fun _=>rfl),rfl,rfl,rfl,_,rfl,rfl,rfl,dQ.of_eq ?_⟩,trivial⟩
      ·show(tY l (k+j+1)).length+1<=k+(j+1)
       rw[hd1]; simp; omega
      ·show T.int (((tY l (k+j+1)).length:Nat):Int)=T.int (((tY l (k+j)).length:Int)+1)
       rw[hd1]; simp
      ·show(eP (mid l (k+j+1))).aF.l=(OV.row 50 3 (.elems ((mid l (k+j)).set (((tY l (k+j)).length:Int)).toNat ((mid l (k+j)).getD ((k:Int).toNat+(j:Int).toNat) default))) []).aF.l
       simp only[Int.toNat_natCast,g1,hst]
     ·have heq':l.getD (k+j) default=l.getD (k+j-1) default:=by
       rw[e4] at h6; simpa using h6
      have hd1:tY l (k+j+1)=tY l (k+j):=O4 (by omega) heq'
      conv=>whnf
      refine .mk (by simp only[okI] at *; first|omega|(simp_all; done)|(simp_all; omega)) ?_
      conv=>whnf
      refine⟨j+1,[0],⟨by omega,by omega,?_⟩,by omega,⟨⟨_,rfl,.eq rfl⟩,⟨_,rfl,.eq ?_⟩,trivial⟩,⟨⟨_,rfl,.eq rfl⟩,⟨_,rfl,.eq rfl⟩,⟨_,rfl,.eq rfl⟩,trivial⟩,⟨rfl,(fun _=>rfl),rfl,rfl,rfl,_,rfl,rfl,rfl,dQ.of_eq ?_⟩,trivial⟩
      ·show(tY l (k+j+1)).length+1<=k+(j+1)
       rw[hd1]; omega
      ·show T.int (((tY l (k+j+1)).length:Nat):Int)=T.int ((tY l (k+j)).length:Int)
       rw[hd1]
      ·show(eP (mid l (k+j+1))).aF.l=(eP (mid l (k+j))).aF.l
       unfold mid; rw[hd1]
    ·have hj':k+j=l.length:=by
      have h6: ¬ (j:Int)<(((Rw.elems l).len-k:Nat):Int):=by simpa using h5
      have e3:(Rw.elems l).len=l.length:=rfl
      rw[e3] at h6
      omega
     have ag2:(tY l (k+j)).length<=l.length:=by have:=GV l (k+j); omega
     conv=>whnf
     repeat(refine VC.mk (by first|(simp only[Rw.pq,hml]; omega)|(refine⟨?_,rfl⟩; show((tY l (k+j)).length:Int).toNat<=(mid l (k+j)).length; rw[hml,Int.toNat_natCast]; omega)|(show(0:Int)<=((tY l (k+j)).length:Int)/\((tY l (k+j)).length:Int)<=(((mid l (k+j)).take ((tY l (k+j)).length:Int).toNat).length:Int); rw[List.length_take,hml,Int.toNat_natCast]; omega)|(show _<=(mid l (k+j)).length/\(mid l (k+j)).length=(mid l (k+j)).length; rw[hml]; simp only[Int.toNat_natCast]; omega)|(show(0:Int)<=_/\_<=(((mid l (k+j)).take _).length:Int); rw[List.length_take,hml]; simp only[Int.toNat_natCast]; omega)) ?_; conv=>whnf)
     have htk:(mid l (k+j)).take ((tY l (k+j)).length:Int).toNat=rC l:=by
      rw[Int.toNat_natCast]; unfold mid; rw[List.take_left,hj']; rfl
     have hcl:((tY l (k+j)).length:Int).toNat=(rC l).length:=by rw[Int.toNat_natCast,hj']; rfl
     refine nC.one (c:=0) (j:=0) (o:=.row 50 3 (.elems (rC l)) (List.replicate ((mid l (k+j)).length-((tY l (k+j)).length:Int).toNat) zeroV)) (t:=.kZ 0 0 (rC l).length) ?_ (O5 _ _ _) (MV _ _) (fun _=>rfl) (.inl rfl) rfl (.eq ?_) (.inr ⟨_,rfl,rfl⟩)
     ·rw[<- htk]; rfl
     ·rw[<- hcl]; rfl
   ·conv=>whnf
    refine .mk (by simp only[okI] at *; first|omega|(simp_all; done)|(simp_all; omega)) ?_
    conv=>whnf
    refine⟨k+1,⟨by omega,by omega,fun i h5 h6=>?_⟩,by omega,⟨⟨_,rfl,rfl⟩,trivial⟩,?_,rfl⟩
    ·by_cases e:i=k
     ·subst e; rw[e1] at h4; simpa using h4
     ·exact hne i h5 (by omega)
    ·repeat' (first|exact trivial|exact⟨_,rfl,rfl⟩|constructor)
  ·conv=>whnf
   have hk':l.length<=k:=by simpa using h3
   have hc:rC l=l:=by
    rw[rC,Ii (Nat.le_refl _) (fun i h3 h4=>hne i h3 (by omega)),List.take_length]
   exact nC.one (c:=0) (j:=0) (o:=eP l) (t:=.own 0) rfl rfl rfl (fun _=>rfl) (.inl rfl) rfl (.eq rfl) (.inl ⟨hc,rfl,rfl⟩)
theorem S.qh(l:List Elem)(n:Nat)(hl:l.length<2^30)(hs:eH l) :
  aO Tryz.prog 119 (V.bn [.own 0]) (h1 l).ay n
   (fun t hp=>(t= .own 0/\hp=(h1 (sV l)).ay)\/(∃ m,t= .kZ 0 0 (sV l).length/\hp=Hz.ay [(0,some (.row 50 3 (.elems (sV l)) (List.replicate m zeroV)))])):=by
 refine oL.of (nx:=1) Bd.qh (by simp) ⟨_,_,.inl ⟨rfl,rfl⟩⟩ rfl rfl ?_
 conv=>whnf
 refine ah.heap (S.SortFunc l _ hl hs) ?_
 rintro t hp ⟨rfl,rfl⟩
 refine⟨.fJ [],h1 (qJ l),rfl,rfl,?_⟩
 conv=>whnf
 refine ah.heap (S.XQ (qJ l) _ (by rw[E8]; exact hl) (O6 hs)) ?_
 rintro t hp (⟨hc,rfl,rfl⟩|⟨m,rfl,rfl⟩)
 ·refine⟨.own 0,h1 (qJ l),rfl,rfl,?_⟩
  conv=>whnf
  refine nC.one (c:=0) (j:=0) (o:=eP (qJ l)) (t:=.own 0) rfl rfl rfl (fun _=>rfl) (.inl rfl) rfl (.eq rfl) (.inl ⟨rfl,?_⟩)
  rw[sV,hc]
 ·refine⟨.kZ 0 0 (rC (qJ l)).length,[(0,some (.row 50 3 (.elems (rC (qJ l))) (List.replicate m zeroV)))],rfl,rfl,?_⟩
  conv=>whnf
  exact nC.one (c:=0) (j:=0) (o:=.row 50 3 (.elems (rC (qJ l))) (List.replicate m zeroV)) (t:=.kZ 0 0 (rC (qJ l)).length) rfl (O5 _ _ _) (MV _ _) (fun _=>rfl) (.inl rfl) rfl (.eq rfl) (.inr ⟨m,rfl,rfl⟩)
theorem ah.XR{h:Hz}{i n:Nat}{l:List Elem}{K:V->Hz->Prop}{KW:Nat->V->Hz->Prop}(hi:h.get i=some (eP l))(hn:h.get n=none)(hl:l.length<2^30)(hs:eH l)
  (h1:K (.own i) ((i,some (eP (sV l)))::h)) (h2: ∀ m,K (.kZ i 0 (sV l).length) ((i,some (.row 50 3 (.elems (sV l)) (List.replicate m zeroV)))::h)):ah Tryz.prog false none 119 [.own i] h n K KW:=by
 refine ah.XT (ts:=[.own 0]) (S.qh l 1 hl hs) rfl rfl rfl rfl hi hn ?_
 rintro t hp (⟨rfl,rfl⟩|⟨m,rfl,rfl⟩)
 ·exact .inl ⟨.own i,eP (sV l),rfl,rfl,rfl,h1⟩
 ·exact .inl ⟨.kZ i 0 _,.row 50 3 (.elems (sV l)) (List.replicate m zeroV),rfl,MV _ _,rfl,h2 m⟩
theorem ah.XU{P:Program}{f:FuncId}{args args':List V}{h h2:Hz}{n ty k:Nat}{r:Rw}{K:V->Hz->Prop}{KW:Nat->V->Hz->Prop}(Z:Nat->Prop)(F:XV Z h h2)(hs:T.dJ Z h.ay (V.bn args') (V.bn args))
  (H:qY P f (V.bn args') (fun n=>.own n) (some ⟨ty,k,r.bn⟩)) (hK:K (.own n) ((n,some (.row ty k r []))::h2)):ah P false none f args h n K KW:=by
 refine⟨.inl ?_⟩
 refine aO.frz Z (ts2:=V.bn args') (h2:=h2.ay) (aO.mono (qY.frame H h2.ay n) ?_) hs fun i ob hi=>?_
 ·rintro t hp ⟨rfl,rfl⟩
  exact⟨.own n,_,rfl,by rw[bQ]; simp[fU,OV.aF,V.bn],(fun e=>by cases e),hK⟩
 ·simp only[Hz.ay,Option.map_eq_some_iff] at hi
  obtain⟨o,e1,rfl⟩:=hi
  obtain⟨o',a1,a2,a3,a4,a5,a6,a7⟩:=O7 F e1
  exact⟨o'.aF,aV a1,a2,a3,a4,a5,a6,a7⟩
theorem XW{Z:Nat->Prop}{h:Hp}{t u:T}(hs:T.sub Z h t u): ∀ {a b:List T} {i:Nat},T.dJ Z h a b->T.dJ Z h (a.set i t) (b.set i u):=by
 intro a
 induction a with
 |nil=>intro b i q; cases b with
  |nil=>exact trivial
  |cons _ _=>exact q.elim
 |cons x r ih =>
  intro b i q
  cases b with
  |nil=>exact q.elim
  |cons y s =>
   cases i with
   |zero=>exact⟨hs,q.2⟩
   |succ i=>exact⟨q.1,ih q.2⟩
theorem O8(n:Nat):dQ ((List.replicate n ([]:List Int)).map Go.Ab.ints) (V.bn (List.replicate n (BD .nil))):=by
 intro Z h
 rw[jk,List.map_replicate,List.map_replicate]
 have:T.sub Z h (Go.Ab.ints []) (BD .nil).aG:=by simp[Go.Ab.ints,BD,V.aG,T.sub,Rw.bn]
 induction n with
 |zero=>trivial
 |succ n ih=>exact⟨this,ih⟩
theorem VE{Z:Nat->Prop}{h:Hp}(c:List Int):T.sub Z h (Go.Ab.ints c) (V.row 0 true (.ints c)).aG:=by simp[Go.Ab.ints,V.aG,Rw.bn,T.sub]
theorem MW(L:List (List Int))(i:Nat)(c:List Int):dQ ((L.set i c).map Go.Ab.ints) (V.bn ((Rw.vs (.jr L)).set i (.row 0 true (.ints c)))):=by
 intro Z h
 rw[jk,List.map_set,List.map_set,<- jk,Rw.RN]
 exact XW (VE c) (dU _)
theorem O9(L:List (List Int))(i:Nat)(b c:List Int):dQ ((L.set i c).map Go.Ab.ints) (V.bn (((Rw.vs (.jr L)).set i (.row 0 true (.ints b))).set i (.row 0 true (.ints c)))):=by
 rw[List.set_set]; exact MW L i c
theorem Pg{n:Nat}(h:0<n):(bif isZero (.int n) then some Rw.nil else XY (n:Int).toNat .nil)=none:=by
 cases n with
 |zero=>omega
 |succ n=>rfl
theorem okS{ρ:Nat->Nat}{nx pn c n:Nat}{h:Hz}{s:List Nat}{o o':OV}(q1:Nat.blt c nx=true)(q2:Nat.blt c pn=true->n=c)(q3:DN n s=true)(q4:(o.good nx&&o.Rq)=true)(q5:h.get n=some o')
  (q6:o'.aF.ty=o.aF.ty/\o'.aF.k=o.aF.k) (q7:dQ o.aF.l o'.aF.l):Nat.blt c nx=true/\(Nat.blt c pn=true->n=c)/\DN n s=true/\o.good nx=true /\
   ∃ o',h.get n=some o'/\o'.aF.ty=o.aF.ty/\o'.aF.k=o.aF.k/\dQ (T.dO ρ o.aF.l) o'.aF.l:=by
 rw[Bool.and_eq_true] at q4
 exact⟨q1,q2,q3,q4.1,o',q5,q6.1,q6.2,by rw[OV.DR q4.2 ρ]; exact q7⟩
theorem uM{L:List (List Int)}{l:List T}(h:dQ (L.map Go.Ab.ints) l):dQ (jL L).aF.l l:=by
 show dQ (List.map Go.Ab.ints L++[]) l
 rw[List.append_nil]; exact h
def Ij(f:Nat->List Int)(n i:Nat):List (List Int):=(List.range i).map f++List.replicate (n-i) []
theorem KI{f:Nat->List Int}{n:Nat}:Ij f n 0=List.replicate n []:=by simp[Ij]
theorem Ph{f:Nat->List Int}{n:Nat}:Ij f n n=(List.range n).map f:=by simp[Ij]
theorem Pj{f:Nat->List Int}{n i:Nat}(hi:i<=n):(Ij f n i).length=n:=by simp[Ij]; omega
theorem KJ{f:Nat->List Int}{n i:Nat}(hi:i<n):(Ij f n i).set i (f i)=Ij f n (i+1):=by
 have e1:n-i=(n-(i+1))+1:=by omega
 unfold Ij
 rw[e1,List.replicate_succ,List.set_append_right _ _ (by simp)]
 have:i-((List.range i).map f).length=0:=by simp
 rw[this,List.set_cons_zero,List.range_succ]; simp
def Cj(p:aN)(q:Prop')(x:Nat):List Int:=bif yR (mQ p q) x then [0,1,2] else [0]
def zD(p:aN)(q:Prop'):List (List Int):=(List.range p.states.length).map (Cj p q)
def fiE(p:aN)(q:Prop'):List Elem:=sV (mG 0 (zD p q))
theorem uq{f:Nat->List Int}(hf: ∀ i,(f i).length<=3)(n:Nat):Ci ((List.range n).map f):=by
 intro i
 rw[List.getD_eq_getElem?_getD,List.getElem?_map]
 cases hg:(List.range n)[i]? with
 |none=>simp
 |some j=>exact hf j
theorem Pm(p:aN)(q:Prop')(i:Nat):(Cj p q i).length<=3:=by
 unfold Cj; cases yR (mQ p q) i<;>simp
theorem MX{v:Int}{N:List (List Int)}(hN:Ci N)(h6:N.length<=6):(mG v N).length<=729:=Nat.le_trans O1 (Ul hN h6)
theorem AP{v:Int}{N:List (List Int)}{e:Elem}(h:e∈mG v N):e.value=v/\e.counts.length=N.length/\e.counts∈qI N N.length/\0<sS e:=by
 unfold mG DL at h
 obtain⟨h1,h2⟩:=List.mem_filter.1 h
 obtain⟨c,hc,rfl⟩:=List.mem_map.1 h1
 exact⟨rfl,MS hc,hc,of_decide_eq_true h2⟩
theorem VF{v:Int}{N:List (List Int)}(h6:N.length<=6):eH (mG v N):=fun e he=>by have:=(AP he).2.1; omega
set_option maxHeartbeats 1000000 in
theorem S.lS(p:aN)(q:Prop')(hp:dP p)(hq:jd q)(hv:jI p q=0):aj Tryz.prog 75 [.dat (.jA p),.dat (.prop q)] (.row 3 false (.elems (fiE p q))):=by
 have hst:=(rF (yS hv)).states
 have hpos:=(rF (yS hv)).pos
 refine aj.of Bd.lS (by simp) rfl rfl ?_
 conv=>whnf
 refine ah.pure (S.jC p q hp hq hv) rfl ?_
 conv=>whnf
 rw[Pg hpos]
 conv=>whnf
 refine .mk (by omega) ?_
 conv=>whnf
 refine aI.qg 19 [5,20] (fun i:Nat=>[(21,.int i),(7,.own 14)]) (fun i=>[(14,jL (Ij (Cj p q) p.states.length i))]) (fun i=>i<=p.states.length) (fun i=>p.states.length-i) 0 [14] rfl (by decide) (fun _=>rfl) (Nat.zero_le _) ?_ ?_ ?_
 ·exact⟨⟨_,rfl,.eq rfl⟩,⟨_,rfl,.eq rfl⟩,trivial⟩
 ·refine⟨okS rfl nofun rfl rfl rfl ⟨rfl,rfl⟩ (uM ?_),trivial⟩
  rw[KI]
  exact O8 p.states.length
 conv=>whnf
 refine⟨⟨⟨_,rfl,.eq rfl⟩,⟨_,rfl,.eq rfl⟩,trivial⟩,rfl,?_⟩
 rintro i hi
 have hSl:=Pj (f:=Cj p q) hi
 have hsl:=KL hp hq
 conv=>whnf
 refine⟨fun h1=>?_,fun h1=>?_⟩
 ·have hi':i<p.states.length:=by simpa using h1
  have hstep:=KJ (f:=Cj p q) hi'
  conv=>whnf
  repeat(refine VC.mk (by simp only[Rw.rng,Int.toNat_natCast]; omega) ?_; conv=>whnf)
  refine ah.pure (S.slices_Contains_int (mQ p q) i false (by omega)) rfl ?_
  conv=>whnf
  refine⟨fun h2=>?_,fun h2=>?_⟩
  ·have hn:Cj p q i=[0,1,2]:=by rw[Cj,h2]; rfl
   rw[hn] at hstep
   conv=>whnf
   repeat(refine VC.mk (by first|(simp only[List.length_set,Rw.XZ,Rw.len,Int.toNat_natCast]; omega)|(simp only[okI] at *; first|omega|(simp_all; done)|(simp_all; omega))) ?_; conv=>whnf)
   refine⟨i+1,[14],by omega,by omega,⟨⟨_,rfl,.eq rfl⟩,⟨_,rfl,.eq rfl⟩,trivial⟩,⟨⟨_,rfl,.eq rfl⟩,⟨_,rfl,.eq rfl⟩,trivial⟩,okS rfl nofun rfl rfl rfl ⟨rfl,rfl⟩ (uM ?_),trivial⟩
   rw[<- hstep]
   exact O9 _ _ _ _
  ·have hn:Cj p q i=[0]:=by rw[Cj,h2]; rfl
   rw[hn] at hstep
   conv=>whnf
   refine .mk (by simp only[okI] at *; first|omega|(simp_all; done)|(simp_all; omega)) ?_
   conv=>whnf
   refine⟨i+1,[14],by omega,by omega,⟨⟨_,rfl,.eq rfl⟩,⟨_,rfl,.eq rfl⟩,trivial⟩,⟨⟨_,rfl,.eq rfl⟩,⟨_,rfl,.eq rfl⟩,trivial⟩,okS rfl nofun rfl rfl rfl ⟨rfl,rfl⟩ (uM ?_),trivial⟩
   rw[<- hstep]
   exact MW _ _ _
 ·have hi':i=p.states.length:=by
   have: ¬ i<p.states.length:=by simpa using h1
   omega
  subst hi'
  rw[Ph]
  conv=>whnf
  refine ah.XU (args':=[.int 0,.row 0 false (.jr (zD p q))]) (h2:=[]) (fun i=>i=14) trivial ⟨dS _,RJ rfl rfl,trivial⟩ (S.kN 0 (zD p q) false (by simp[zD]; omega) (uq (Pm p q) _)) ?_
  conv=>whnf
  have h6:(zD p q).length<=6:=by simp[zD]; omega
  have hcl:=MX (v:=0) (uq (Pm p q) p.states.length) h6
  refine ah.XR rfl rfl (Nat.lt_of_le_of_lt hcl (by decide)) (VF h6) ?_ (fun m=>?_)
  ·conv=>whnf
   exact ak.VG rfl
  ·conv=>whnf
   exact ak.adh rfl
theorem F8{a b:List Int}{j:Nat}(h:j<a.length):(a++b).getD j 0=a.getD j 0:=by
 simp[List.getD_eq_getElem?_getD,List.getElem?_append_left h]
theorem Pn{a:List Int}{n:Int}:(a++[n]).getD a.length 0=n:=by
 simp[List.getD_eq_getElem?_getD]
theorem Uo{N:List (List Int)}: ∀ {i:Nat} {c:List Int},c∈qI N i↔c.length=i/\ ∀ j,j<i->c.getD j 0∈N.getD j []:=by
 intro i
 induction i with
 |zero =>
  intro c
  simp only[qI,List.mem_singleton]
  constructor
  ·rintro rfl; exact⟨rfl,fun j hj=>by omega⟩
  ·rintro⟨h,_⟩; exact List.eq_nil_of_length_eq_zero h
 |succ i ih =>
  intro c
  simp only[qI,List.mem_flatMap,List.mem_map]
  constructor
  ·rintro⟨x,hx,n,hn,rfl⟩
   obtain⟨h1,h2⟩:=ih.1 hx
   refine⟨by rw[List.length_append,h1]; rfl,fun j hj=>?_⟩
   by_cases e:j=i
   ·subst e; rw[<- h1,Pn,h1]; exact hn
   ·rw[F8 (by omega)]; exact h2 j (by omega)
  ·rintro⟨h1,h2⟩
   have hne:c≠[]:=by intro e; rw[e] at h1; cases h1
   have hc:c=c.dropLast++[c.getD i 0]:=by
    have e1:=(List.dropLast_concat_getLast hne).symm
    have e2:c.getLast hne=c.getD i 0:=by
     rw[List.getLast_eq_getElem,List.getD_eq_getElem?_getD,List.getElem?_eq_getElem (by omega),Option.getD_some]
     congr 1; omega
    rw[e2] at e1; exact e1
   have hl:c.dropLast.length=i:=by rw[List.length_dropLast]; omega
   refine⟨c.dropLast,ih.2 ⟨hl,fun j hj=>?_⟩,c.getD i 0,h2 i (by omega),hc.symm⟩
   have:=h2 j (by omega)
   rw[hc,F8 (by omega)] at this
   exact this
def Cm(c:List Int)(x:Nat):List Int:=bif c.getD x 0==2 then [2,3,4] else [c.getD x 0]
def iU(c:List Int):List (List Int):=(List.range c.length).map (Cm c)
theorem Po(c:List Int)(i:Nat):(Cm c i).length<=3:=by
 unfold Cm; cases c.getD i 0==2<;>simp
theorem KN{c:List Int}{j:Nat}(hj:j<c.length):(iU c).getD j []=Cm c j:=by
 unfold iU
 simp[List.getD_eq_getElem?_getD,hj]
theorem kQ(c:List Int):(iU c).length=c.length:=by simp[iU]
theorem DT{c:List Int}(_hc:F7 c){d:List Int}:d∈qI (iU c) c.length↔d.length=c.length/\ ∀ j,j<c.length->d.getD j 0∈Cm c j:=by
 rw[Uo]
 constructor
 ·rintro⟨h1,h2⟩; exact⟨h1,fun j hj=>by rw[<- KN hj]; exact h2 j hj⟩
 ·rintro⟨h1,h2⟩; exact⟨h1,fun j hj=>by rw[KN hj]; exact h2 j hj⟩
theorem DU{c:List Int}{j:Nat}{x:Int}(h:x∈Cm c j):x=c.getD j 0\/(c.getD j 0=2/\(x=3\/x=4)):=by
 unfold Cm at h
 cases hb:(c.getD j 0==2) with
 |true =>
  rw[hb] at h
  have h2:c.getD j 0=2:=by simpa using hb
  simp at h
  omega
 |false=>rw[hb] at h; simp at h; left; simpa using h
theorem adi{d:List Int}(h: ∀ j,j<d.length->0<=d.getD j 0/\d.getD j 0<=1048576):F7 d:=fun x hx=>by
 obtain⟨j,hj,e⟩:=List.mem_iff_getElem.1 hx
 have:=h j hj
 rw[List.getD_eq_getElem?_getD,List.getElem?_eq_getElem hj,Option.getD_some,e] at this
 exact this
theorem MZ{c d:List Int}(hc:F7 c)(h:d∈qI (iU c) c.length):F7 d:=by
 obtain⟨h1,h2⟩:=(DT hc).1 h
 refine adi fun j hj=>?_
 have a:=DU (h2 j (by omega))
 have b:=hc.get (show j<c.length by omega)
 omega
def BH(r:Rule)(e:Elem):Option Elem:=(gJ r e).map RF
def lK(r:Rule)(l:List Elem):List Elem:=l.filterMap (BH r)
def mX(r:Rule)(a:Elem):List Elem:=sV (lK r (mG a.value (iU a.counts)))
theorem Ik{r:Rule}{l:List Elem}{j:Nat}(hj:j<l.length):lK r (l.take (j+1))=lK r (l.take j)++(BH r (l.getD j default)).toList:=by
 unfold lK
 have ht:l.take (j+1)=l.take j++[l.getD j default]:=by rw[List.take_add_one]; simp[hj]
 rw[ht,List.filterMap_append]
 simp only[List.filterMap_cons,List.filterMap_nil]
 cases BH r (l.getD j default)<;>rfl
theorem AQ{r:Rule}{l:List Elem}:(lK r l).length<=l.length:=List.length_filterMap_le _ _
theorem KP{r:Rule}{l:List Elem}{x:Elem}(h:x∈lK r l): ∃ e∈l,∃ y,gJ r e=some y/\x=RF y:=by
 obtain⟨e,he,h⟩:=List.mem_filterMap.1 h
 unfold BH at h
 obtain⟨y,hy,rfl⟩:=Option.map_eq_some_iff.1 h
 exact⟨e,he,y,hy,rfl⟩
theorem zS{r:Rule}{l:List Elem}{n:Nat}(hl: ∀ e∈l,e.counts.length=n){x:Elem}(h:x∈lK r l):x.counts.length=n:=by
 obtain⟨e,he,y,hy,rfl⟩:=KP h
 show(qA y.counts).length=n
 rw[qA,List.length_map,xM hy,hl e he]
set_option maxHeartbeats 1000000 in
theorem S.rJ(r:Rule)(a:Elem)(hr:xk r)(hp:zN a.counts.length r)(hc:F7 a.counts)(h0:0<a.counts.length)(hl:a.counts.length<=6):aj Tryz.prog 82 [.dat (.rule r),.dat (.elem a)] (.row 3 false (.elems (mX r a))):=by
 refine aj.of Bd.rJ (by simp) rfl rfl ?_
 conv=>whnf
 rw[Pg h0]
 conv=>whnf
 refine .mk (by omega) ?_
 conv=>whnf
 refine aI.aeU 5 4 4 (.agg [.int 2,.int 3,.int 4]) rfl rfl rfl rfl (by decide) ?_
 refine aI.qg 15 [2,3,5,20,21] (fun i:Nat=>[(22,.int i),(6,.own 9)]) (fun i=>[(0,.box 71 19 (.dat (.rule r))),(1,.box 50 3 (.dat (.elem a))),(9,jL (Ij (Cm a.counts) a.counts.length i))]) (fun i=>i<=a.counts.length) (fun i=>a.counts.length-i) 0 [0,1,9] rfl (by decide) (fun _=>rfl) (Nat.zero_le _) ?_ ?_ ?_
 ·exact⟨⟨_,rfl,.eq rfl⟩,⟨_,rfl,.eq rfl⟩,trivial⟩
 ·refine⟨okF rfl nofun rfl rfl rfl ⟨rfl,rfl⟩ rfl,okF rfl nofun rfl rfl rfl ⟨rfl,rfl⟩ rfl,okS rfl nofun rfl rfl rfl ⟨rfl,rfl⟩ (uM ?_),trivial⟩
  rw[KI]
  exact O8 a.counts.length
 conv=>whnf
 refine⟨⟨⟨_,rfl,.eq rfl⟩,⟨_,rfl,.eq rfl⟩,⟨_,rfl,.eq rfl⟩,⟨_,rfl,.eq rfl⟩,⟨_,rfl,.eq rfl⟩,trivial⟩,rfl,?_⟩
 rintro i hi
 have hSl:=Pj (f:=Cm a.counts) hi
 conv=>whnf
 refine⟨fun h1=>?_,fun h1=>?_⟩
 ·have hi':i<a.counts.length:=by simpa using h1
  have hstep:=KJ (f:=Cm a.counts) hi'
  conv=>whnf
  repeat(refine VC.mk (by simp only[Rw.rng,Int.toNat_natCast]; omega) ?_; conv=>whnf)
  refine⟨fun h2=>?_,fun h2=>?_⟩
  ·have hn:Cm a.counts i=[2,3,4]:=by rw[Cm,show(a.counts.getD i 0==2)=true from h2]; rfl
   rw[hn] at hstep
   conv=>whnf
   repeat(refine VC.mk (by first|(simp only[List.length_set,Rw.XZ,Rw.len,Int.toNat_natCast]; omega)|(simp only[okI] at *; first|omega|(simp_all; done)|(simp_all; omega))) ?_; conv=>whnf)
   refine⟨i+1,[0,1,9],by omega,by omega,⟨⟨_,rfl,.eq rfl⟩,⟨_,rfl,.eq rfl⟩,trivial⟩,⟨⟨_,rfl,.eq rfl⟩,⟨_,rfl,.eq rfl⟩,⟨_,rfl,.eq rfl⟩,⟨_,rfl,.eq rfl⟩,⟨_,rfl,.eq rfl⟩,trivial⟩,okF rfl nofun rfl rfl rfl ⟨rfl,rfl⟩ rfl,okF rfl nofun rfl rfl rfl ⟨rfl,rfl⟩ rfl,okS rfl nofun rfl rfl rfl ⟨rfl,rfl⟩ (uM ?_),trivial⟩
   rw[<- hstep]
   exact O9 _ _ _ _
  ·have hn:Cm a.counts i=[a.counts.getD i 0]:=by rw[Cm,show(a.counts.getD i 0==2)=false from h2]; rfl
   rw[hn] at hstep
   conv=>whnf
   refine .mk (by simp only[okI] at *; first|omega|(simp_all; done)|(simp_all; omega)) ?_
   conv=>whnf
   refine⟨i+1,[0,1,9],by omega,by omega,⟨⟨_,rfl,.eq rfl⟩,⟨_,rfl,.eq rfl⟩,trivial⟩,⟨⟨_,rfl,.eq rfl⟩,⟨_,rfl,.eq rfl⟩,⟨_,rfl,.eq rfl⟩,⟨_,rfl,.eq rfl⟩,⟨_,rfl,.eq rfl⟩,trivial⟩,okF rfl nofun rfl rfl rfl ⟨rfl,rfl⟩ rfl,okF rfl nofun rfl rfl rfl ⟨rfl,rfl⟩ rfl,okS rfl nofun rfl rfl rfl ⟨rfl,rfl⟩ (uM ?_),trivial⟩
   rw[<- hstep]
   exact MW _ _ _
 ·have hi':i=a.counts.length:=by
   have: ¬ i<a.counts.length:=by simpa using h1
   omega
  subst hi'
  rw[Ph]
  conv=>whnf
  have h6:(iU a.counts).length<=6:=by rw[kQ]; exact hl
  have hs3:=uq (Po a.counts) a.counts.length
  have hcl:(mG a.value (iU a.counts)).length<=729:=MX (v:=a.value) hs3 h6
  refine ah.XU (args':=[.int a.value,.row 0 false (.jr (iU a.counts))]) (h2:=[(0,some (.box 71 19 (.dat (.rule r)))),(1,some (.box 50 3 (.dat (.elem a))))]) (fun i=>i=9) ⟨mJ (Z:=fun i=>i=9) rfl (by decide),mJ (Z:=fun i=>i=9) rfl (by decide),trivial⟩ ⟨dS _,RJ rfl rfl,trivial⟩ (S.kN a.value (iU a.counts) false h6 hs3) ?_
  conv=>whnf
  refine aI.nil 9 50 3 (by rfl) rfl rfl rfl ?_
  refine aI.qg 24 [2,42,43] (fun j:Nat=>[(44,.int j),(9,.own 23)]) (fun j=>[(0,.box 71 19 (.dat (.rule r))),(20,eP (mG a.value (iU a.counts))),(23,eP (lK r ((mG a.value (iU a.counts)).take j)))]) (fun j=>j<=(mG a.value (iU a.counts)).length) (fun j=>(mG a.value (iU a.counts)).length-j) 0 [0,20,23] rfl (by decide) (fun _=>rfl) (Nat.zero_le _) ?_ ?_ ?_
  ·exact⟨⟨_,rfl,.eq rfl⟩,⟨_,rfl,.eq rfl⟩,trivial⟩
  ·exact⟨okF rfl nofun rfl rfl rfl ⟨rfl,rfl⟩ rfl,okF rfl nofun rfl rfl rfl ⟨rfl,rfl⟩ rfl,okF rfl nofun rfl rfl rfl ⟨rfl,rfl⟩ rfl,trivial⟩
  conv=>whnf
  refine⟨⟨⟨_,rfl,.eq rfl⟩,⟨_,rfl,.eq rfl⟩,⟨_,rfl,.eq rfl⟩,trivial⟩,rfl,?_⟩
  rintro j hj
  have hkl:=AQ (r:=r) (l:=(mG a.value (iU a.counts)).take j)
  rw[List.length_take] at hkl
  conv=>whnf
  refine⟨fun h2=>?_,fun h2=>?_⟩
  ·have hj':j<(mG a.value (iU a.counts)).length:=by simpa using h2
   have hstep:=Ik (r:=r) hj'
   have hmem:(mG a.value (iU a.counts)).getD j default∈mG a.value (iU a.counts):=je hj'
   obtain⟨_,g1,g2,_⟩:=AP hmem
   rw[kQ] at g1 g2
   conv=>whnf
   repeat(refine VC.mk (by simp only[Rw.rng] at *; first|omega|(simp_all; done)|(simp_all; omega)) ?_; conv=>whnf)
   refine ah.pure (aj.KQ (S.rH r ((mG a.value (iU a.counts)).getD j default) hr (by rw[g1]; exact hp) (MZ hc g2) (by omega))) rfl ?_
   conv=>whnf
   refine⟨fun h3=>?_,fun h3=>?_⟩
   ·obtain⟨x,hx⟩:=Option.isSome_iff_exists.1 h3
    replace hx:gJ r ((mG a.value (iU a.counts)).getD j default)=some x:=hx
    have hxl:=xM hx
    rw[BH,hx] at hstep
    rw[show gJ r ((mG a.value (iU a.counts)).getD (j:Int).toNat default)=some x from hx]
    conv=>whnf
    refine ah.pure (S.lg x (by rw[hxl]; omega) (by rw[hxl]; omega)) rfl ?_
    conv=>whnf
    repeat(refine VC.mk (by first|(show((lK r ((mG a.value (iU a.counts)).take j)).length+(0+1))*32<=140737488355328/\(lK r ((mG a.value (iU a.counts)).take j)).length+(0+1)<=1152921504606846976; omega)|(simp only[okI] at *; first|omega|(simp_all; done)|(simp_all; omega))) ?_; conv=>whnf)
    refine⟨j+1,[0,20,43],by omega,by omega,⟨⟨_,rfl,.eq rfl⟩,⟨_,rfl,.eq rfl⟩,trivial⟩,⟨⟨_,rfl,.eq rfl⟩,⟨_,rfl,.eq rfl⟩,⟨_,rfl,.eq rfl⟩,trivial⟩,okF rfl nofun rfl rfl rfl ⟨rfl,rfl⟩ rfl,okF rfl nofun rfl rfl rfl ⟨rfl,rfl⟩ rfl,okF rfl nofun rfl rfl rfl ⟨rfl,rfl⟩ ?_,trivial⟩
    rw[hstep]
    show List.map dZ (lK r ((mG a.value (iU a.counts)).take j)++[RF x])++[]=List.map dZ (lK r ((mG a.value (iU a.counts)).take j))++[dZ (RF x)]
    simp
   ·replace h3:(gJ r ((mG a.value (iU a.counts)).getD j default)).isSome=false:=h3
    rw[Option.isSome_eq_false_iff,Option.isNone_iff_eq_none] at h3
    rw[BH,h3] at hstep
    conv=>whnf
    refine .mk (by simp only[okI] at *; first|omega|(simp_all; done)|(simp_all; omega)) ?_
    conv=>whnf
    refine⟨j+1,[0,20,23],by omega,by omega,⟨⟨_,rfl,.eq rfl⟩,⟨_,rfl,.eq rfl⟩,trivial⟩,⟨⟨_,rfl,.eq rfl⟩,⟨_,rfl,.eq rfl⟩,⟨_,rfl,.eq rfl⟩,trivial⟩,okF rfl nofun rfl rfl rfl ⟨rfl,rfl⟩ rfl,okF rfl nofun rfl rfl rfl ⟨rfl,rfl⟩ rfl,okF rfl nofun rfl rfl rfl ⟨rfl,rfl⟩ (by rw[hstep]; simp),trivial⟩
  ·have hj':(mG a.value (iU a.counts)).length<=j:=by simpa using h2
   rw[List.take_of_length_le hj']
   conv=>whnf
   have hsm:eH (lK r (mG a.value (iU a.counts))):=fun x hx=>by
    rw[zS (n:=a.counts.length) (fun e he=>by rw[(AP he).2.1,kQ]) hx]; omega
   have hpl:=AQ (r:=r) (l:=mG a.value (iU a.counts))
   refine ah.XR rfl rfl (Nat.lt_of_le_of_lt hpl (Nat.lt_of_le_of_lt hcl (by decide))) hsm ?_ (fun m=>?_)
   ·conv=>whnf
    exact ak.VG rfl
   ·conv=>whnf
    exact ak.adh rfl
def allM(m:Nat):Nat->List (List Int)
 |0=>[[]]
 |n+1=>(List.range (m+1)).flatMap fun(k:Nat)=>(allM m n).map fun c=>(k:Int)::c
def jT(m n j:Nat):List (List Int):=(allM m (n-j)).map fun c=>List.replicate j 0++c
def wI(m n j k:Nat):List (List Int):=(List.range k).flatMap fun(k:Nat)=>(jT m n (j+1)).map fun c=>c.set j (k:Int)
theorem Il{m n j k:Nat}:wI m n j (k+1)=wI m n j k++(jT m n (j+1)).map fun c=>c.set j (k:Int):=by
 unfold wI
 rw[List.range_succ,List.flatMap_append]; simp
theorem DV{m:Nat}: ∀ {n:Nat},(allM m n).length=(m+1)^n:=by
 intro n
 induction n with
 |zero=>rfl
 |succ n ih =>
  unfold allM
  rw[List.length_flatMap]
  have:(List.range (m+1)).map (fun(a:Nat)=>((allM m n).map fun c=>(a:Int)::c).length)=List.replicate (m+1) ((m+1)^n):=by
   rw[List.eq_replicate_iff]
   refine⟨by simp,fun b hb=>?_⟩
   obtain⟨a,_,rfl⟩:=List.mem_map.1 hb
   rw[List.length_map,ih]
  rw[this,List.sum_replicate_nat,Nat.pow_succ,Nat.mul_comm]
theorem zT{m:Nat}: ∀ {n:Nat} {c:List Int},c∈allM m n↔c.length=n/\ ∀ x∈c,0<=x/\x<=m:=by
 intro n
 induction n with
 |zero =>
  intro c
  simp only[allM,List.mem_singleton]
  constructor
  ·rintro rfl; exact⟨rfl,fun x hx=>by cases hx⟩
  ·rintro⟨h,_⟩; exact List.eq_nil_of_length_eq_zero h
 |succ n ih =>
  intro c
  simp only[allM,List.mem_flatMap,List.mem_range,List.mem_map]
  constructor
  ·rintro⟨k,hk,d,hd,rfl⟩
   obtain⟨h1,h2⟩:=ih.1 hd
   refine⟨by rw[List.length_cons,h1],fun x hx=>?_⟩
   rcases List.mem_cons.1 hx with rfl|hx
   ·omega
   ·exact h2 x hx
  ·rintro⟨h1,h2⟩
   cases c with
   |nil=>cases h1
   |cons x d =>
    have hx:=h2 x (by simp)
    refine⟨x.toNat,by omega,d,ih.2 ⟨by simpa using h1,fun y hy=>h2 y (by simp[hy])⟩,?_⟩
    rw[Int.toNat_of_nonneg hx.1]
theorem KR{m n j:Nat}(hn:n<=6)(hm:m<=3):(jT m n j).length<=4096:=by
 unfold jT
 rw[List.length_map,DV]
 have h1:(m+1)^(n-j)<=4^(n-j):=Nat.pow_le_pow_left (by omega) _
 have h2:4^(n-j)<=4^6:=Nat.pow_le_pow_right (by decide) (by omega)
 have h3:4^6=4096:=by decide
 omega
theorem VH{m n j k:Nat}(hn:n<=6)(hm:m<=3):(wI m n j k).length<=k*4096:=by
 induction k with
 |zero=>simp[wI]
 |succ k ih =>
  rw[Il,List.length_append,List.length_map,Nat.succ_mul]
  have:=@KR m n (j+1) hn hm
  omega
theorem aaR{j:Nat}{k:Int}{c:List Int}:(List.replicate (j+1) (0:Int)++c).set j k=List.replicate j 0++(k::c):=by
 rw[List.replicate_succ',List.append_assoc,List.set_append_right _ _ (by simp)]
 simp
theorem RP{m n j:Nat}(hj:j<n):wI m n j (m+1)=jT m n j:=by
 have e:n-j=(n-(j+1))+1:=by omega
 unfold wI jT
 rw[e,allM,List.map_flatMap]
 refine congrArg List.flatten (List.map_congr_left fun k _=>?_)
 rw[List.map_map,List.map_map]
 exact List.map_congr_left fun c _=>aaR
theorem VI{m n:Nat}:jT m n 0=allM m n:=by simp[jT]
theorem VJ{m n j:Nat}(hj:j<=n){c:List Int}(h:c∈jT m n j):c.length=n:=by
 obtain⟨d,hd,rfl⟩:=List.mem_map.1 h
 have:=(zT.1 hd).1
 rw[List.length_append,List.length_replicate,this]; omega
set_option maxHeartbeats 1000000 in
theorem S.X0(m n:Nat)(hn0:0<n)(hn6:n<=6)(hm3:m<=3):aj Tryz.prog 74 [.int n,.int m] (.row 0 false (.jr (allM m n))):=by
 refine aj.of Bd.DW (by simp) rfl rfl ?_
 conv=>whnf
 have hmk:=DC (n:=n) hn0
 rw[hmk]
 conv=>whnf
 repeat(refine VC.mk (by first|(omega)|(simp only[okI] at *; first|omega|(simp_all; done)|(simp_all; omega))) ?_; conv=>whnf)
 refine aI.Um 1 [0,1] (fun j:Nat=>[(6,.int ((j:Int)-1)),(5,.own 0)]) (fun j=>[(0,jL (jT m n j))]) (fun j=>j<=n) (fun j=>j) n [3] [(3,some (jL ([]++[List.replicate n 0])))] rfl (by decide) (fun _=>rfl) (Nat.le_refl _) ?_ ?_ ?_ ?_
 ·exact⟨⟨_,rfl,.eq rfl⟩,⟨_,rfl,.eq rfl⟩,trivial⟩
 ·exact⟨fun i=>i=2,E5 (Z:=fun i=>i=2) (i:=3) (j:=2) rfl rfl (by decide) rfl rfl,trivial⟩
 ·exact⟨okF rfl nofun rfl rfl rfl ⟨rfl,rfl⟩ (by simp[jT,allM]),trivial⟩
 conv=>whnf
 refine⟨⟨⟨_,rfl,.eq rfl⟩,⟨_,rfl,.eq rfl⟩,trivial⟩,rfl,?_⟩
 rintro j hj
 conv=>whnf
 refine⟨fun h3=>?_,fun h3=>?_⟩
 ·obtain⟨j,rfl⟩: ∃ i,j=i+1:=⟨j-1,by have:=of_decide_eq_true h3; omega⟩
  have ej:(((j+1:Nat):Int)-1)=(j:Int):=by omega
  rw[ej]
  conv=>whnf
  refine aI.nil 7 24 0 (by rfl) rfl rfl rfl ?_
  refine aI.objs 2 [0,1,5,6] (fun k:Nat=>[(8,.int k),(7,.own 1)]) (fun k=>[(0,jL (jT m n (j+1))),(1,jL (wI m n j k))]) (fun k=>k<=m+1) (fun k=>m+1-k) 0 [0,5] rfl (by decide) (fun _=>rfl) (Nat.zero_le _) ?_ ?_ ?_
  ·exact⟨⟨_,rfl,.eq rfl⟩,⟨_,rfl,.eq rfl⟩,trivial⟩
  ·exact⟨⟨rfl,nofun,rfl,rfl,rfl,_,rfl,rfl,rfl,dQ.of_eq rfl⟩,⟨rfl,nofun,rfl,rfl,rfl,_,rfl,rfl,rfl,dQ.of_eq rfl⟩,trivial⟩
  conv=>whnf
  refine⟨⟨⟨_,rfl,.eq rfl⟩,⟨_,rfl,.eq rfl⟩,⟨_,rfl,.eq rfl⟩,⟨_,rfl,.eq rfl⟩,trivial⟩,rfl,?_⟩
  rintro k hk
  have hkl:=@VH m n j k hn6 hm3
  have hol:=@KR m n (j+1) hn6 hm3
  conv=>whnf
  refine⟨fun h4=>?_,fun h4=>?_⟩
  ·have hk3:k<=m:=by have:=of_decide_eq_true h4; omega
   conv=>whnf
   refine aI.Um 2 [0,1,5,6,8] (fun i:Nat=>[(9,.int i),(7,.own 1)]) (fun i=>[(0,jL (jT m n (j+1))),(1,jL (wI m n j k++((jT m n (j+1)).take i).map fun c=>c.set j (k:Int)))]) (fun i=>i<=(jT m n (j+1)).length) (fun i=>(jT m n (j+1)).length-i) 0 [0,1] [(0,some (jL (jT m n (j+1)))),(1,some (jL (wI m n j k)))] rfl (by decide) (fun _=>rfl) (Nat.zero_le _) ?_ ?_ ?_ ?_
   ·exact⟨⟨_,rfl,.eq rfl⟩,⟨_,rfl,.eq rfl⟩,trivial⟩
   ·exact⟨fun _=>False,mJ (Z:=fun _=>False) rfl (fun q=>q),mJ (Z:=fun _=>False) rfl (fun q=>q),trivial⟩
   ·exact⟨okF rfl nofun rfl rfl rfl ⟨rfl,rfl⟩ rfl,okF rfl nofun rfl rfl rfl ⟨rfl,rfl⟩ (by simp),trivial⟩
   conv=>whnf
   refine⟨⟨⟨_,rfl,.eq rfl⟩,⟨_,rfl,.eq rfl⟩,⟨_,rfl,.eq rfl⟩,⟨_,rfl,.eq rfl⟩,⟨_,rfl,.eq rfl⟩,trivial⟩,rfl,?_⟩
   rintro i hi
   have hal:(wI m n j k++((jT m n (j+1)).take i).map fun c=>c.set j (k:Int)).length<=6*4096:=by
    rw[List.length_append,List.length_map,List.length_take]; omega
   conv=>whnf
   refine⟨fun h5=>?_,fun h5=>?_⟩
   ·have hi':i<(jT m n (j+1)).length:=by simpa using h5
    have hcl:((jT m n (j+1)).getD i []).length=n:=VJ hj (je hi')
    conv=>whnf
    repeat(refine VC.mk (by first|(first|(simp only[nI,oz,Rw.len,Int.toNat_natCast,hcl]; omega)|(simp only[Rw.rng,Int.toNat_natCast,hcl]; omega)|(show((wI m n j k++((jT m n (j+1)).take i).map fun c=>c.set j (k:Int)).length+(0+1))*24<=140737488355328/\(wI m n j k++((jT m n (j+1)).take i).map fun c=>c.set j (k:Int)).length+(0+1)<=1152921504606846976; omega))|(simp only[okI] at *; first|omega|(simp_all; done)|(simp_all; omega))) ?_; conv=>whnf)
    refine⟨[(0,some (jL (jT m n (j+1)))),(21,some (jL ((wI m n j k++((jT m n (j+1)).take i).map fun c=>c.set j (k:Int))++[((jT m n (j+1)).getD i []).set j (k:Int)])))],i+1,[0,21],⟨fun i=>i=11,mJ (Z:=fun i=>i=11) (i:=0) rfl (by decide),E5 (Z:=fun i=>i=11) (i:=21) (j:=11) rfl rfl (by decide) rfl rfl,trivial⟩,by omega,by omega,⟨⟨_,rfl,.eq rfl⟩,⟨_,rfl,.eq rfl⟩,trivial⟩,⟨⟨_,rfl,.eq rfl⟩,⟨_,rfl,.eq rfl⟩,⟨_,rfl,.eq rfl⟩,⟨_,rfl,.eq rfl⟩,⟨_,rfl,.eq rfl⟩,trivial⟩,okF rfl nofun rfl rfl rfl ⟨rfl,rfl⟩ rfl,okF rfl nofun rfl rfl rfl ⟨rfl,rfl⟩ ?_,trivial⟩
    have ht:(jT m n (j+1)).take (i+1)=(jT m n (j+1)).take i++[(jT m n (j+1)).getD i []]:=by rw[List.take_add_one]; simp[hi']
    rw[ht,List.map_append,<- List.append_assoc]; rfl
   ·have hi':i=(jT m n (j+1)).length:=by
     have: ¬ ((i:Int)<((jT m n (j+1)).length:Int)):=of_decide_eq_false h5
     omega
    subst hi'
    rw[List.take_length,<- Il]
    conv=>whnf
    refine .mk (by first|(simp only[okI]; omega)|omega) ?_
    conv=>whnf
    refine⟨k+1,[0,1],by omega,by omega,⟨⟨_,rfl,.eq rfl⟩,⟨_,rfl,.eq rfl⟩,trivial⟩,⟨⟨_,rfl,.eq rfl⟩,⟨_,rfl,.eq rfl⟩,⟨_,rfl,.eq rfl⟩,⟨_,rfl,.eq rfl⟩,trivial⟩,⟨rfl,nofun,rfl,rfl,rfl,_,rfl,rfl,rfl,dQ.of_eq rfl⟩,⟨rfl,nofun,rfl,rfl,rfl,_,rfl,rfl,rfl,dQ.of_eq rfl⟩,trivial⟩
  ·have hk4:k=m+1:=by have:=of_decide_eq_false h4; omega
   subst hk4
   rw[RP (by omega)]
   conv=>whnf
   refine .mk (by first|(simp only[okI]; omega)|omega) ?_
   conv=>whnf
   refine⟨[(1,some (jL (jT m n j)))],j,[1],⟨fun _=>False,mJ (Z:=fun _=>False) rfl (fun q=>q),trivial⟩,by omega,by omega,⟨⟨_,rfl,.eq rfl⟩,⟨_,rfl,.eq rfl⟩,trivial⟩,⟨⟨_,rfl,.eq rfl⟩,⟨_,rfl,.eq rfl⟩,trivial⟩,okF rfl nofun rfl rfl rfl ⟨rfl,rfl⟩ rfl,trivial⟩
 ·have hj0:j=0:=by have:=of_decide_eq_false h3; omega
  subst hj0
  rw[VI]
  conv=>whnf
  exact ak.aeT rfl
theorem S.CB(l:List Int)(s:Int)(f:Bool)(hl:l.length<2^40):aj Tryz.prog 126 [.row 0 f (.ints l),.int s] (.bool (yR l s)):=by
 refine aj.of Bd.CB (by simp) rfl rfl ?_
 conv=>whnf
 refine aI.same [0,1] (fun i:Nat=>[(5,.int i)]) (fun i=>i<=l.length/\(l.take i).any (fun x=>s==x)=false) (fun i=>l.length-i) 0 rfl (by decide) rfl (fun _=>rfl) ⟨by omega,by simp⟩ ⟨⟨_,rfl,rfl⟩,trivial⟩ ?_
 conv=>whnf
 refine⟨rfl,?_⟩
 rintro i ⟨hi,hall⟩
 conv=>whnf
 refine⟨fun h3=>?_,fun h3=>?_⟩
 ·have hi':i<l.length:=by simpa using h3
  conv=>whnf
  refine .mk (by simp only[Rw.rng] at *; first|omega|(simp_all; done)|(simp_all; omega)) ?_
  conv=>whnf
  refine⟨fun h4=>?_,fun h4=>?_⟩
  ·have h4':(s==l.getD i 0)=true:=by rw[show(s==l.getD i 0)=(l.getD i 0==s) from Bool.beq_comm]; exact h4
   conv=>whnf
   exact ak.bool (iF (d:=0) hi' h4')
  ·have h4':(s==l.getD i 0)=false:=by rw[show(s==l.getD i 0)=(l.getD i 0==s) from Bool.beq_comm]; exact h4
   conv=>whnf
   refine .mk (by simp only[okI] at *; first|omega|(simp_all; done)|(simp_all; omega)) ?_
   conv=>whnf
   refine⟨i+1,⟨by omega,?_⟩,by omega,⟨⟨_,rfl,rfl⟩,trivial⟩,?_,rfl⟩
   ·rw[jS (d:=0) hi' hall]; exact h4'
   ·repeat' (first|exact trivial|exact⟨_,rfl,rfl⟩|constructor)
 ·have hi':l.length<=i:=by simpa using h3
  rw[List.take_of_length_le hi'] at hall
  conv=>whnf
  exact ak.bool hall
theorem S.lT(l c:List Int)(f g:Bool)(hl:l.length<2^40)(hc:c.length<2^40):aj Tryz.prog 86 [.row 0 f (.ints l),.row 0 g (.ints c)] (.bool (!(zU c l))):=by
 refine aj.of Bd.lT (by simp) rfl rfl ?_
 conv=>whnf
 refine aI.same [0,1] (fun i:Nat=>[(5,.int i)]) (fun i=>i<=c.length/\(List.range i).any (fun i=>decide (c.getD i 0>0)&& !(yR l i))=false) (fun i=>c.length-i) 0 rfl (by decide) rfl (fun _=>rfl) ⟨by omega,by simp⟩ ⟨⟨_,rfl,rfl⟩,trivial⟩ ?_
 conv=>whnf
 refine⟨rfl,?_⟩
 rintro i ⟨hi,hall⟩
 conv=>whnf
 refine⟨fun h3=>?_,fun h3=>?_⟩
 ·have hi':i<c.length:=by simpa using h3
  conv=>whnf
  repeat(refine VC.mk (by first|exact fun h=>⟨h,h⟩|(simp only[Rw.rng] at *; first|omega|(simp_all; done)|(simp_all; omega))) ?_; conv=>whnf)
  refine ah.gG (fun _=>S.CB l i f hl) rfl ?_
  conv=>whnf
  repeat(refine VC.mk id ?_; conv=>whnf)
  refine⟨fun h4=>?_,fun h4=>?_⟩
  ·conv=>whnf
   exact ak.bool (by rw[show zU c l=true from nY.2 ⟨i,hi',h4⟩]; rfl)
  ·conv=>whnf
   refine .mk (by simp only[okI] at *; first|omega|(simp_all; done)|(simp_all; omega)) ?_
   conv=>whnf
   refine⟨i+1,⟨by omega,?_⟩,by omega,⟨⟨_,rfl,rfl⟩,trivial⟩,?_,rfl⟩
   ·rw[List.range_succ,List.any_append,hall]
    simp only[List.any_cons,List.any_nil,Bool.or_false,Bool.false_or]; exact h4
   ·repeat' (first|exact trivial|exact⟨_,rfl,rfl⟩|constructor)
 ·have hi':c.length<=i:=by simpa using h3
  have e:i=c.length:=Nat.le_antisymm hi hi'
  subst e
  conv=>whnf
  exact ak.bool (by rw[show zU c l=false from hall]; rfl)
def Pq(p:aN)(q:Prop')(c:List Int):Bool:=decide (0<sS ⟨0,c⟩)&& !(zU c (mQ p q))
def initK(p:aN)(q:Prop')(l:List (List Int)):List Elem:=(l.filter (Pq p q)).map fun c=>(⟨0,c⟩:Elem)
def nK(p:aN)(q:Prop'):List Elem:=initK p q (allM 2 p.states.length)
theorem RQ{p:aN}{q:Prop'}{l:List (List Int)}{a:Nat}(ha:a<l.length):initK p q (l.take (a+1))=initK p q (l.take a)++(if Pq p q (l.getD a [])=true then [⟨0,l.getD a []⟩] else []):=by
 unfold initK
 have ht:l.take (a+1)=l.take a++[l.getD a []]:=by rw[List.take_add_one]; simp[ha]
 rw[ht,List.filter_append,List.map_append]
 by_cases h:Pq p q (l.getD a [])=true
 ·rw[if_pos h]; simp only[List.filter_cons,h,if_true,List.filter_nil,List.map_cons,List.map_nil]
 ·rw[if_neg h]; simp only[List.filter_cons,h,Bool.false_eq_true,if_false,List.filter_nil,List.map_nil]
theorem VK{p:aN}{q:Prop'}{l:List (List Int)}:(initK p q l).length<=l.length:=by
 unfold initK; rw[List.length_map]; exact List.length_filter_le _ _
theorem DX{x y:Int}{a b:List Int}(h:x<y\/(x=y/\cmpL a b<0)):cmpL (x::a) (y::b)<0:=by
 rw[cmpL]
 rcases h with h|⟨rfl,h⟩
 ·rw[if_pos h]; decide
 ·rw[if_neg (Int.lt_irrefl _),if_neg (Int.lt_irrefl _)]; exact h
theorem VL{R:List Int->List Int->Prop}{f:Nat->List (List Int)}: ∀ {n:Nat},(∀ k,k<n->(f k).Pairwise R)->(∀ j k,j<k->k<n-> ∀ a∈f j,∀ b∈f k,R a b)->((List.range n).flatMap f).Pairwise R:=by
 intro n
 induction n with
 |zero=>intro _ _; exact List.Pairwise.nil
 |succ n ih =>
  intro h1 h2
  rw[List.range_succ,List.flatMap_append,List.pairwise_append]
  refine⟨ih (fun k hk=>h1 k (by omega)) (fun j k a b=>h2 j k a (by omega)),by simpa using h1 n (by omega),fun a ha b hb=>?_⟩
  obtain⟨j,hj,ha⟩:=List.mem_flatMap.1 ha
  have hb':b∈f n:=by simpa using hb
  exact h2 j n (List.mem_range.1 hj) (by omega) a ha b hb'
theorem Pv{m:Nat}: ∀ {n:Nat},(allM m n).Pairwise fun a b=>cmpL a b<0:=by
 intro n
 induction n with
 |zero=>exact List.pairwise_singleton _ _
 |succ n ih =>
  unfold allM
  refine VL (fun k _=>?_) (fun j k hjk _ a ha b hb=>?_)
  ·rw[List.pairwise_map]
   exact ih.imp fun h=>DX (.inr ⟨rfl,h⟩)
  ·obtain⟨c,_,rfl⟩:=List.mem_map.1 ha
   obtain⟨d,_,rfl⟩:=List.mem_map.1 hb
   exact DX (.inl (by omega))
theorem X3(p:aN)(q:Prop'):SS (nK p q):=by
 unfold SS nK initK
 rw[List.pairwise_map]
 refine(Pv.filter _).imp fun h=>?_
 unfold iP
 rw[if_neg (Int.lt_irrefl _),if_neg (Int.lt_irrefl _)]; exact h
theorem adk{c l:List Int}:zU c l=false↔ ∀ i,i<c.length->0<c.getD i 0->yR l i=true:=by
 constructor
 ·intro h i hi hp
  cases hb:yR l i with
  |true=>rfl
  |false =>
   have:zU c l=true:=nY.2 ⟨i,hi,by rw[hb]; simpa using hp⟩
   rw[this] at h; cases h
 ·intro h
  cases hb:zU c l with
  |false=>rfl
  |true =>
   obtain⟨i,hi,h2⟩:=nY.1 hb
   simp at h2
   rw[h i hi (by simpa using h2.1)] at h2; cases h2.2
theorem KT{p:aN}{q:Prop'}{j:Nat}(hj:j<p.states.length):(zD p q).getD j []=Cj p q j:=by
 unfold zD; simp[List.getD_eq_getElem?_getD,hj]
theorem adl(p:aN)(q:Prop'):fiE p q=nK p q:=by
 refine E9 (xO _) (X3 p q) fun x=>?_
 rw[fiE,rM]
 have hN:(zD p q).length=p.states.length:=by simp[zD]
 have key: ∀ c:List Int,c∈qI (zD p q) (zD p q).length↔(c∈allM 2 p.states.length/\zU c (mQ p q)=false):=by
  intro c
  rw[Uo,hN,zT,adk]
  constructor
  ·rintro⟨h1,h2⟩
   have h3: ∀ j,j<p.states.length->c.getD j 0∈Cj p q j:=fun j hj=>by rw[<- KT hj]; exact h2 j hj
   refine⟨⟨h1,fun x hx=>?_⟩,fun i hi hp=>?_⟩
   ·obtain⟨j,hj,e⟩:=List.mem_iff_getElem.1 hx
    have:=h3 j (by omega)
    rw[List.getD_eq_getElem?_getD,List.getElem?_eq_getElem hj,Option.getD_some,e] at this
    unfold Cj at this
    cases hb:yR (mQ p q) j<;>rw[hb] at this<;>simp at this<;>omega
   ·have:=h3 i (by omega)
    unfold Cj at this
    cases hb:yR (mQ p q) i with
    |true=>rfl
    |false=>rw[hb] at this; simp at this; rw[List.getD_eq_getElem?_getD] at hp; omega
  ·rintro⟨⟨h1,h2⟩,h3⟩
   refine⟨h1,fun j hj=>?_⟩
   rw[KT hj]
   have hm:c.getD j 0∈c:=by
    rw[List.getD_eq_getElem?_getD,List.getElem?_eq_getElem (by omega)]; exact List.getElem_mem _
   have hr:=h2 _ hm
   have hs:=h3 j (by omega)
   unfold Cj
   cases hb:yR (mQ p q) j with
   |true=>simp only[cond_true,List.mem_cons,List.not_mem_nil,or_false]; omega
   |false =>
    simp only[cond_false,List.mem_singleton]
    by_cases h0:0<c.getD j 0
    ·rw[hs h0] at hb; cases hb
    ·omega
 unfold mG DL nK initK Pq
 simp only[List.mem_filter,List.mem_map,Bool.and_eq_true,decide_eq_true_eq,Bool.not_eq_true']
 constructor
 ·rintro⟨⟨c,hc,rfl⟩,ht⟩
  have:=(key c).1 hc
  exact⟨c,⟨this.1,ht,this.2⟩,rfl⟩
 ·rintro⟨c,⟨h1,h2,h3⟩,rfl⟩
  exact⟨⟨c,(key c).2 ⟨h1,h3⟩,rfl⟩,h2⟩
theorem Io{p:aN}{q:Prop'}(h:uo p q=0):jI p q=0:=by
 unfold uo at h
 by_cases h0:jI p q=0
 ·exact h0
 ·rw[show(jI p q !=0)=true by simpa using h0] at h; exact absurd h h0
theorem Na{p:aN}{q:Prop'}(h:uo p q=0):Dw p=0:=by
 have h0:=Io h
 unfold uo at h
 rw[h0] at h; exact h
theorem agd{Z:Nat->Prop}{h:Hz}{j:Nat}{v:Int}{l:List Int}(hz:Z j)(q:h.get j=some (xJ l)):T.sub Z h.ay (dZ ⟨v,l⟩) (.agg [.int v,.own j]):=by
 have:=Ih hz q
 show T.sub Z h.ay (.agg [.int v,.sl 0 false (l.map T.int)]) (.agg [.int v,.own j])
 replace this:T.sub Z h.ay (.sl 0 false (l.map T.int)) (.own j):=this
 simp only[T.sub] at this
 simp only[T.sub,T.dJ]
 exact⟨trivial,this,trivial⟩
theorem X4{Z:Nat->Prop}{h:Hz}{i j:Nat}{l:List Elem}{e:Elem}(q:h.get i=some (.row 50 3 (.elems l) [.agg [.int e.value,.own j]]))(hi: ¬ Z i)(hz:Z j)(qj:h.get j=some (xJ e.counts)) :
  ∃ o',h.get i=some o'/\ ¬ Z i/\o'.aF.ty=(eP (l++[e])).aF.ty/\o'.aF.k=(eP (l++[e])).aF.k/\T.dJ Z h.ay (eP (l++[e])).aF.l o'.aF.l/\(eP (l++[e])).aF.l.map T.kd=o'.aF.l.map T.kd/\(eP (l++[e])).aF.l.map gq=o'.aF.l.map gq:=by
 have e1:(eP (l++[e])).aF.l=l.map dZ++[dZ e]:=by simp[OV.aF,Rw.bn,V.bn]
 refine⟨_,q,hi,rfl,rfl,?_,?_,?_⟩
 ·rw[e1]
  exact zQ (dU _) ⟨agd hz qj,trivial⟩
 ·rw[e1]; show _=List.map T.kd (l.map dZ++[.agg [.int e.value,.own j]])
  rw[List.map_append,List.map_append]; rfl
 ·rw[e1]; show _=List.map gq (l.map dZ++[.agg [.int e.value,.own j]])
  rw[List.map_append,List.map_append]; rfl
def fM(c:List Int):Nat->List (List Int)
 |0=>[c]
 |x+1=>if c.getD x 0<2 then fM c x else fM c x++(fM c x).flatMap fun d=>[d.set x 3,d.set x 4]
def Fa(c:List Int)(x i:Nat):List (List Int):=fM c x++((fM c x).take i).flatMap fun d=>[d.set x 3,d.set x 4]
def zV(c:List Int)(x i b:Nat):List (List Int):=Fa c x i++((List.range b).map fun(k:Nat)=>((fM c x).getD i []).set x (3+(k:Int)))
def jU(a:Elem)(l:List (List Int)):List Elem:=l.map fun d=>(⟨a.value,d⟩:Elem)
theorem VN{c:List Int}{x i:Nat}(hi:i<(fM c x).length):Fa c x (i+1)=zV c x i 2:=by
 unfold Fa zV Fa
 have ht:(fM c x).take (i+1)=(fM c x).take i++[(fM c x).getD i []]:=by rw[List.take_add_one]; simp[hi]
 rw[ht,List.flatMap_append,<- List.append_assoc]; rfl
theorem X5{c:List Int}{x:Nat}(h: ¬ c.getD x 0<2):Fa c x (fM c x).length=fM c (x+1):=by
 unfold Fa; rw[List.take_length,fM,if_neg h]
theorem VO{c:List Int}{x i b:Nat}:zV c x i (b+1)=zV c x i b++[((fM c x).getD i []).set x (3+(b:Int))]:=by
 unfold zV
 rw[List.range_succ,List.map_append,<- List.append_assoc]; rfl
theorem Px{c:List Int}: ∀ {x:Nat},(fM c x).length<=3^x:=by
 intro x
 induction x with
 |zero=>exact Nat.le_refl _
 |succ x ih =>
  rw[fM]
  split
  ·rw[Nat.pow_succ]; omega
  ·have:=DK (l:=fM c x) (f:=fun d=>[d.set x 3,d.set x 4]) (k:=2) (fun _ _=>Nat.le_refl _)
   rw[List.length_append,Nat.pow_succ]; omega
theorem Py{c:List Int}: ∀ {x:Nat} {d:List Int},x<=c.length->(d∈fM c x↔d.length=c.length/\ ∀ j,j<c.length->d.getD j 0=c.getD j 0\/(j<x/\2<=c.getD j 0/\(d.getD j 0=3\/d.getD j 0=4))):=by
 intro x
 induction x with
 |zero =>
  intro d _
  simp only[fM,List.mem_singleton]
  constructor
  ·rintro rfl; exact⟨rfl,fun j _=>.inl rfl⟩
  ·rintro⟨h1,h2⟩
   refine List.ext_getElem h1 fun j g1 g2=>?_
   have:=h2 j g2
   rcases this with h|⟨h,_⟩
   ·rw[List.getD_eq_getElem?_getD,List.getD_eq_getElem?_getD,List.getElem?_eq_getElem g1,List.getElem?_eq_getElem g2] at h; exact h
   ·omega
 |succ x ih =>
  intro d hx
  have ih:=fun {d}=>@ih d (by omega)
  rw[fM]
  split
  ·rename_i h2
   rw[ih]
   constructor
   ·rintro⟨g1,g2⟩
    exact⟨g1,fun j hj=>(g2 j hj).imp id fun⟨a,b⟩=>⟨by omega,b⟩⟩
   ·rintro⟨g1,g2⟩
    refine⟨g1,fun j hj=>(g2 j hj).imp id fun⟨a,b,c'⟩=>⟨?_,b,c'⟩⟩
    by_cases e:j=x
    ·subst e; omega
    ·omega
  ·rename_i h2
   rw[List.mem_append,List.mem_flatMap]
   have hset: ∀ {d:List Int} {k:Int},d.length=c.length-> ∀ j,(d.set x k).getD j 0=if j=x then k else d.getD j 0:=fun hd j=>DF (by omega)
   constructor
   ·rintro(h|⟨e,he,h⟩)
    ·obtain⟨g1,g2⟩:=ih.1 h
     exact⟨g1,fun j hj=>(g2 j hj).imp id fun⟨a,b⟩=>⟨by omega,b⟩⟩
    ·obtain⟨g1,g2⟩:=ih.1 he
     have h34: ∃ k:Int,(k=3\/k=4)/\d=e.set x k:=by
      simp only[List.mem_cons,List.not_mem_nil,or_false] at h
      rcases h with rfl|rfl
      ·exact⟨3,.inl rfl,rfl⟩
      ·exact⟨4,.inr rfl,rfl⟩
     obtain⟨k,hk,rfl⟩:=h34
     refine⟨by rw[List.length_set]; exact g1,fun j hj=>?_⟩
     rw[hset g1]
     by_cases ej:j=x
     ·subst ej; rw[if_pos rfl]; exact .inr ⟨by omega,by omega,hk⟩
     ·rw[if_neg ej]; exact(g2 j hj).imp id fun⟨a,b⟩=>⟨by omega,b⟩
   ·rintro⟨g1,g2⟩
    rcases g2 x (by omega) with hxx|⟨_,hx2,hxx⟩
    ·refine .inl (ih.2 ⟨g1,fun j hj=>?_⟩)
     by_cases ej:j=x
     ·subst ej; exact .inl hxx
     ·exact(g2 j hj).imp id fun⟨a,b⟩=>⟨by omega,b⟩
    ·refine .inr ⟨d.set x (c.getD x 0),ih.2 ⟨by rw[List.length_set]; exact g1,fun j hj=>?_⟩,?_⟩
     ·rw[hset g1]
      by_cases ej:j=x
      ·subst ej; rw[if_pos rfl]; exact .inl rfl
      ·rw[if_neg ej]; exact(g2 j hj).imp id fun⟨a,b⟩=>⟨by omega,b⟩
     ·have hd: ∀ k:Int,d.getD x 0=k->d=(d.set x (c.getD x 0)).set x k:=fun k hk=>by
       rw[List.set_set]
       refine List.ext_getElem (by rw[List.length_set]) fun j q1 q2=>?_
       rw[List.getElem_set]
       split
       ·rename_i e; subst e
        rw[<- hk,List.getD_eq_getElem?_getD,List.getElem?_eq_getElem q1]; rfl
       ·rfl
      simp only[List.mem_cons,List.not_mem_nil,or_false]
      rcases hxx with h|h
      ·exact .inl (hd 3 h)
      ·exact .inr (hd 4 h)
theorem Pz{c d:List Int}{x:Nat}(hx:x<=c.length)(h:d∈fM c x):d.length=c.length:=((Py hx).1 h).1
theorem aaS{a:Elem}{x i b:Nat}(hi:i<(fM a.counts x).length):(jU a (zV a.counts x i b)).getD i default=⟨a.value,(fM a.counts x).getD i []⟩:=by
 unfold jU zV Fa
 rw[List.append_assoc,List.map_append,List.getD_eq_getElem?_getD,List.getElem?_append_left (by rw[List.length_map]; exact hi),List.getElem?_map,List.getElem?_eq_getElem hi]
 simp[hi]
set_option maxHeartbeats 1000000 in
theorem S.rO(a:Elem)(hl:a.counts.length<=6):aj Tryz.prog 54 [.dat (.elem a)] (.row 3 false (.elems (jU a (fM a.counts a.counts.length)))):=by
 refine aj.of Bd.rO (by simp) rfl rfl ?_
 conv=>whnf
 refine ah.pure (S.oM a (by omega)) rfl ?_
 conv=>whnf
 refine aI.qg 7 [1] (fun i:Nat=>[(4,.int i),(3,.own 4)]) (fun i=>[(0,.box 50 3 (.dat (.elem a))),(4,eP (jU a (fM a.counts i)))]) (fun i=>i<=a.counts.length) (fun i=>a.counts.length-i) 0 [0,4] rfl (by decide) (fun _=>rfl) (Nat.zero_le _) ?_ ?_ ?_
 ·exact⟨⟨_,rfl,.eq rfl⟩,⟨_,rfl,.eq rfl⟩,trivial⟩
 ·exact⟨okF rfl nofun rfl rfl rfl ⟨rfl,rfl⟩ rfl,okF rfl nofun rfl rfl rfl ⟨rfl,rfl⟩ rfl,trivial⟩
 conv=>whnf
 refine⟨⟨⟨_,rfl,.eq rfl⟩,trivial⟩,rfl,?_⟩
 rintro x hx
 have hcap:=@Px a.counts x
 have h3x:3^x<=3^6:=Nat.pow_le_pow_right (by decide) (by omega)
 have h36:3^6=729:=by decide
 conv=>whnf
 refine⟨fun h1=>?_,fun h1=>?_⟩
 ·have hx':x<a.counts.length:=by simpa using h1
  conv=>whnf
  refine .mk (by simp only[Rw.rng]; omega) ?_
  conv=>whnf
  refine⟨fun h2=>?_,fun h2=>?_⟩
  ·have h2':a.counts.getD x 0<2:=of_decide_eq_true h2
   conv=>whnf
   refine .mk (by simp only[okI] at *; first|omega|(simp_all; done)|(simp_all; omega)) ?_
   conv=>whnf
   refine⟨x+1,[0,4],by omega,by omega,⟨⟨_,rfl,.eq rfl⟩,⟨_,rfl,.eq rfl⟩,trivial⟩,⟨⟨_,rfl,.eq rfl⟩,trivial⟩,okF rfl nofun rfl rfl rfl ⟨rfl,rfl⟩ rfl,okF rfl nofun rfl rfl rfl ⟨rfl,rfl⟩ (by rw[fM,if_pos h2']),trivial⟩
  have h2': ¬ a.counts.getD x 0<2:=of_decide_eq_false h2
  conv=>whnf
  refine aI.qg 7 [1,4,5] (fun i:Nat=>[(6,.int i),(3,.own 4)]) (fun i=>[(0,.box 50 3 (.dat (.elem a))),(4,eP (jU a (Fa a.counts x i)))]) (fun i=>i<=(fM a.counts x).length) (fun i=>(fM a.counts x).length-i) 0 [0,4] rfl (by decide) (fun _=>rfl) (Nat.zero_le _) ?_ ?_ ?_
  ·exact⟨⟨_,rfl,.eq rfl⟩,⟨_,rfl,.eq rfl⟩,trivial⟩
  ·exact⟨okF rfl nofun rfl rfl rfl ⟨rfl,rfl⟩ rfl,okF rfl nofun rfl rfl rfl ⟨rfl,rfl⟩ (by simp[Fa]),trivial⟩
  conv=>whnf
  refine⟨⟨⟨_,rfl,.eq rfl⟩,⟨_,rfl,.eq rfl⟩,⟨_,rfl,.eq rfl⟩,trivial⟩,rfl,?_⟩
  rintro i hi
  have hA:(Fa a.counts x i).length<=729*3:=by
   unfold Fa
   have:=DK (l:=(fM a.counts x).take i) (f:=fun d=>[d.set x 3,d.set x 4]) (k:=2) (fun _ _=>Nat.le_refl _)
   rw[List.length_take] at this
   rw[List.length_append]; omega
  conv=>whnf
  refine⟨fun h3=>?_,fun h3=>?_⟩
  ·have hi':i<(fM a.counts x).length:=by
    have hml:(jU a (fM a.counts x)).length=(fM a.counts x).length:=by simp[jU]
    have:(i:Int)<((jU a (fM a.counts x)).length:Int):=of_decide_eq_true h3
    omega
   have hdl:((fM a.counts x).getD i []).length=a.counts.length:=Pz hx (je hi')
   conv=>whnf
   refine aI.Um 7 [1,4,5,6] (fun b:Nat=>[(7,.int (3+(b:Int))),(3,.own 4)]) (fun b=>[(0,.box 50 3 (.dat (.elem a))),(4,eP (jU a (zV a.counts x i b)))]) (fun b=>b<=2) (fun b=>2-b) 0 [0,4] [(0,some (.box 50 3 (.dat (.elem a)))),(4,some (eP (jU a (Fa a.counts x i))))] rfl (by decide) (fun _=>rfl) (Nat.zero_le _) ?_ ?_ ?_ ?_
   ·exact⟨⟨_,rfl,.eq rfl⟩,⟨_,rfl,.eq rfl⟩,trivial⟩
   ·exact⟨fun _=>False,mJ (Z:=fun _=>False) rfl (fun q=>q),mJ (Z:=fun _=>False) rfl (fun q=>q),trivial⟩
   ·exact⟨okF rfl nofun rfl rfl rfl ⟨rfl,rfl⟩ rfl,okF rfl nofun rfl rfl rfl ⟨rfl,rfl⟩ (by simp[zV]),trivial⟩
   conv=>whnf
   refine⟨⟨⟨_,rfl,.eq rfl⟩,⟨_,rfl,.eq rfl⟩,⟨_,rfl,.eq rfl⟩,⟨_,rfl,.eq rfl⟩,trivial⟩,rfl,?_⟩
   rintro b hb
   have hB:(jU a (zV a.counts x i b)).length<=729*3+2:=by
    unfold jU zV; rw[List.length_map,List.length_append,List.length_map,List.length_range]; omega
   have hiB:i<(jU a (zV a.counts x i b)).length:=by
    unfold jU zV Fa; rw[List.length_map,List.length_append,List.length_append]; omega
   have hget:=aaS (a:=a) (b:=b) hi'
   conv=>whnf
   refine⟨fun h4=>?_,fun h4=>?_⟩
   ·have hb':b<2:=by have:=of_decide_eq_true h4; omega
    conv=>whnf
    repeat(refine VC.mk (by simp only[Rw.rng,Int.toNat_natCast]; omega) ?_; conv=>whnf)
    rw[show(jU a (zV a.counts x i b)).getD (i:Int).toNat default=⟨a.value,(fM a.counts x).getD i []⟩ from hget]
    refine ah.heap (qY.frame (S.EX ⟨a.value,(fM a.counts x).getD i []⟩ (by show((fM a.counts x).getD i []).length<_; omega)) _ _) ?_
    rintro t hp' ⟨rfl,rfl⟩
    refine⟨.agg [.int a.value,.own 13],(13,some (xJ ((fM a.counts x).getD i [])))::_,rfl,MO,?_⟩
    conv=>whnf
    repeat(refine VC.mk (by first|(first|(simp only[Rw.rng,Int.toNat_natCast]; omega)|(show((jU a (zV a.counts x i b)).length+(0+1))*32<=140737488355328/\(jU a (zV a.counts x i b)).length+(0+1)<=1152921504606846976; omega))|(simp only[okI] at *; first|omega|(simp_all; done)|(simp_all; omega))) ?_; conv=>whnf)
    refine⟨[(0,some (.box 50 3 (.dat (.elem a)))),(25,some (eP (jU a (zV a.counts x i b)++[⟨a.value,((fM a.counts x).getD i []).set x (3+(b:Int))⟩])))],b+1,[0,25],⟨fun i=>i=13,mJ (Z:=fun i=>i=13) (i:=0) rfl (by decide),X4 (Z:=fun i=>i=13) (i:=25) (j:=13) (e:=⟨a.value,((fM a.counts x).getD i []).set x (3+(b:Int))⟩) rfl (by decide) rfl rfl,trivial⟩,by omega,by omega,⟨⟨_,rfl,.eq ?_⟩,⟨_,rfl,.eq rfl⟩,trivial⟩,⟨⟨_,rfl,.eq rfl⟩,⟨_,rfl,.eq rfl⟩,⟨_,rfl,.eq rfl⟩,⟨_,rfl,.eq rfl⟩,trivial⟩,okF rfl nofun rfl rfl rfl ⟨rfl,rfl⟩ rfl,okF rfl nofun rfl rfl rfl ⟨rfl,rfl⟩ ?_,trivial⟩
    ·show T.int (3+((b+1:Nat):Int))=T.int (3+(b:Int)+1)
     have:(3+((b+1:Nat):Int))=3+(b:Int)+1:=by omega
     rw[this]
    ·rw[VO]; unfold jU; rw[List.map_append]; rfl
   ·have hb':b=2:=by have:=of_decide_eq_false h4; omega
    subst hb'
    rw[<- VN hi']
    conv=>whnf
    refine .mk (by simp only[okI] at *; first|omega|(simp_all; done)|(simp_all; omega)) ?_
    conv=>whnf
    refine⟨i+1,[0,4],by omega,by omega,⟨⟨_,rfl,.eq rfl⟩,⟨_,rfl,.eq rfl⟩,trivial⟩,⟨⟨_,rfl,.eq rfl⟩,⟨_,rfl,.eq rfl⟩,⟨_,rfl,.eq rfl⟩,trivial⟩,okF rfl nofun rfl rfl rfl ⟨rfl,rfl⟩ rfl,okF rfl nofun rfl rfl rfl ⟨rfl,rfl⟩ rfl,trivial⟩
  ·have hi':i=(fM a.counts x).length:=by
    have hml:(jU a (fM a.counts x)).length=(fM a.counts x).length:=by simp[jU]
    have: ¬ (i:Int)<((jU a (fM a.counts x)).length:Int):=of_decide_eq_false h3
    omega
   subst hi'
   rw[X5 h2']
   conv=>whnf
   refine .mk (by simp only[okI] at *; first|omega|(simp_all; done)|(simp_all; omega)) ?_
   conv=>whnf
   refine⟨x+1,[0,4],by omega,by omega,⟨⟨_,rfl,.eq rfl⟩,⟨_,rfl,.eq rfl⟩,trivial⟩,⟨⟨_,rfl,.eq rfl⟩,trivial⟩,okF rfl nofun rfl rfl rfl ⟨rfl,rfl⟩ rfl,okF rfl nofun rfl rfl rfl ⟨rfl,rfl⟩ rfl,trivial⟩
 ·have hx':x=a.counts.length:=by
   have: ¬ x<a.counts.length:=by simpa using h1
   omega
  subst hx'
  conv=>whnf
  exact ak.VG rfl
theorem KU{c d:List Int}(hc:F7 c)(h2:c.all OO=true):d∈fM c c.length↔d∈qI (iU c) c.length:=by
 rw[Py (Nat.le_refl _),DT hc]
 have hle: ∀ j,j<c.length->c.getD j 0<=2:=fun j hj=>by
  have:=List.all_eq_true.1 h2 (c.getD j 0) (je hj)
  simpa [OO] using this
 refine and_congr_right fun _=>forall_congr' fun j=>forall_congr' fun hj=>?_
 have:=hle j hj
 constructor
 ·intro h
  unfold Cm
  cases hb:(c.getD j 0==2) with
  |true =>
   have:c.getD j 0=2:=by simpa using hb
   simp only[cond_true,List.mem_cons,List.not_mem_nil,or_false]; omega
  |false =>
   have:c.getD j 0≠2:=by simpa using hb
   simp only[cond_false,List.mem_singleton]; omega
 ·intro h
  rcases DU h with h|⟨h,g⟩
  ·exact .inl h
  ·exact .inr ⟨hj,by omega,g⟩
theorem adn: ∀ {c d:List Int},d.length=c.length->(∀ j,j<c.length->c.getD j 0<=d.getD j 0)->c.sum<=d.sum:=by
 intro c
 induction c with
 |nil=>intro d h _; rw[List.eq_nil_of_length_eq_zero h]; exact Int.le_refl _
 |cons x c ih =>
  intro d h hj
  cases d with
  |nil=>cases h
  |cons y d =>
   have h0:=hj 0 (by simp)
   have h1:=ih (d:=d) (by simpa using h) (fun j q=>by have:=hj (j+1) (by simpa using q); simpa using this)
   simp only[List.getD_cons_zero] at h0
   simp only[List.sum_cons]; omega
theorem AU{d:List Int}(h:F7 d):d.all EZ=true:=List.all_eq_true.2 fun x hx=>aaT.2 (h x hx)
theorem X6{a:Elem}(hc:F7 a.counts)(hl:a.counts.length<=6)(h0:0<sS a){e:Elem}:e∈mG a.value (iU a.counts)↔e.value=a.value/\e.counts∈qI (iU a.counts) a.counts.length:=by
 constructor
 ·intro h
  obtain⟨h1,h2,h3,_⟩:=AP h
  rw[kQ] at h3
  exact⟨h1,h3⟩
 ·rintro⟨h1,h2⟩
  obtain⟨v,d⟩:=e
  simp only at h1 h2
  subst h1
  unfold mG DL
  rw[List.mem_filter,kQ]
  refine⟨List.mem_map.2 ⟨d,h2,rfl⟩,decide_eq_true ?_⟩
  obtain⟨g1,g2⟩:=(DT hc).1 h2
  rw[DJ (by show d.length<=6; omega) (AU (MZ hc h2))]
  rw[DJ hl (AU hc)] at h0
  have:=adn g1 fun j hj=>by
   have:=DU (g2 j hj); omega
  show 0<d.sum
  omega
theorem PD{a e:Elem}{L:List (List Int)}:e∈jU a L↔e.value=a.value/\e.counts∈L:=by
 unfold jU
 rw[List.mem_map]
 constructor
 ·rintro⟨d,hd,rfl⟩; exact⟨rfl,hd⟩
 ·rintro⟨h1,h2⟩; exact⟨e.counts,h2,by rw[<- h1]⟩
structure JX(a:Elem):Prop where
 ok:F7 a.counts
 two:a.counts.all OO=true
 len:a.counts.length<=6
 tot:0<sS a
theorem JX.cho{a:Elem}(h:JX a){e:Elem}:e∈mG a.value (iU a.counts)↔e∈jU a (fM a.counts a.counts.length):=by
 rw[X6 h.ok h.len h.tot,PD,KU h.ok h.two]
theorem JX.pos{a:Elem}(h:JX a):0<a.counts.length:=by
 have:=h.tot
 rcases Nat.eq_zero_or_pos a.counts.length with h0|h0
 ·rw[DJ h.len (AU h.ok),List.eq_nil_of_length_eq_zero h0] at this; simp at this
 ·exact h0
def acG(r:Rule)(a:Elem):List Elem:=(lK r (jU a (fM a.counts a.counts.length))).foldl nD []
theorem X7{r:Rule}{a:Elem}(h:JX a):acG r a=mX r a:=by
 obtain⟨s1,s2⟩:=RS (lK r (jU a (fM a.counts a.counts.length))) [] (by simp[SS])
 refine E9 s1 (xO _) fun x=>?_
 unfold acG at *
 rw[s2,mX,rM]
 simp only[List.not_mem_nil,false_or]
 unfold lK
 rw[List.mem_filterMap,List.mem_filterMap]
 exact exists_congr fun e=>and_congr_left fun _=>h.cho.symm
theorem VP{l:List Elem}{r:Rule}{j:Nat}(hj:j<l.length):(lK r (l.take (j+1))).foldl nD []=match BH r (l.getD j default) with|some x=>nD ((lK r (l.take j)).foldl nD []) x|none=>(lK r (l.take j)).foldl nD []:=by
 rw[Ik hj,List.foldl_append]
 cases BH r (l.getD j default)<;>rfl
theorem X8{a:Elem}(hl:a.counts.length<=6):(jU a (fM a.counts a.counts.length)).length<=729:=by
 have h:=@Px a.counts a.counts.length
 have h3x:3^a.counts.length<=3^6:=Nat.pow_le_pow_right (by decide) hl
 have h36:3^6=729:=by decide
 unfold jU; rw[List.length_map]; omega
theorem Ur{a e:Elem}(h:JX a)(he:e∈jU a (fM a.counts a.counts.length)):e.counts.length=a.counts.length/\F7 e.counts:=by
 have h2:=(PD.1 he).2
 exact⟨Pz (Nat.le_refl _) h2,MZ h.ok ((KU h.ok h.two).1 h2)⟩
set_option maxHeartbeats 1000000 in
theorem S.vC(p:aN)(r:Int)(a:Elem)(hp:dP p)(hr:zN a.counts.length (p.rules.getD r.toNat default))(Nb:0<=r/\r<p.rules.length)(h:JX a):aj Tryz.prog 83 [.dat (.jA p),.int r,.dat (.elem a)] (.row 3 false (.elems (mX (p.rules.getD r.toNat default) a))):=by
 rw[<- X7 h]
 have hml:=X8 h.len
 have hlen:=h.len
 have hsr:=hp.rule r.toNat
 refine aj.of Bd.vC (by simp) rfl rfl ?_
 conv=>whnf
 refine ah.pure (S.rO a h.len) rfl ?_
 conv=>whnf
 refine aI.nil 8 50 3 (by rfl) rfl rfl rfl ?_
 refine aI.qg 20 [1,3,7] (fun j:Nat=>[(9,.int j),(8,.own 8)]) (fun j=>[(0,.box 27 11 (.dat (.jA p))),(8,eP ((lK (p.rules.getD r.toNat default) ((jU a (fM a.counts a.counts.length)).take j)).foldl nD []))]) (fun j=>j<=(jU a (fM a.counts a.counts.length)).length) (fun j=>(jU a (fM a.counts a.counts.length)).length-j) 0 [0,8] rfl (by decide) (fun _=>rfl) (Nat.zero_le _) ?_ ?_ ?_
 ·exact⟨⟨_,rfl,.eq rfl⟩,⟨_,rfl,.eq rfl⟩,trivial⟩
 ·exact⟨okF rfl nofun rfl rfl rfl ⟨rfl,rfl⟩ rfl,okF rfl nofun rfl rfl rfl ⟨rfl,rfl⟩ rfl,trivial⟩
 conv=>whnf
 refine⟨⟨⟨_,rfl,.eq rfl⟩,⟨_,rfl,.eq rfl⟩,⟨_,rfl,.eq rfl⟩,trivial⟩,rfl,?_⟩
 rintro j hj
 have hfl:((lK (p.rules.getD r.toNat default) ((jU a (fM a.counts a.counts.length)).take j)).foldl nD []).length<=729:=by
  have h1:=X9 (lK (p.rules.getD r.toNat default) ((jU a (fM a.counts a.counts.length)).take j)) []
  have h2:=AQ (r:=p.rules.getD r.toNat default) (l:=(jU a (fM a.counts a.counts.length)).take j)
  rw[List.length_take] at h2
  rw[List.length_nil,Nat.zero_add] at h1; omega
 have hsm:eH ((lK (p.rules.getD r.toNat default) ((jU a (fM a.counts a.counts.length)).take j)).foldl nD []):=fun x hx=>by
  rcases Ya _ _ _ hx with hx|hx
  ·cases hx
  ·rw[zS (n:=a.counts.length) (fun e he=>(Ur h (List.mem_of_mem_take he)).1) hx]; omega
 conv=>whnf
 refine⟨fun h2=>?_,fun h2=>?_⟩
 ·have hj':j<(jU a (fM a.counts a.counts.length)).length:=by simpa using h2
  have hstep:=VP (r:=p.rules.getD r.toNat default) hj'
  have hmem:(jU a (fM a.counts a.counts.length)).getD j default∈jU a (fM a.counts a.counts.length):=je hj'
  obtain⟨g1,g2⟩:=Ur h hmem
  conv=>whnf
  repeat(refine VC.mk (by simp only[Rw.rng]; omega) ?_; conv=>whnf)
  refine Ig.pure (aj.KQ (S.vF (p.rules.getD r.toNat default) ((jU a (fM a.counts a.counts.length)).getD j default) hsr (by rw[g1]; exact hr) g2 (by omega))) rfl ?_
  conv=>whnf
  refine⟨fun h3=>?_,fun h3=>?_⟩
  ·obtain⟨x,hx⟩:=Option.isSome_iff_exists.1 h3
   replace hx:gJ (p.rules.getD r.toNat default) ((jU a (fM a.counts a.counts.length)).getD j default)=some x:=hx
   have hxl:=xM hx
   rw[BH,hx] at hstep
   rw[show gJ (p.rules.getD r.toNat default) ((jU a (fM a.counts a.counts.length)).getD (j:Int).toNat default)=some x from hx]
   conv=>whnf
   refine ah.pure (S.o8 x (by rw[hxl]; omega)) rfl ?_
   conv=>whnf
   refine ah.insert rfl rfl (by omega) hsm (by show(qA x.counts).length<_; rw[qA,List.length_map,hxl]; omega) (fun hf=>?_) (fun hf=>?_)
   ·have hins:nD ((lK (p.rules.getD r.toNat default) ((jU a (fM a.counts a.counts.length)).take j)).foldl nD []) (RF x)=(lK (p.rules.getD r.toNat default) ((jU a (fM a.counts a.counts.length)).take j)).foldl nD []:=by rw[nD,if_pos hf]
    conv=>whnf
    refine .mk (by simp only[okI] at *; first|omega|(simp_all; done)|(simp_all; omega)) ?_
    conv=>whnf
    refine⟨j+1,[0,8],by omega,by omega,⟨⟨_,rfl,.eq rfl⟩,⟨_,rfl,.eq rfl⟩,trivial⟩,⟨⟨_,rfl,.eq rfl⟩,⟨_,rfl,.eq rfl⟩,⟨_,rfl,.eq rfl⟩,trivial⟩,okF rfl nofun rfl rfl rfl ⟨rfl,rfl⟩ rfl,okF rfl nofun rfl rfl rfl ⟨rfl,rfl⟩ (by rw[hstep]; simp only[Option.map_some]; rw[hins]),trivial⟩
   ·conv=>whnf
    refine .mk (by simp only[okI] at *; first|omega|(simp_all; done)|(simp_all; omega)) ?_
    conv=>whnf
    refine⟨j+1,[0,44],by omega,by omega,⟨⟨_,rfl,.eq rfl⟩,⟨_,rfl,.eq rfl⟩,trivial⟩,⟨⟨_,rfl,.eq rfl⟩,⟨_,rfl,.eq rfl⟩,⟨_,rfl,.eq rfl⟩,trivial⟩,okF rfl nofun rfl rfl rfl ⟨rfl,rfl⟩ rfl,okF rfl nofun rfl rfl rfl ⟨rfl,rfl⟩ (by rw[hstep]; rfl),trivial⟩
  ·replace h3:(gJ (p.rules.getD r.toNat default) ((jU a (fM a.counts a.counts.length)).getD j default)).isSome=false:=h3
   rw[Option.isSome_eq_false_iff,Option.isNone_iff_eq_none] at h3
   rw[BH,h3] at hstep
   conv=>whnf
   refine .mk (by simp only[okI] at *; first|omega|(simp_all; done)|(simp_all; omega)) ?_
   conv=>whnf
   refine⟨j+1,[0,8],by omega,by omega,⟨⟨_,rfl,.eq rfl⟩,⟨_,rfl,.eq rfl⟩,trivial⟩,⟨⟨_,rfl,.eq rfl⟩,⟨_,rfl,.eq rfl⟩,⟨_,rfl,.eq rfl⟩,trivial⟩,okF rfl nofun rfl rfl rfl ⟨rfl,rfl⟩ rfl,okF rfl nofun rfl rfl rfl ⟨rfl,rfl⟩ (by rw[hstep]; rfl),trivial⟩
 ·have hj':(jU a (fM a.counts a.counts.length)).length<=j:=by simpa using h2
  rw[List.take_of_length_le hj']
  conv=>whnf
  exact ak.VG rfl
end Go.Proofs.YtkomllaebngbfaaGreatDoor
