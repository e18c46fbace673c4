/-
 fair: a step with a rule. No condition.
-/
import Derived.Test.YtajmbgljnaljiaaGreatDoorAa
import Derived.Test.YtajmbgljnaljiaaGreatDoorLg
import Derived.Test.YtajmbgljnaljiaaGreatDoorKa
import Derived.Test.YtajmbgljnaljiaaGreatDoorFa
namespace Go.Proofs.YtajmbgljnaljiaaGreatDoor
open Go.Ab Go.Proofs
set_option maxRecDepth 100000
theorem S.Rx(l:List Int)(f:Bool)(h0:0<l.length)(hl:l.length<2^30)(n:Nat):aN Tryz.prog 92 (V.bn [.row 0 f (.ints l)]) (Hz.ay []) n (fun t hp=>t= .own n/\hp=Hz.ay [(n,some (vZ l))]):=by
 refine oI.of (nx:=0) Bd.fQ (by simp) ⟨_,_,rfl,rfl⟩ rfl rfl ?_
 conv=>whnf
 refine XO.mk (fun hz=>absurd hz (by show ¬ l.length=0; omega)) ?_
 conv=>whnf
 refine Fork.mk (fun q=>absurd (q.symm.trans ((rfl:false=false))).symm Bool.false_ne_true) (fun _=>?_)
 conv=>whnf
 refine .mk (by simp only[nG,og,Rw.len]; omega) ?_
 conv=>whnf
 repeat(refine VC.mk (by simp only[nG,og,Rw.len]; omega) ?_; conv=>whnf)
 exact ny.one (c:=n) (o:=vZ l) (t:=.own n) rfl rfl rfl nofun (.inr rfl) rfl (.eq rfl) ⟨rfl,rfl⟩
theorem S.Ry(l:List Int)(f:Bool)(h0:0<l.length)(hl:l.length<2^30):qY Tryz.prog 92 [.sl 0 f (l.map T.int)] (fun n=>.own n) (some ⟨3,0,l.map T.int⟩):=by
 refine⟨rfl,fun n=>rfl,fun ob h=>?_,fun ob h=>?_,fun n=>?_⟩
 ·cases h
  show T.bC (l.map T.int)=true
  rw[fU]; intro t ht; obtain⟨x,_,rfl⟩:=List.mem_map.1 ht; rfl
 ·cases h; exact show(0:Nat)≠dI by decide
 ·have:=S.Rx l f h0 hl n
  have e1:Hz.ay [(n,some (vZ l))]=fO no n (some ⟨3,0,l.map T.int⟩):=by
   rw[bQ]; simp[fO,OV.aF,Rw.bn,V.bn]; rfl
  rw[e1] at this
  exact this
theorem aaR{c:List Int}(hc: ∀ i,0<=c.getD i 0)(i:Nat):decide (0<c.getD i 0)= !(c.getD i 0==0):=by
 rw[Bool.eq_iff_iff]; simp only[decide_eq_true_eq,Bool.not_eq_true',beq_eq_false_iff_ne,ne_eq]
 have:=hc i; omega
theorem S.nH(r:Rule)(c:List Int)(f:Bool)(hr:wX r)(hc:c.length<2^40)(hpos: ∀ i,0<=c.getD i 0):aj Tryz.prog 93 [.dat (.rule r),.row 0 f (.ints c)] (.bool (wW r c)):=by
 have g1:=hr.ex; have g2:=hr.all
 refine aj.of Bd.nH (by simp) rfl rfl ?_
 conv=>whnf
 refine aI.same [2,12,13] (fun i:Nat=>[(14,.int i),(5,.bool (wY r.ex c i))]) (fun i=>i<=c.length/\zL r.all c i=false) (fun i=>c.length-i) 0 rfl (by decide) rfl (fun _=>rfl) ⟨by omega,rfl⟩ ⟨⟨_,rfl,rfl⟩,⟨_,rfl,?_⟩,trivial⟩ ?_
 ·show(V.bool (wY r.ex c 0)).aG=(V.bool ((r.ex.length:Int)==0)).aG
  rw[wY]; simp
 conv=>whnf
 refine⟨rfl,?_⟩
 rintro i ⟨hi,hall⟩
 conv=>whnf
 refine⟨fun h3=>?_,fun h3=>?_⟩
 ·have hi':i<c.length:=by simpa using h3
  have hp:=aaR hpos i
  conv=>whnf
  repeat(refine VC.mk (by first|exact id|exact fun h=>⟨h,h⟩|(simp only[Rw.rng] at *; first|omega|(simp_all; done)|(simp_all; omega))) ?_; conv=>whnf)
  refine ah.iD (fun _=>S.slices_Contains_int r.ex i false (by omega)) rfl ?_
  conv=>whnf
  refine VC.mk id ?_
  conv=>whnf
  refine⟨fun h4=>?_,fun h4=>?_⟩
  ·replace h4:(decide (0<c.getD i 0)&&yL r.ex i)=true:=h4
   rw[hp] at h4
   conv=>whnf
   repeat(refine VC.mk (by first|exact id|exact fun h=>⟨h,h⟩) ?_; conv=>whnf)
   refine ah.iD (fun _=>S.slices_Contains_int r.all i false (by omega)) rfl ?_
   conv=>whnf
   repeat(refine VC.mk id ?_; conv=>whnf)
   refine⟨fun h5=>?_,fun h5=>?_⟩
   ·replace h5:(decide (0<c.getD i 0)&&decide (0<(r.all.length:Int))&& !(yL r.all i))=true:=h5
    rw[hp,Bool.and_assoc,Bool.and_eq_true] at h5
    conv=>whnf
    exact ak.bool (by rw[wW,OM hi' (by simpa using h5.1) h5.2]; rfl)
   ·replace h5:(decide (0<c.getD i 0)&&decide (0<(r.all.length:Int))&& !(yL r.all i))=false:=h5
    rw[hp,Bool.and_assoc] at h5
    conv=>whnf
    refine .mk (by simp only[okI] at *; first|omega|(simp_all; done)|(simp_all; omega)) ?_
    conv=>whnf
    refine⟨i+1,⟨by omega,by rw[Ie,hall]; exact h5⟩,by omega,⟨⟨_,rfl,rfl⟩,⟨_,rfl,?_⟩,trivial⟩,?_,rfl⟩
    ·rw[Ig,h4]; simp[V.aG,qZ]
    ·repeat' (first|exact trivial|exact⟨_,rfl,rfl⟩|constructor)
  ·replace h4:(decide (0<c.getD i 0)&&yL r.ex i)=false:=h4
   rw[hp] at h4
   conv=>whnf
   repeat(refine VC.mk (by first|exact id|exact fun h=>⟨h,h⟩) ?_; conv=>whnf)
   refine ah.iD (fun _=>S.slices_Contains_int r.all i false (by omega)) rfl ?_
   conv=>whnf
   repeat(refine VC.mk id ?_; conv=>whnf)
   refine⟨fun h5=>?_,fun h5=>?_⟩
   ·replace h5:(decide (0<c.getD i 0)&&decide (0<(r.all.length:Int))&& !(yL r.all i))=true:=h5
    rw[hp,Bool.and_assoc,Bool.and_eq_true] at h5
    conv=>whnf
    exact ak.bool (by rw[wW,OM hi' (by simpa using h5.1) h5.2]; rfl)
   ·replace h5:(decide (0<c.getD i 0)&&decide (0<(r.all.length:Int))&& !(yL r.all i))=false:=h5
    rw[hp,Bool.and_assoc] at h5
    conv=>whnf
    refine .mk (by simp only[okI] at *; first|omega|(simp_all; done)|(simp_all; omega)) ?_
    conv=>whnf
    refine⟨i+1,⟨by omega,by rw[Ie,hall]; exact h5⟩,by omega,⟨⟨_,rfl,rfl⟩,⟨_,rfl,?_⟩,trivial⟩,?_,rfl⟩
    ·rw[Ig,h4]; simp[V.aG]
    ·repeat' (first|exact trivial|exact⟨_,rfl,rfl⟩|constructor)
 ·have hi':c.length<=i:=by simpa using h3
  have e:i=c.length:=Nat.le_antisymm hi hi'
  subst e
  conv=>whnf
  exact ak.bool (by rw[wW,hall]; rfl)
set_option maxHeartbeats 1000000 in
theorem S.rF(r:Rule)(e:Elem)(hr:wX r)(hp:zK e.counts.length r)(hc:F7 e.counts)(hl:e.counts.length<=6):aj Tryz.prog 58 [.dat (.rule r),.dat (.elem e)] (gV r e):=by
 obtain⟨f1,f2⟩:=hp.src
 obtain⟨d1,d2⟩:=hp.dst
 obtain⟨p1,p2⟩:=hp.aaP
 obtain⟨q1,q2⟩:=hp.aaQ
 have hfr:=hc.get (i:=r.fr.toNat) (by omega)
 refine aj.of Bd.rF (by simp) rfl (Ih r e) ?_
 conv=>whnf
 repeat(refine VC.mk (by first|exact id|exact fun h=>⟨h,h⟩|(intro h; rw[h]; rfl)|(intro h; (repeat' apply And.intro)<;>first|exact h|omega|(simp only[Rw.qp]; omega)|(simp only[Rw.rng]; omega))) ?_; conv=>whnf)
 refine⟨fun h1=>?_,fun h1=>?_⟩
 ·have h1':(decide (0<=r.read)&&e.value !=r.read||e.counts.getD r.fr.toNat 0==0)=true:=by rw[bne_comm]; exact h1
  conv=>whnf
  refine ak.eqv ?_
  rw[gV,gG,h1']; rfl
 have h1':(decide (0<=r.read)&&e.value !=r.read||e.counts.getD r.fr.toNat 0==0)=false:=by rw[bne_comm]; exact h1
 conv=>whnf
 refine Ii.row (r:=.ints e.counts) (S.Ry e.counts false (by omega) (by omega)) ?_
 have hl1:(aQ e.counts r.fr).length=e.counts.length:=by simp[aQ]
 conv=>whnf
 repeat(refine VC.mk (by first|(simp only[Rw.rng]; omega)|(simp only[okI,aQ] at *; omega)) ?_; conv=>whnf)
 have hpos: ∀ i,0<=(aQ e.counts r.fr).getD i 0:=Uf hc h1'
 have hB:=hc.b.dec (by omega) r.fr
 refine⟨fun h2=>?_,fun h2=>?_⟩
 ·replace h2:(r.kind==1)=true:=h2
  have hBt:=hB.get (by omega) r.to.toNat
  conv=>whnf
  refine ah.lend (S.nH r (aQ e.counts r.fr) false hr (by omega) hpos) (And.intro (dP _) (And.intro (F8 trivial rfl) trivial)) rfl rfl ?_
  conv=>whnf
  refine⟨fun h5=>?_,fun h5=>?_⟩
  ·replace h5:(!(wW r (aQ e.counts r.fr)))=true:=h5
   conv=>whnf
   refine ak.eqv ?_
   rw[gV,gG,h1',h2,h5]; rfl
  replace h5:(!(wW r (aQ e.counts r.fr)))=false:=h5
  conv=>whnf
  repeat(refine VC.mk (by first|(simp only[Rw.rng,List.length_set]; omega)|(simp only[okI,aQ] at *; omega)) ?_; conv=>whnf)
  refine⟨fun h4=>?_,fun h4=>?_⟩
  ·replace h4:decide (r.write>=0)=true:=h4
   have hS:gV r e= .fP [.dat (.elem ⟨r.write,gU (aQ e.counts r.fr) r.to 1⟩),.bool true]:=by rw[gV,gG,h1',h2,h5,h4]; rfl
   conv=>whnf
   rw[hS]
   exact ak.wC rfl
  ·replace h4:decide (r.write>=0)=false:=h4
   have hS:gV r e= .fP [.dat (.elem ⟨e.value,gU (aQ e.counts r.fr) r.to 1⟩),.bool true]:=by rw[gV,gG,h1',h2,h5,h4]; rfl
   conv=>whnf
   rw[hS]
   exact ak.wC rfl
 replace h2:(r.kind==1)=false:=h2
 conv=>whnf
 refine⟨fun h3=>?_,fun h3=>?_⟩
 ·replace h3:(r.kind==2)=true:=h3
  have hB1:=hB.get (by omega) r.gB.toNat
  have hB2:=hB.dec (by omega) r.gB
  have hB3:=hB2.get (by omega) r.AB.toNat
  have hB4:=hB2.add (by omega) r.AB 1 (k:=1) ⟨by omega,by omega⟩
  have hB5:=hB4.get (by omega) r.to.toNat
  conv=>whnf
  repeat(refine VC.mk (by first|(simp only[Rw.rng,List.length_set]; omega)|(simp only[aQ,gU] at *; omega)) ?_; conv=>whnf)
  refine⟨fun h6=>?_,fun h6=>?_⟩
  ·replace h6:((aQ e.counts r.fr).getD r.gB.toNat 0==0)=true:=h6
   conv=>whnf
   refine ak.eqv ?_
   rw[gV,gG,h1',h2,h3,h6]; rfl
  replace h6:((aQ e.counts r.fr).getD r.gB.toNat 0==0)=false:=h6
  conv=>whnf
  repeat(refine VC.mk (by first|(simp only[Rw.rng,List.length_set]; omega)|(simp only[okI,aQ,gU] at *; omega)) ?_; conv=>whnf)
  refine⟨fun h4=>?_,fun h4=>?_⟩
  ·replace h4:decide (r.write>=0)=true:=h4
   have hS:gV r e= .fP [.dat (.elem ⟨r.write,gU (gU (aQ (aQ e.counts r.fr) r.gB) r.AB 1) r.to 1⟩),.bool true]:=by rw[gV,gG,h1',h2,h3,h6,h4]; rfl
   conv=>whnf
   rw[hS]
   exact ak.wC rfl
  ·replace h4:decide (r.write>=0)=false:=h4
   have hS:gV r e= .fP [.dat (.elem ⟨e.value,gU (gU (aQ (aQ e.counts r.fr) r.gB) r.AB 1) r.to 1⟩),.bool true]:=by rw[gV,gG,h1',h2,h3,h6,h4]; rfl
   conv=>whnf
   rw[hS]
   exact ak.wC rfl
 replace h3:(r.kind==2)=false:=h3
 conv=>whnf
 refine⟨fun h6=>?_,fun h6=>?_⟩
 ·replace h6:(r.kind==3)=true:=h6
  obtain⟨rs1,rs2⟩:=hp.rsp (beq_iff_eq.1 h6)
  conv=>whnf
  have hm:=Dy (n:=(aQ e.counts r.fr).length) (by omega)
  simp only[aQ] at hm
  rw[hm]
  conv=>whnf
  refine .mk (by simp only[List.length_set]; omega) ?_
  conv=>whnf
  refine aI.nZ 100 [2,4,6,83,84] (fun i:Nat=>[(85,.int i)]) (fun i=>[(0,.box 85 19 (.dat (.rule r))),(1,.box 54 3 (.dat (.elem e))),(2,.box 54 3 (.agg [.int 0,.row 0 true .nil])),(27,vZ (aQ e.counts r.fr)),(29,.box 54 3 (.agg [.int e.value,.own 52])),(52,vZ (oH r (aQ e.counts r.fr) i))]) (fun i=>i<=(aQ e.counts r.fr).length) (fun i=>(aQ e.counts r.fr).length-i) 0 [0,1,2,27,29,52] rfl (by decide) (fun _=>rfl) (Nat.zero_le _) ?_ ?_ ?_
  ·exact⟨⟨_,rfl,.eq rfl⟩,trivial⟩
  ·exact⟨okF rfl nofun rfl rfl rfl ⟨rfl,rfl⟩ rfl,okF rfl nofun rfl rfl rfl ⟨rfl,rfl⟩ rfl,okF rfl nofun rfl rfl rfl ⟨rfl,rfl⟩ rfl,okF rfl nofun rfl rfl rfl ⟨rfl,rfl⟩ rfl,⟨rfl,nofun,rfl,rfl,_,rfl,rfl,rfl,dN.of_eq rfl⟩,okF rfl nofun rfl rfl rfl ⟨rfl,rfl⟩ rfl,trivial⟩
  conv=>whnf
  refine⟨⟨⟨_,rfl,.eq rfl⟩,⟨_,rfl,.eq rfl⟩,⟨_,rfl,.eq rfl⟩,⟨_,rfl,.eq rfl⟩,⟨_,rfl,.eq rfl⟩,trivial⟩,rfl,?_⟩
  rintro i hi
  have hn6:(i:Int)*1048577<=6*1048577:=Int.mul_le_mul_of_nonneg_right (by omega) (by omega)
  have hn0:0<=(i:Int)*1048577:=Int.mul_nonneg (by omega) (by omega)
  have hRB:=XP hB (by omega) (r:=r) i
  have hRl:(oH r (aQ e.counts r.fr) i).length=e.counts.length:=by rw[qH,hl1]
  conv=>whnf
  refine⟨fun g1=>?_,fun g1=>?_⟩
  ·have hi':i<(aQ e.counts r.fr).length:=by
    have:(i:Int)<((aQ e.counts r.fr).length:Int):=of_decide_eq_true g1
    omega
   have hir:i<r.response.length:=by omega
   obtain⟨q3,q4⟩:0<=r.response.getD i 0/\r.response.getD i 0<e.counts.length:=by
    rw[show r.response.getD i 0=r.response[i] by simp[hir]]; exact rs2 _ (List.getElem_mem hir)
   have hR1:=hRB.get hn0 (r.response.getD i 0).toNat
   have hR2:=hB.get (by omega) i
   conv=>whnf
   repeat(refine VC.mk (by first|(first|(simp only[Rw.rng,qH]; omega)|(simp only[okI,aQ,Int.toNat_natCast] at *; omega))|(simp only[Rw.rng] at *; first|omega|(simp_all; done)|(simp_all; omega))) ?_; conv=>whnf)
   refine⟨i+1,[0,1,2,27,29,52],by omega,by omega,⟨⟨_,rfl,.eq rfl⟩,trivial⟩,⟨⟨_,rfl,.eq rfl⟩,⟨_,rfl,.eq rfl⟩,⟨_,rfl,.eq rfl⟩,⟨_,rfl,.eq rfl⟩,⟨_,rfl,.eq rfl⟩,trivial⟩,okF rfl nofun rfl rfl rfl ⟨rfl,rfl⟩ rfl,okF rfl nofun rfl rfl rfl ⟨rfl,rfl⟩ rfl,okF rfl nofun rfl rfl rfl ⟨rfl,rfl⟩ rfl,okF rfl nofun rfl rfl rfl ⟨rfl,rfl⟩ rfl,⟨rfl,nofun,rfl,rfl,_,rfl,rfl,rfl,dN.of_eq rfl⟩,okF rfl nofun rfl rfl rfl ?_ ?_,trivial⟩
   ·exact⟨rfl,rfl⟩
   ·rw[uH]; rfl
  have hi':i=(aQ e.counts r.fr).length:=by
   have: ¬ ((i:Int)<((aQ e.counts r.fr).length:Int)):=of_decide_eq_false g1
   omega
  subst hi'
  have hR1:=hRB.get hn0 r.to.toNat
  conv=>whnf
  repeat(refine VC.mk (by first|(simp only[Rw.rng,qH]; omega)|(simp only[okI,aQ,Int.toNat_natCast] at *; omega)) ?_; conv=>whnf)
  refine⟨fun h4=>?_,fun h4=>?_⟩
  ·replace h4:decide (r.write>=0)=true:=h4
   have hS:gV r e= .fP [.dat (.elem ⟨r.write,gU (oH r (aQ e.counts r.fr) (aQ e.counts r.fr).length) r.to 1⟩),.bool true]:=by rw[gV,gG,h1',h2,h3,h6,h4]; rfl
   conv=>whnf
   rw[hS]
   exact ak.wC rfl
  ·replace h4:decide (r.write>=0)=false:=h4
   have hS:gV r e= .fP [.dat (.elem ⟨e.value,gU (oH r (aQ e.counts r.fr) (aQ e.counts r.fr).length) r.to 1⟩),.bool true]:=by rw[gV,gG,h1',h2,h3,h6,h4]; rfl
   conv=>whnf
   rw[hS]
   exact ak.wC rfl
 replace h6:(r.kind==3)=false:=h6
 have hBt:=hB.get (by omega) r.to.toNat
 conv=>whnf
 repeat(refine VC.mk (by first|(simp only[Rw.rng,List.length_set]; omega)|(simp only[okI,aQ] at *; omega)) ?_; conv=>whnf)
 refine⟨fun h4=>?_,fun h4=>?_⟩
 ·replace h4:decide (r.write>=0)=true:=h4
  have hS:gV r e= .fP [.dat (.elem ⟨r.write,gU (aQ e.counts r.fr) r.to 1⟩),.bool true]:=by rw[gV,gG,h1',h2,h3,h6,h4]; rfl
  conv=>whnf
  rw[hS]
  exact ak.wC rfl
 ·replace h4:decide (r.write>=0)=false:=h4
  have hS:gV r e= .fP [.dat (.elem ⟨e.value,gU (aQ e.counts r.fr) r.to 1⟩),.bool true]:=by rw[gV,gG,h1',h2,h3,h6,h4]; rfl
  conv=>whnf
  rw[hS]
  exact ak.wC rfl
abbrev jH(l:List (List Int)):OV:=.row 24 0 (.jm l) []
theorem Vw(l:List (List Int)):T.bC (l.map Go.Ab.ints)=true:=by
 rw[fU]; intro t ht; obtain⟨x,_,rfl⟩:=List.mem_map.1 ht; rfl
theorem Rz{h:Hz}{j:Nat}{Z:Nat->Prop}{l:List (List Int)}(hz:Z j)(q:h.get j=some (jH l)):T.sub Z h.ay (V.row 0 false (.jm l)).aG (V.own j).aG:=by
 show T.sub Z h.ay (.sl 0 false (l.map Go.Ab.ints)) (.own j)
 simp only[T.sub]
 refine⟨trivial,hz,Vw l,by decide,24,?_⟩
 have:=aZ q; simpa [OV.aF,Rw.bn,V.bn] using this
theorem ak.ae0{h:Hz}{j:Nat}{l:List (List Int)}(q:h.get j=some (jH l)):ak (.row 0 false (.jm l)) (.own j) h:=⟨Rz trivial q⟩
theorem EZ{Z:Nat->Prop}{h:Hz}{i j:Nat}{r:Rw}{l:List (List Int)}{c:List Int}(q:h.get i=some (.row 24 0 r [.own j]))(hr:r.bn=l.map Go.Ab.ints)(hi: ¬ Z i)(hz:Z j)(qj:h.get j=some (vZ c)) :
  ∃ o',h.get i=some o'/\ ¬ Z i/\o'.aF.ty=(jH (l++[c])).aF.ty/\o'.aF.k=(jH (l++[c])).aF.k/\T.dM Z h.ay (jH (l++[c])).aF.l o'.aF.l/\(jH (l++[c])).aF.l.map T.kd=o'.aF.l.map T.kd/\(jH (l++[c])).aF.l.map fV=o'.aF.l.map fV:=by
 have e1:(jH (l++[c])).aF.l=r.bn++[Go.Ab.ints c]:=by rw[hr]; simp[OV.aF,Rw.bn,V.bn]
 refine⟨_,q,hi,rfl,rfl,?_,?_,?_⟩
 ·rw[e1]
  exact zM (dS _) ⟨F8 hz qj,trivial⟩
 ·rw[e1]; show _=List.map T.kd (r.bn++[.own j])
  rw[List.map_append,List.map_append]; rfl
 ·rw[e1]; show _=List.map fV (r.bn++[.own j])
  rw[List.map_append,List.map_append]; rfl
theorem iY{α:Type}{l:List α}{i:Nat}{d:α}(h:i<l.length):l.getD i d∈l:=by
 rw[List.getD_eq_getElem?_getD,List.getElem?_eq_getElem h]; exact List.getElem_mem h
def qI(N:List (List Int)):Nat->List (List Int)
 |0=>[[]]
 |i+1=>(qI N i).flatMap fun h=>(N.getD i []).map fun n=>h++[n]
def MQ(N:List (List Int))(i a:Nat):List (List Int):=((qI N i).take a).flatMap fun h=>(N.getD i []).map fun n=>h++[n]
def GI(N:List (List Int))(i a b:Nat):List (List Int):=MQ N i a++((N.getD i []).take b).map fun n=>(qI N i).getD a []++[n]
theorem Vx{N:List (List Int)}{i a:Nat}(ha:a<(qI N i).length):MQ N i (a+1)=GI N i a (N.getD i []).length:=by
 unfold MQ GI
 have ht:(qI N i).take (a+1)=(qI N i).take a++[(qI N i).getD a []]:=by rw[List.take_add_one]; simp[ha]
 rw[ht,List.flatMap_append,List.take_length]; simp[MQ]
theorem OO{N:List (List Int)}{i:Nat}:MQ N i (qI N i).length=qI N (i+1):=by
 unfold MQ; rw[List.take_length]; rfl
theorem Vy{N:List (List Int)}{i a b:Nat}(hb:b<(N.getD i []).length):GI N i a (b+1)=GI N i a b++[(qI N i).getD a []++[(N.getD i []).getD b 0]]:=by
 unfold GI
 revert hb
 generalize N.getD i []=L
 intro hb
 have ht:L.take (b+1)=L.take b++[L.getD b 0]:=by rw[List.take_add_one]; simp[hb]
 rw[ht,List.map_append,<- List.append_assoc]; rfl
theorem DI{α β:Type}{f:α->List β}{k:Nat}: ∀ {l:List α},(∀ x∈l,(f x).length<=k)->(l.flatMap f).length<=l.length*k:=by
 intro l
 induction l with
 |nil=>intro _; simp
 |cons x r ih =>
  intro h
  rw[List.flatMap_cons,List.length_append,List.length_cons,Nat.succ_mul]
  have:=h x (by simp); have:=ih fun y hy=>h y (by simp[hy]); omega
def Ce(N:List (List Int)):Prop:= ∀ i,(N.getD i []).length<=3
theorem OQ{N:List (List Int)}(hN:Ce N){i a:Nat}(ha:a<=(qI N i).length):(MQ N i a).length<=a*3:=by
 have:=DI (l:=(qI N i).take a) (f:=fun h=>(N.getD i []).map fun n=>h++[n]) (k:=3) (fun x _=>by rw[List.length_map]; exact hN i)
 rw[List.length_take,Nat.min_eq_left ha] at this
 exact this
theorem aaS{N:List (List Int)}(hN:Ce N): ∀ {i:Nat},(qI N i).length<=3^i:=by
 intro i
 induction i with
 |zero=>exact Nat.le_refl _
 |succ i ih =>
  have:=OQ hN (Nat.le_refl (qI N i).length)
  rw[OO] at this
  rw[Nat.pow_succ]; omega
theorem MR{N:List (List Int)}: ∀ {i:Nat} {c:List Int},c∈qI N i->c.length=i:=by
 intro i
 induction i with
 |zero=>intro c h; simp[qI] at h; rw[h]; rfl
 |succ i ih =>
  intro c h
  simp only[qI,List.mem_flatMap,List.mem_map] at h
  obtain⟨x,hx,n,_,rfl⟩:=h
  rw[List.length_append,ih hx]; rfl
theorem Ug{N:List (List Int)}(hN:Ce N){i:Nat}(hi:i<=6):(qI N i).length<=729:=by
 have h1:=aaS hN (i:=i)
 have h2:3^i<=3^6:=Nat.pow_le_pow_right (by decide) hi
 have h3:3^6=729:=by decide
 omega
def DJ(v:Int)(l:List (List Int)):List Elem:=(l.map fun c=>(⟨v,c⟩:Elem)).filter fun e=>decide (0<zD e)
def mD(v:Int)(N:List (List Int)):List Elem:=DJ v (qI N N.length)
theorem Vz{v:Int}{l:List (List Int)}{a:Nat}(ha:a<l.length):DJ v (l.take (a+1))=DJ v (l.take a)++(if decide (0<zD ⟨v,l.getD a []⟩)=true then [⟨v,l.getD a []⟩] else []):=by
 unfold DJ
 have ht:l.take (a+1)=l.take a++[l.getD a []]:=by rw[List.take_add_one]; simp[ha]
 rw[ht,List.map_append,List.filter_append]
 by_cases h:decide (0<zD ⟨v,l.getD a []⟩)=true
 ·rw[if_pos h]; simp only[List.map_cons,List.map_nil,List.filter_cons,h,if_true,List.filter_nil]
 ·rw[if_neg h]; simp only[List.map_cons,List.map_nil,List.filter_cons,h,Bool.false_eq_true,if_false,List.filter_nil]
theorem OT{v:Int}{l:List (List Int)}:(DJ v l).length<=l.length:=by
 unfold DJ
 have:=List.length_filter_le (fun e=>decide (0<zD e)) (l.map fun c=>(⟨v,c⟩:Elem))
 rwa [List.length_map] at this
theorem aaT:dN [T.sl 0 false []] [T.sl 0 true []]:=by
 intro Z h; simp[T.dM,T.sub]
set_option maxHeartbeats 1000000 in
theorem S.JZ(v:Int)(N:List (List Int))(f:Bool)(hN6:N.length<=6)(hN:Ce N)(n:Nat):aN Tryz.prog 76 (V.bn [.int v,.row 0 f (.jm N)]) (Hz.ay []) n (fun t hp=>t= .own n/\hp=Hz.ay [(n,some (eF (mD v N)))]):=by
 refine oI.of (nx:=0) Bd.kF (by simp) ⟨_,_,rfl,rfl⟩ rfl rfl ?_
 conv=>whnf
 refine aI.nZ 1 [0,18,19] (fun i:Nat=>[(20,.int i),(5,.own 0)]) (fun i=>[(0,jH (qI N i))]) (fun i=>i<=N.length) (fun i=>N.length-i) 0 [1] rfl (by decide) (fun _=>rfl) (Nat.zero_le _) ?_ ?_ ?_
 ·exact⟨⟨_,rfl,.eq rfl⟩,⟨_,rfl,.eq rfl⟩,trivial⟩
 ·exact⟨⟨rfl,nofun,rfl,rfl,_,rfl,rfl,rfl,aaT⟩,trivial⟩
 conv=>whnf
 refine⟨⟨⟨_,rfl,.eq rfl⟩,⟨_,rfl,.eq rfl⟩,⟨_,rfl,.eq rfl⟩,trivial⟩,rfl,?_⟩
 rintro i hi
 have hcap:=Ug hN (i:=i) (by omega)
 have h3:=hN i
 conv=>whnf
 refine⟨fun h1=>?_,fun h1=>?_⟩
 ·have hi':i<N.length:=by simpa using h1
  conv=>whnf
  refine .mk (by simp only[Rw.rng] at *; first|omega|(simp_all; done)|(simp_all; omega)) ?_
  conv=>whnf
  refine aI.nil 8 24 0 (by rfl) rfl rfl rfl ?_
  refine aI.nZ 2 [0,7,18,19,20,24,25] (fun a:Nat=>[(26,.int a),(8,.own 1)]) (fun a=>[(0,jH (qI N i)),(1,jH (MQ N i a))]) (fun a=>a<=(qI N i).length) (fun a=>(qI N i).length-a) 0 [0,9] rfl (by decide) (fun _=>rfl) (Nat.zero_le _) ?_ ?_ ?_
  ·exact⟨⟨_,rfl,.eq rfl⟩,⟨_,rfl,.eq rfl⟩,trivial⟩
  ·exact⟨okF rfl nofun rfl rfl rfl ⟨rfl,rfl⟩ rfl,okF rfl nofun rfl rfl rfl ⟨rfl,rfl⟩ rfl,trivial⟩
  conv=>whnf
  refine⟨⟨⟨_,rfl,.eq rfl⟩,⟨_,rfl,.eq rfl⟩,⟨_,rfl,.eq rfl⟩,⟨_,rfl,.eq rfl⟩,⟨_,rfl,.eq rfl⟩,⟨_,rfl,.eq rfl⟩,⟨_,rfl,.eq rfl⟩,trivial⟩,rfl,?_⟩
  rintro a ha
  have hA:=OQ hN ha
  conv=>whnf
  refine⟨fun h2=>?_,fun h2=>?_⟩
  ·have ha':a<(qI N i).length:=by simpa using h2
   have hcl:((qI N i).getD a []).length=i:=MR (iY ha')
   conv=>whnf
   repeat(refine VC.mk (by simp only[Rw.rng] at *; first|omega|(simp_all; done)|(simp_all; omega)) ?_; conv=>whnf)
   refine aI.Uh 2 [0,7,10,18,19,20,24,25,26,30,31] (fun b:Nat=>[(32,.int b),(8,.own 1)]) (fun b=>[(0,jH (qI N i)),(1,jH (GI N i a b))]) (fun b=>b<=(N.getD i []).length) (fun b=>(N.getD i []).length-b) 0 [0,1] [(0,some (jH (qI N i))),(1,some (jH (MQ N i a)))] rfl (by decide) (fun _=>rfl) (Nat.zero_le _) ?_ ?_ ?_ ?_
   ·exact⟨⟨_,rfl,.eq rfl⟩,⟨_,rfl,.eq rfl⟩,trivial⟩
   ·exact⟨fun _=>False,mF (Z:=fun _=>False) rfl (fun q=>q),mF (Z:=fun _=>False) rfl (fun q=>q),trivial⟩
   ·exact⟨okF rfl nofun rfl rfl rfl ⟨rfl,rfl⟩ rfl,okF rfl nofun rfl rfl rfl ⟨rfl,rfl⟩ (by simp[GI]),trivial⟩
   conv=>whnf
   refine⟨⟨⟨_,rfl,.eq rfl⟩,⟨_,rfl,.eq rfl⟩,⟨_,rfl,.eq rfl⟩,⟨_,rfl,.eq rfl⟩,⟨_,rfl,.eq rfl⟩,⟨_,rfl,.eq rfl⟩,⟨_,rfl,.eq rfl⟩,⟨_,rfl,.eq rfl⟩,⟨_,rfl,.eq rfl⟩,⟨_,rfl,.eq rfl⟩,⟨_,rfl,.eq rfl⟩,trivial⟩,rfl,?_⟩
   rintro b hb
   have hB:(GI N i a b).length<=729*3+3:=by
    unfold GI; rw[List.length_append,List.length_map,List.length_take]; omega
   conv=>whnf
   refine⟨fun h4=>?_,fun h4=>?_⟩
   ·have hb':b<(N.getD i []).length:=by simpa using h4
    conv=>whnf
    repeat(refine VC.mk (by first|(simp only[Rw.rng,Int.toNat_natCast]; omega)|(simp only[Rw.qp]; omega)) ?_; conv=>whnf)
    rw[show decide (((((qI N i).getD (a:Int).toNat []).length:Int))=(((qI N i).getD (a:Int).toNat []).length:Int))=true from decide_eq_true rfl]
    conv=>whnf
    refine aaU.one ⟨.inr (Nat.zero_lt_succ _),?_⟩ ?_
    ·show(Rw.len (Rw.take _ _)+1)*8<=140737488355328/\Rw.len (Rw.take _ _)+1<=1152921504606846976
     rw[Rw.XQ]; simp only[Rw.len,Int.toNat_natCast]; omega
    conv=>whnf
    repeat(refine VC.mk (by first|(show((GI N i a b).length+(0+1))*24<=140737488355328/\(GI N i a b).length+(0+1)<=1152921504606846976; omega)|(simp only[okI] at *; first|omega|(simp_all; done)|(simp_all; omega))) ?_; conv=>whnf)
    refine⟨[(0,some (jH (qI N i))),(17,some (jH (GI N i a b++[((qI N i).getD a []).take ((((qI N i).getD a []).length:Int).toNat)++[(N.getD i []).getD b 0]])))],b+1,[0,17],⟨fun i=>i=15,mF (Z:=fun i=>i=15) (i:=0) rfl (by decide),EZ (Z:=fun i=>i=15) (i:=17) (j:=15) rfl rfl (by decide) rfl rfl,trivial⟩,by omega,by omega,⟨⟨_,rfl,.eq rfl⟩,⟨_,rfl,.eq rfl⟩,trivial⟩,⟨⟨_,rfl,.eq rfl⟩,⟨_,rfl,.eq rfl⟩,⟨_,rfl,.eq rfl⟩,⟨_,rfl,.eq rfl⟩,⟨_,rfl,.eq rfl⟩,⟨_,rfl,.eq rfl⟩,⟨_,rfl,.eq rfl⟩,⟨_,rfl,.eq rfl⟩,⟨_,rfl,.eq rfl⟩,⟨_,rfl,.eq rfl⟩,⟨_,rfl,.eq rfl⟩,trivial⟩,okF rfl nofun rfl rfl rfl ⟨rfl,rfl⟩ rfl,okF rfl nofun rfl rfl rfl ⟨rfl,rfl⟩ ?_,trivial⟩
    rw[Vy hb',Int.toNat_natCast,List.take_length]
   ·have hb':b=(N.getD i []).length:=by
     have: ¬ ((b:Int)<((N.getD i []).length:Int)):=of_decide_eq_false h4
     omega
    subst hb'
    rw[<- Vx ha']
    conv=>whnf
    refine .mk (by simp only[okI] at *; first|omega|(simp_all; done)|(simp_all; omega)) ?_
    conv=>whnf
    refine⟨a+1,[0,1],by omega,by omega,⟨⟨_,rfl,.eq rfl⟩,⟨_,rfl,.eq rfl⟩,trivial⟩,⟨⟨_,rfl,.eq rfl⟩,⟨_,rfl,.eq rfl⟩,⟨_,rfl,.eq rfl⟩,⟨_,rfl,.eq rfl⟩,⟨_,rfl,.eq rfl⟩,⟨_,rfl,.eq rfl⟩,⟨_,rfl,.eq rfl⟩,trivial⟩,okF rfl nofun rfl rfl rfl ⟨rfl,rfl⟩ rfl,okF rfl nofun rfl rfl rfl ⟨rfl,rfl⟩ rfl,trivial⟩
  ·have ha':a=(qI N i).length:=by
    have: ¬ ((a:Int)<((qI N i).length:Int)):=of_decide_eq_false h2
    omega
   subst ha'
   rw[OO]
   conv=>whnf
   refine .mk (by simp only[okI] at *; first|omega|(simp_all; done)|(simp_all; omega)) ?_
   conv=>whnf
   refine⟨i+1,[1],by omega,by omega,⟨⟨_,rfl,.eq rfl⟩,⟨_,rfl,.eq rfl⟩,trivial⟩,⟨⟨_,rfl,.eq rfl⟩,⟨_,rfl,.eq rfl⟩,⟨_,rfl,.eq rfl⟩,trivial⟩,okF rfl nofun rfl rfl rfl ⟨rfl,rfl⟩ rfl,trivial⟩
 ·have hi':i=N.length:=by
   have: ¬ ((i:Int)<(N.length:Int)):=of_decide_eq_false h1
   omega
  subst hi'
  conv=>whnf
  refine aI.nil 13 54 3 (by rfl) rfl rfl rfl ?_
  refine aI.nZ 2 [0,52,53] (fun a:Nat=>[(54,.int a),(13,.own 1)]) (fun a=>[(0,jH (qI N N.length)),(1,eF (DJ v ((qI N N.length).take a)))]) (fun a=>a<=(qI N N.length).length) (fun a=>(qI N N.length).length-a) 0 [0,6] rfl (by decide) (fun _=>rfl) (Nat.zero_le _) ?_ ?_ ?_
  ·exact⟨⟨_,rfl,.eq rfl⟩,⟨_,rfl,.eq rfl⟩,trivial⟩
  ·exact⟨okF rfl nofun rfl rfl rfl ⟨rfl,rfl⟩ rfl,okF rfl nofun rfl rfl rfl ⟨rfl,rfl⟩ rfl,trivial⟩
  conv=>whnf
  refine⟨⟨⟨_,rfl,.eq rfl⟩,⟨_,rfl,.eq rfl⟩,⟨_,rfl,.eq rfl⟩,trivial⟩,rfl,?_⟩
  rintro a ha
  have hkl:=OT (v:=v) (l:=(qI N N.length).take a)
  rw[List.length_take] at hkl
  conv=>whnf
  refine⟨fun h2=>?_,fun h2=>?_⟩
  ·have ha':a<(qI N N.length).length:=by simpa using h2
   have hcl:((qI N N.length).getD a []).length=N.length:=MR (iY ha')
   have hn:=Vz (v:=v) ha'
   conv=>whnf
   repeat(refine VC.mk (by simp only[Rw.rng] at *; first|omega|(simp_all; done)|(simp_all; omega)) ?_; conv=>whnf)
   refine ah.pure (S.lF ⟨v,(qI N N.length).getD a []⟩ (by show((qI N N.length).getD a []).length<_; omega)) rfl ?_
   conv=>whnf
   refine⟨fun h3=>?_,fun h3=>?_⟩
   ·rw[if_pos h3] at hn
    conv=>whnf
    repeat(refine VC.mk (by first|(show((DJ v ((qI N N.length).take a)).length+(0+1))*32<=140737488355328/\(DJ v ((qI N N.length).take a)).length+(0+1)<=1152921504606846976; omega)|(simp only[okI] at *; first|omega|(simp_all; done)|(simp_all; omega))) ?_; conv=>whnf)
    refine⟨a+1,[0,17],by omega,by omega,⟨⟨_,rfl,.eq rfl⟩,⟨_,rfl,.eq rfl⟩,trivial⟩,⟨⟨_,rfl,.eq rfl⟩,⟨_,rfl,.eq rfl⟩,⟨_,rfl,.eq rfl⟩,trivial⟩,okF rfl nofun rfl rfl rfl ⟨rfl,rfl⟩ rfl,okF rfl nofun rfl rfl rfl ⟨rfl,rfl⟩ ?_,trivial⟩
    rw[hn]
    show List.map eG (DJ v (List.take a (qI N N.length))++[⟨v,(qI N N.length).getD a []⟩])++[]=List.map eG (DJ v (List.take a (qI N N.length)))++[eG ⟨v,(qI N N.length).getD a []⟩]
    simp
   ·rw[if_neg (by rw[h3]; decide),List.append_nil] at hn
    conv=>whnf
    refine .mk (by simp only[okI] at *; first|omega|(simp_all; done)|(simp_all; omega)) ?_
    conv=>whnf
    refine⟨a+1,[0,1],by omega,by omega,⟨⟨_,rfl,.eq rfl⟩,⟨_,rfl,.eq rfl⟩,trivial⟩,⟨⟨_,rfl,.eq rfl⟩,⟨_,rfl,.eq rfl⟩,⟨_,rfl,.eq rfl⟩,trivial⟩,okF rfl nofun rfl rfl rfl ⟨rfl,rfl⟩ rfl,okF rfl nofun rfl rfl rfl ⟨rfl,rfl⟩ (by rw[hn]),trivial⟩
  ·have ha':(qI N N.length).length<=a:=by simpa using h2
   rw[List.take_of_length_le ha']
   conv=>whnf
   exact ny.one (c:=n) (j:=1) (o:=eF (mD v N)) (t:=.own n) rfl rfl rfl nofun (.inr rfl) rfl (.eq rfl) ⟨rfl,rfl⟩
theorem S.kF(v:Int)(N:List (List Int))(f:Bool)(hN6:N.length<=6)(hN:Ce N):qY Tryz.prog 76 (V.bn [.int v,.row 0 f (.jm N)]) (fun n=>.own n) (some ⟨54,3,(Rw.elems (mD v N)).bn⟩):=by
 refine⟨rfl,fun n=>rfl,fun ob h=>?_,fun ob h=>?_,fun n=>?_⟩
 ·cases h; exact uX _
 ·cases h; exact show(3:Nat)≠dI by decide
 ·have:=S.JZ v N f hN6 hN n
  have e1:Hz.ay [(n,some (eF (mD v N)))]=fO no n (some ⟨54,3,(Rw.elems (mD v N)).bn⟩):=by
   rw[bQ]; simp[fO,OV.aF,V.bn]; rfl
  rw[e1] at this
  exact this
theorem S.kG(a b:Elem)(ha:a.counts.length<2^40)(hb:b.counts.length<2^40):aj Tryz.prog 80 [.dat (.elem a),.dat (.elem b)] (.bool (decide (a=b))):=by
 refine aj.of Bd.kG (by simp) rfl rfl ?_
 conv=>whnf
 refine ah.pure (S.fZ a b ha hb) rfl ?_
 conv=>whnf
 refine ak.bool ?_
 rw[Bool.eq_iff_iff]; simp only[decide_eq_true_eq,beq_iff_eq]
 exact kX.symm
theorem S.XR(l:List Elem)(n:Nat)(hl:l.length<2^30)(hs:gq l) :
  aN Tryz.prog 79 (V.bn [.own 0,.fn 80 []]) (h1 l).ay n
   (fun t hp=>(ru l=l/\t= .own 0/\hp=(h1 l).ay)\/(∃ m,t= .kR 0 0 (ru l).length/\hp=Hz.ay [(0,some (.row 54 3 (.elems (ru l)) (List.replicate m zeroV)))])):=by
 refine oI.of (nx:=1) Bd.bg (by simp) ⟨_,_,.inr ⟨0,rfl,rfl⟩⟩ rfl rfl ?_
 conv=>whnf
 refine⟨fun h1=>?_,fun h1=>?_⟩
 ·conv=>whnf
  have hc:ru l=l:=by
   have h2:l.length<2:=by simp at h1; omega
   rw[ru,Ij (Nat.le_refl _) (fun i h3 h4=>by omega),List.take_length]
  exact ny.one (c:=0) (j:=0) (o:=eF l) (t:=.own 0) rfl rfl rfl (fun _=>rfl) (.inl rfl) rfl (.eq rfl) (.inl ⟨hc,rfl,rfl⟩)
 ·have h2:2<=l.length:=by simp at h1; omega
  conv=>whnf
  refine aI.same [0,1] (fun i:Nat=>[(5,.int i)]) (fun i=>1<=i/\i<=l.length/\ ∀ k,0<k->k<i->l.getD k default≠l.getD (k-1) default) (fun i=>l.length-i) 1 rfl (by decide) rfl (fun _=>rfl) ⟨by omega,by omega,fun k h3 h4=>by omega⟩ ⟨⟨_,rfl,rfl⟩,trivial⟩ ?_
  conv=>whnf
  refine⟨rfl,?_⟩
  rintro k ⟨hk0,hk,hne⟩
  have e1:((k:Int)-1).toNat=k-1:=by omega
  conv=>whnf
  refine⟨fun h3=>?_,fun h3=>?_⟩
  ·have hk':k<l.length:=by simpa using h3
   conv=>whnf
   repeat(refine VC.mk (by simp only[okI,Rw.rng]; omega) ?_; conv=>whnf)
   refine ah.pure (S.kG _ _ (hs.get _) (hs.get _)) rfl ?_
   conv=>whnf
   refine⟨fun h4=>?_,fun h4=>?_⟩
   ·have heq:l.getD k default=l.getD (k-1) default:=by
     rw[e1] at h4; simpa using h4
    have hdk:tV l k=l.take k:=Ij hk hne
    have adn:tV l (k+1)=l.take k:=by rw[OU (by omega) heq,hdk]
    conv=>whnf
    refine .mk (by simp only[Rw.qp]; omega) ?_
    conv=>whnf
    refine aI.objs 1 [0,1,6] (fun j:Nat=>[(7,.int j),(5,.int (tV l (k+j)).length)]) (fun j=>[(0,eF (mid l (k+j)))]) (fun j=>1<=j/\k+j<=l.length/\(tV l (k+j)).length+1<=k+j) (fun j=>l.length-j) 1 [0] rfl (by decide) (fun _=>rfl) ⟨by omega,by omega,?_⟩ ?_ ?_ ?_
    ·rw[adn]; simp; omega
    ·refine⟨⟨_,rfl,.eq rfl⟩,⟨_,rfl,.eq ?_⟩,trivial⟩
     rw[adn]
     show T.int (((l.take k).length:Nat):Int)=T.int (k:Int)
     simp[Nat.min_eq_left hk]
    ·refine⟨⟨rfl,(fun _=>rfl),rfl,rfl,rfl,_,rfl,rfl,rfl,dN.of_eq ?_⟩,trivial⟩
     have:mid l (k+1)=l:=by unfold mid; rw[adn]; simp[Nat.min_eq_left hk]
     rw[this]
    conv=>whnf
    refine⟨⟨⟨_,rfl,.eq rfl⟩,⟨_,rfl,.eq rfl⟩,⟨_,rfl,.eq rfl⟩,trivial⟩,rfl,?_⟩
    rintro j ⟨hj0,hj,hdl⟩
    have hml:=aaV hj
    have e2:((j:Int)-1).toNat=j-1:=by omega
    have hsm:gq (mid l (k+j)):=fun x hx=>by
     unfold mid at hx
     rcases List.mem_append.1 hx with hx|hx
     ·exact hs x (aaW hx hj)
     ·exact hs x (List.mem_of_mem_drop hx)
    conv=>whnf
    refine⟨fun h5=>?_,fun h5=>?_⟩
    ·have hj':k+j<l.length:=by
      have h6:j<l.length-k:=by
       have:(j:Int)<(((Rw.elems l).len-k:Nat):Int):=by simpa using h5
       have e3:(Rw.elems l).len=l.length:=rfl
       rw[e3] at this
       omega
      omega
     have g1:=Ui (l:=l) (j:=k+j) (i:=k+j) (by omega)
     have g2:=Ui (l:=l) (j:=k+j) (i:=k+(j-1)) (by omega)
     conv=>whnf
     repeat(refine VC.mk (by first|(simp only[okI]; omega)|(show _/\_<(((l.length-k:Nat)):Int); omega)|(simp only[Rw.rng,hml,Int.toNat_natCast,e2]; omega)|(show(0:Int)<=_/\_<((mid l (k+j)).length:Int); rw[hml]; simp only[Int.toNat_natCast,e2]; omega)) ?_; conv=>whnf)
     refine ah.pure (S.kG _ _ (hsm.get _) (hsm.get _)) rfl ?_
     simp only[Int.toNat_natCast,e2,g1,g2]
     conv=>whnf
     have e4:k+(j-1)=k+j-1:=by omega
     refine⟨fun h6=>?_,fun h6=>?_⟩
     ·have hne':l.getD (k+j) default≠l.getD (k+j-1) default:=by
       rw[e4] at h6; simpa using h6
      have hst:=aaX hj' (.inr hne')
      have hd1:tV l (k+j+1)=tV l (k+j)++[l.getD (k+j) default]:=by simp only[tV]; rw[if_pos (.inr hne')]
      conv=>whnf
      repeat(refine VC.mk (by first|(simp only[okI]; omega)|(show _/\_<(((l.length-k:Nat)):Int); omega)|(simp only[Rw.rng,hml,Int.toNat_natCast]; omega)|(show(0:Int)<=_/\_<((mid l (k+j)).length:Int); rw[hml]; simp only[Int.toNat_natCast]; omega)) ?_; conv=>whnf)
      refine⟨j+1,[0],⟨by omega,by omega,?_⟩,by omega,⟨⟨_,rfl,.eq rfl⟩,⟨_,rfl,.eq ?_⟩,trivial⟩,⟨⟨_,rfl,.eq rfl⟩,⟨_,rfl,.eq rfl⟩,⟨_,rfl,.eq rfl⟩,trivial⟩,⟨rfl,(fun _=>rfl),rfl,rfl,rfl,_,rfl,rfl,rfl,dN.of_eq ?_⟩,trivial⟩
      ·show(tV l (k+j+1)).length+1<=k+(j+1)
       rw[hd1]; simp; omega
      ·show T.int (((tV l (k+j+1)).length:Nat):Int)=T.int (((tV l (k+j)).length:Int)+1)
       rw[hd1]; simp
      ·show(eF (mid l (k+j+1))).aF.l=(OV.row 54 3 (.elems ((mid l (k+j)).set (((tV l (k+j)).length:Int)).toNat ((mid l (k+j)).getD ((k:Int).toNat+(j:Int).toNat) default))) []).aF.l
       simp only[Int.toNat_natCast,g1,hst]
     ·have heq':l.getD (k+j) default=l.getD (k+j-1) default:=by
       rw[e4] at h6; simpa using h6
      have hd1:tV l (k+j+1)=tV l (k+j):=OU (by omega) heq'
      conv=>whnf
      refine .mk (by simp only[okI] at *; first|omega|(simp_all; done)|(simp_all; omega)) ?_
      conv=>whnf
      refine⟨j+1,[0],⟨by omega,by omega,?_⟩,by omega,⟨⟨_,rfl,.eq rfl⟩,⟨_,rfl,.eq ?_⟩,trivial⟩,⟨⟨_,rfl,.eq rfl⟩,⟨_,rfl,.eq rfl⟩,⟨_,rfl,.eq rfl⟩,trivial⟩,⟨rfl,(fun _=>rfl),rfl,rfl,rfl,_,rfl,rfl,rfl,dN.of_eq ?_⟩,trivial⟩
      ·show(tV l (k+j+1)).length+1<=k+(j+1)
       rw[hd1]; omega
      ·show T.int (((tV l (k+j+1)).length:Nat):Int)=T.int ((tV l (k+j)).length:Int)
       rw[hd1]
      ·show(eF (mid l (k+j+1))).aF.l=(eF (mid l (k+j))).aF.l
       unfold mid; rw[hd1]
    ·have hj':k+j=l.length:=by
      have h6: ¬ (j:Int)<(((Rw.elems l).len-k:Nat):Int):=by simpa using h5
      have e3:(Rw.elems l).len=l.length:=rfl
      rw[e3] at h6
      omega
     have ag9:(tV l (k+j)).length<=l.length:=by have:=GZ l (k+j); omega
     conv=>whnf
     repeat(refine VC.mk (by first|(simp only[Rw.qp,hml]; omega)|(refine⟨?_,rfl⟩; show((tV l (k+j)).length:Int).toNat<=(mid l (k+j)).length; rw[hml,Int.toNat_natCast]; omega)|(show(0:Int)<=((tV l (k+j)).length:Int)/\((tV l (k+j)).length:Int)<=(((mid l (k+j)).take ((tV l (k+j)).length:Int).toNat).length:Int); rw[List.length_take,hml,Int.toNat_natCast]; omega)|(show _<=(mid l (k+j)).length/\(mid l (k+j)).length=(mid l (k+j)).length; rw[hml]; simp only[Int.toNat_natCast]; omega)|(show(0:Int)<=_/\_<=(((mid l (k+j)).take _).length:Int); rw[List.length_take,hml]; simp only[Int.toNat_natCast]; omega)) ?_; conv=>whnf)
     have htk:(mid l (k+j)).take ((tV l (k+j)).length:Int).toNat=ru l:=by
      rw[Int.toNat_natCast]; unfold mid; rw[List.take_left,hj']; rfl
     have hcl:((tV l (k+j)).length:Int).toNat=(ru l).length:=by rw[Int.toNat_natCast,hj']; rfl
     refine ny.one (c:=0) (j:=0) (o:=.row 54 3 (.elems (ru l)) (List.replicate ((mid l (k+j)).length-((tV l (k+j)).length:Int).toNat) zeroV)) (t:=.kR 0 0 (ru l).length) ?_ (OW _ _ _) (MS _ _) (fun _=>rfl) (.inl rfl) rfl (.eq ?_) (.inr ⟨_,rfl,rfl⟩)
     ·rw[<- htk]; rfl
     ·rw[<- hcl]; rfl
   ·conv=>whnf
    refine .mk (by simp only[okI] at *; first|omega|(simp_all; done)|(simp_all; omega)) ?_
    conv=>whnf
    refine⟨k+1,⟨by omega,by omega,fun i h5 h6=>?_⟩,by omega,⟨⟨_,rfl,rfl⟩,trivial⟩,?_,rfl⟩
    ·by_cases e:i=k
     ·subst e; rw[e1] at h4; simpa using h4
     ·exact hne i h5 (by omega)
    ·repeat' (first|exact trivial|exact⟨_,rfl,rfl⟩|constructor)
  ·conv=>whnf
   have hk':l.length<=k:=by simpa using h3
   have hc:ru l=l:=by
    rw[ru,Ij (Nat.le_refl _) (fun i h3 h4=>hne i h3 (by omega)),List.take_length]
   exact ny.one (c:=0) (j:=0) (o:=eF l) (t:=.own 0) rfl rfl rfl (fun _=>rfl) (.inl rfl) rfl (.eq rfl) (.inl ⟨hc,rfl,rfl⟩)
theorem S.pW(l:List Elem)(n:Nat)(hl:l.length<2^30)(hs:gq l) :
  aN Tryz.prog 49 (V.bn [.own 0]) (h1 l).ay n
   (fun t hp=>(t= .own 0/\hp=(h1 (sS l)).ay)\/(∃ m,t= .kR 0 0 (sS l).length/\hp=Hz.ay [(0,some (.row 54 3 (.elems (sS l)) (List.replicate m zeroV)))])):=by
 refine oI.of (nx:=1) Bd.pW (by simp) ⟨_,_,.inl ⟨rfl,rfl⟩⟩ rfl rfl ?_
 conv=>whnf
 refine ah.heap (S.SortFunc l _ hl hs) ?_
 rintro t hp ⟨rfl,rfl⟩
 refine⟨.fP [],h1 (qJ l),rfl,rfl,?_⟩
 conv=>whnf
 refine ah.heap (S.XR (qJ l) _ (by rw[E5]; exact hl) (OX hs)) ?_
 rintro t hp (⟨hc,rfl,rfl⟩|⟨m,rfl,rfl⟩)
 ·refine⟨.own 0,h1 (qJ l),rfl,rfl,?_⟩
  conv=>whnf
  refine ny.one (c:=0) (j:=0) (o:=eF (qJ l)) (t:=.own 0) rfl rfl rfl (fun _=>rfl) (.inl rfl) rfl (.eq rfl) (.inl ⟨rfl,?_⟩)
  rw[sS,hc]
 ·refine⟨.kR 0 0 (ru (qJ l)).length,[(0,some (.row 54 3 (.elems (ru (qJ l))) (List.replicate m zeroV)))],rfl,rfl,?_⟩
  conv=>whnf
  exact ny.one (c:=0) (j:=0) (o:=.row 54 3 (.elems (ru (qJ l))) (List.replicate m zeroV)) (t:=.kR 0 0 (ru (qJ l)).length) rfl (OW _ _ _) (MS _ _) (fun _=>rfl) (.inl rfl) rfl (.eq rfl) (.inr ⟨m,rfl,rfl⟩)
theorem ah.XT{h:Hz}{i n:Nat}{l:List Elem}{K:V->Hz->Prop}{KW:Nat->V->Hz->Prop}(hi:h.get i=some (eF l))(hn:h.get n=none)(hl:l.length<2^30)(hs:gq l)
  (h1:K (.own i) ((i,some (eF (sS l)))::h)) (h2: ∀ m,K (.kR i 0 (sS l).length) ((i,some (.row 54 3 (.elems (sS l)) (List.replicate m zeroV)))::h)):ah Tryz.prog false none 49 [.own i] h n K KW:=by
 refine ah.XU (ts:=[.own 0]) (S.pW l 1 hl hs) rfl rfl rfl rfl hi hn ?_
 rintro t hp (⟨rfl,rfl⟩|⟨m,rfl,rfl⟩)
 ·exact .inl ⟨.own i,eF (sS l),rfl,rfl,rfl,h1⟩
 ·exact .inl ⟨.kR i 0 _,.row 54 3 (.elems (sS l)) (List.replicate m zeroV),rfl,MS _ _,rfl,h2 m⟩
theorem ah.XV{P:Program}{f:FuncId}{args args':List V}{h h2:Hz}{n ty k:Nat}{r:Rw}{K:V->Hz->Prop}{KW:Nat->V->Hz->Prop}(Z:Nat->Prop)(F:XW Z h h2)(hs:T.dM Z h.ay (V.bn args') (V.bn args))
  (H:qY P f (V.bn args') (fun n=>.own n) (some ⟨ty,k,r.bn⟩)) (hK:K (.own n) ((n,some (.row ty k r []))::h2)):ah P false none f args h n K KW:=by
 refine⟨.inl ?_⟩
 refine aN.frz Z (ts2:=V.bn args') (h2:=h2.ay) (aN.mono (qY.frame H h2.ay n) ?_) hs fun i ob hi=>?_
 ·rintro t hp ⟨rfl,rfl⟩
  exact⟨.own n,_,rfl,by rw[bQ]; simp[fO,OV.aF,V.bn],(fun e=>by cases e),hK⟩
 ·simp only[Hz.ay,Option.map_eq_some_iff] at hi
  obtain⟨o,e1,rfl⟩:=hi
  obtain⟨o',a1,a2,a3,a4,a5,a6,a7⟩:=OY F e1
  exact⟨o'.aF,aZ a1,a2,a3,a4,a5,a6,a7⟩
theorem XY{Z:Nat->Prop}{h:Hp}{t u:T}(hs:T.sub Z h t u): ∀ {a b:List T} {i:Nat},T.dM Z h a b->T.dM Z h (a.set i t) (b.set i u):=by
 intro a
 induction a with
 |nil=>intro b i q; cases b with
  |nil=>exact trivial
  |cons _ _=>exact q.elim
 |cons x r ih =>
  intro b i q
  cases b with
  |nil=>exact q.elim
  |cons y s =>
   cases i with
   |zero=>exact⟨hs,q.2⟩
   |succ i=>exact⟨q.1,ih q.2⟩
theorem OZ(n:Nat):dN ((List.replicate n ([]:List Int)).map Go.Ab.ints) (V.bn (List.replicate n (BA .nil))):=by
 intro Z h
 rw[je,List.map_replicate,List.map_replicate]
 have:T.sub Z h (Go.Ab.ints []) (BA .nil).aG:=by simp[Go.Ab.ints,BA,V.aG,T.sub,Rw.bn]
 induction n with
 |zero=>trivial
 |succ n ih=>exact⟨this,ih⟩
theorem VA{Z:Nat->Prop}{h:Hp}(c:List Int):T.sub Z h (Go.Ab.ints c) (V.row 0 true (.ints c)).aG:=by simp[Go.Ab.ints,V.aG,Rw.bn,T.sub]
theorem MV(L:List (List Int))(i:Nat)(c:List Int):dN ((L.set i c).map Go.Ab.ints) (V.bn ((Rw.vs (.jm L)).set i (.row 0 true (.ints c)))):=by
 intro Z h
 rw[je,List.map_set,List.map_set,<- je,Rw.RD]
 exact XY (VA c) (dS _)
theorem O1(L:List (List Int))(i:Nat)(b c:List Int):dN ((L.set i c).map Go.Ab.ints) (V.bn (((Rw.vs (.jm L)).set i (.row 0 true (.ints b))).set i (.row 0 true (.ints c)))):=by
 rw[List.set_set]; exact MV L i c
theorem O4{n:Nat}(h:0<n):(bif isZero (.int n) then some Rw.nil else XZ (n:Int).toNat .nil)=none:=by
 cases n with
 |zero=>omega
 |succ n=>rfl
theorem okS{ρ:Nat->Nat}{nx pn c n:Nat}{h:Hz}{s:List Nat}{o o':OV}(q1:Nat.blt c nx=true)(q2:Nat.blt c pn=true->n=c)(q3:DK n s=true)(q4:(o.good nx&&o.Rj)=true)(q5:h.get n=some o')
  (q6:o'.aF.ty=o.aF.ty/\o'.aF.k=o.aF.k) (q7:dN o.aF.l o'.aF.l):Nat.blt c nx=true/\(Nat.blt c pn=true->n=c)/\DK n s=true/\o.good nx=true /\
   ∃ o',h.get n=some o'/\o'.aF.ty=o.aF.ty/\o'.aF.k=o.aF.k/\dN (T.dQ ρ o.aF.l) o'.aF.l:=by
 rw[Bool.and_eq_true] at q4
 exact⟨q1,q2,q3,q4.1,o',q5,q6.1,q6.2,by rw[OV.DL q4.2 ρ]; exact q7⟩
theorem uI{L:List (List Int)}{l:List T}(h:dN (L.map Go.Ab.ints) l):dN (jH L).aF.l l:=by
 show dN (List.map Go.Ab.ints L++[]) l
 rw[List.append_nil]; exact h
def Ik(f:Nat->List Int)(n i:Nat):List (List Int):=(List.range i).map f++List.replicate (n-i) []
theorem KL{f:Nat->List Int}{n:Nat}:Ik f n 0=List.replicate n []:=by simp[Ik]
theorem O5{f:Nat->List Int}{n:Nat}:Ik f n n=(List.range n).map f:=by simp[Ik]
theorem O6{f:Nat->List Int}{n i:Nat}(hi:i<=n):(Ik f n i).length=n:=by simp[Ik]; omega
theorem KN{f:Nat->List Int}{n i:Nat}(hi:i<n):(Ik f n i).set i (f i)=Ik f n (i+1):=by
 have e1:n-i=(n-(i+1))+1:=by omega
 unfold Ik
 rw[e1,List.replicate_succ,List.set_append_right _ _ (by simp)]
 have:i-((List.range i).map f).length=0:=by simp
 rw[this,List.set_cons_zero,List.range_succ]; simp
def Ci(p:aO)(q:Prop')(x:Nat):List Int:=bif yL (mO p q) x then [0,1,2] else [0]
def zy(p:aO)(q:Prop'):List (List Int):=(List.range p.states.length).map (Ci p q)
def fiE(p:aO)(q:Prop'):List Elem:=sS (mD 0 (zy p q))
theorem uj{f:Nat->List Int}(hf: ∀ i,(f i).length<=3)(n:Nat):Ce ((List.range n).map f):=by
 intro i
 rw[List.getD_eq_getElem?_getD,List.getElem?_map]
 cases hg:(List.range n)[i]? with
 |none=>simp
 |some j=>exact hf j
theorem O7(p:aO)(q:Prop')(i:Nat):(Ci p q i).length<=3:=by
 unfold Ci; cases yL (mO p q) i<;>simp
theorem MW{v:Int}{N:List (List Int)}(hN:Ce N)(h6:N.length<=6):(mD v N).length<=729:=Nat.le_trans OT (Ug hN h6)
theorem AL{v:Int}{N:List (List Int)}{e:Elem}(h:e∈mD v N):e.value=v/\e.counts.length=N.length/\e.counts∈qI N N.length/\0<zD e:=by
 unfold mD DJ at h
 obtain⟨h1,h2⟩:=List.mem_filter.1 h
 obtain⟨c,hc,rfl⟩:=List.mem_map.1 h1
 exact⟨rfl,MR hc,hc,of_decide_eq_true h2⟩
theorem VB{v:Int}{N:List (List Int)}(h6:N.length<=6):gq (mD v N):=fun e he=>by have:=(AL he).2.1; omega
set_option maxHeartbeats 1000000 in
theorem S.lK(p:aO)(q:Prop')(hp:fG p)(hq:iW q)(hv:jf p q=0):aj Tryz.prog 47 [.dat (.kS p),.dat (.prop q)] (.row 3 false (.elems (fiE p q))):=by
 have hst:=(rE (yM hv)).states
 have hpos:=(rE (yM hv)).pos
 refine aj.of Bd.lK (by simp) rfl rfl ?_
 conv=>whnf
 refine ah.pure (S.jv p q hp hq hv) rfl ?_
 conv=>whnf
 rw[O4 hpos]
 conv=>whnf
 refine .mk (by omega) ?_
 conv=>whnf
 refine aI.nZ 19 [5,20] (fun i:Nat=>[(21,.int i),(7,.own 14)]) (fun i=>[(14,jH (Ik (Ci p q) p.states.length i))]) (fun i=>i<=p.states.length) (fun i=>p.states.length-i) 0 [14] rfl (by decide) (fun _=>rfl) (Nat.zero_le _) ?_ ?_ ?_
 ·exact⟨⟨_,rfl,.eq rfl⟩,⟨_,rfl,.eq rfl⟩,trivial⟩
 ·refine⟨okS rfl nofun rfl rfl rfl ⟨rfl,rfl⟩ (uI ?_),trivial⟩
  rw[KL]
  exact OZ p.states.length
 conv=>whnf
 refine⟨⟨⟨_,rfl,.eq rfl⟩,⟨_,rfl,.eq rfl⟩,trivial⟩,rfl,?_⟩
 rintro i hi
 have hSl:=O6 (f:=Ci p q) hi
 have hsl:=KP hp hq
 conv=>whnf
 refine⟨fun h1=>?_,fun h1=>?_⟩
 ·have hi':i<p.states.length:=by simpa using h1
  have hstep:=KN (f:=Ci p q) hi'
  conv=>whnf
  repeat(refine VC.mk (by simp only[Rw.rng,Int.toNat_natCast]; omega) ?_; conv=>whnf)
  refine ah.pure (S.slices_Contains_int (mO p q) i false (by omega)) rfl ?_
  conv=>whnf
  refine⟨fun h2=>?_,fun h2=>?_⟩
  ·have hn:Ci p q i=[0,1,2]:=by rw[Ci,h2]; rfl
   rw[hn] at hstep
   conv=>whnf
   repeat(refine VC.mk (by first|(simp only[List.length_set,Rw.X0,Rw.len,Int.toNat_natCast]; omega)|(simp only[okI] at *; first|omega|(simp_all; done)|(simp_all; omega))) ?_; conv=>whnf)
   refine⟨i+1,[14],by omega,by omega,⟨⟨_,rfl,.eq rfl⟩,⟨_,rfl,.eq rfl⟩,trivial⟩,⟨⟨_,rfl,.eq rfl⟩,⟨_,rfl,.eq rfl⟩,trivial⟩,okS rfl nofun rfl rfl rfl ⟨rfl,rfl⟩ (uI ?_),trivial⟩
   rw[<- hstep]
   exact O1 _ _ _ _
  ·have hn:Ci p q i=[0]:=by rw[Ci,h2]; rfl
   rw[hn] at hstep
   conv=>whnf
   refine .mk (by simp only[okI] at *; first|omega|(simp_all; done)|(simp_all; omega)) ?_
   conv=>whnf
   refine⟨i+1,[14],by omega,by omega,⟨⟨_,rfl,.eq rfl⟩,⟨_,rfl,.eq rfl⟩,trivial⟩,⟨⟨_,rfl,.eq rfl⟩,⟨_,rfl,.eq rfl⟩,trivial⟩,okS rfl nofun rfl rfl rfl ⟨rfl,rfl⟩ (uI ?_),trivial⟩
   rw[<- hstep]
   exact MV _ _ _
 ·have hi':i=p.states.length:=by
   have: ¬ i<p.states.length:=by simpa using h1
   omega
  subst hi'
  rw[O5]
  conv=>whnf
  refine ah.XV (args':=[.int 0,.row 0 false (.jm (zy p q))]) (h2:=[]) (fun i=>i=14) trivial ⟨dP _,Rz rfl rfl,trivial⟩ (S.kF 0 (zy p q) false (by simp[zy]; omega) (uj (O7 p q) _)) ?_
  conv=>whnf
  have h6:(zy p q).length<=6:=by simp[zy]; omega
  have hcl:=MW (v:=0) (uj (O7 p q) p.states.length) h6
  refine ah.XT rfl rfl (Nat.lt_of_le_of_lt hcl (by decide)) (VB h6) ?_ (fun m=>?_)
  ·conv=>whnf
   exact ak.VD rfl
  ·conv=>whnf
   exact ak.ado rfl
theorem F9{a b:List Int}{j:Nat}(h:j<a.length):(a++b).getD j 0=a.getD j 0:=by
 simp[List.getD_eq_getElem?_getD,List.getElem?_append_left h]
theorem O8{a:List Int}{n:Int}:(a++[n]).getD a.length 0=n:=by
 simp[List.getD_eq_getElem?_getD]
theorem Uj{N:List (List Int)}: ∀ {i:Nat} {c:List Int},c∈qI N i↔c.length=i/\ ∀ j,j<i->c.getD j 0∈N.getD j []:=by
 intro i
 induction i with
 |zero =>
  intro c
  simp only[qI,List.mem_singleton]
  constructor
  ·rintro rfl; exact⟨rfl,fun j hj=>by omega⟩
  ·rintro⟨h,_⟩; exact List.eq_nil_of_length_eq_zero h
 |succ i ih =>
  intro c
  simp only[qI,List.mem_flatMap,List.mem_map]
  constructor
  ·rintro⟨x,hx,n,hn,rfl⟩
   obtain⟨h1,h2⟩:=ih.1 hx
   refine⟨by rw[List.length_append,h1]; rfl,fun j hj=>?_⟩
   by_cases e:j=i
   ·subst e; rw[<- h1,O8,h1]; exact hn
   ·rw[F9 (by omega)]; exact h2 j (by omega)
  ·rintro⟨h1,h2⟩
   have hne:c≠[]:=by intro e; rw[e] at h1; cases h1
   have hc:c=c.dropLast++[c.getD i 0]:=by
    have e1:=(List.dropLast_concat_getLast hne).symm
    have e2:c.getLast hne=c.getD i 0:=by
     rw[List.getLast_eq_getElem,List.getD_eq_getElem?_getD,List.getElem?_eq_getElem (by omega),Option.getD_some]
     congr 1; omega
    rw[e2] at e1; exact e1
   have hl:c.dropLast.length=i:=by rw[List.length_dropLast]; omega
   refine⟨c.dropLast,ih.2 ⟨hl,fun j hj=>?_⟩,c.getD i 0,h2 i (by omega),hc.symm⟩
   have:=h2 j (by omega)
   rw[hc,F9 (by omega)] at this
   exact this
def Cj(c:List Int)(x:Nat):List Int:=bif c.getD x 0==2 then [2,3,4] else [c.getD x 0]
def iP(c:List Int):List (List Int):=(List.range c.length).map (Cj c)
theorem O9(c:List Int)(i:Nat):(Cj c i).length<=3:=by
 unfold Cj; cases c.getD i 0==2<;>simp
theorem KQ{c:List Int}{j:Nat}(hj:j<c.length):(iP c).getD j []=Cj c j:=by
 unfold iP
 simp[List.getD_eq_getElem?_getD,hj]
theorem kH(c:List Int):(iP c).length=c.length:=by simp[iP]
theorem DN{c:List Int}(_hc:F7 c){d:List Int}:d∈qI (iP c) c.length↔d.length=c.length/\ ∀ j,j<c.length->d.getD j 0∈Cj c j:=by
 rw[Uj]
 constructor
 ·rintro⟨h1,h2⟩; exact⟨h1,fun j hj=>by rw[<- KQ hj]; exact h2 j hj⟩
 ·rintro⟨h1,h2⟩; exact⟨h1,fun j hj=>by rw[KQ hj]; exact h2 j hj⟩
theorem DR{c:List Int}{j:Nat}{x:Int}(h:x∈Cj c j):x=c.getD j 0\/(c.getD j 0=2/\(x=3\/x=4)):=by
 unfold Cj at h
 cases hb:(c.getD j 0==2) with
 |true =>
  rw[hb] at h
  have h2:c.getD j 0=2:=by simpa using hb
  simp at h
  omega
 |false=>rw[hb] at h; simp at h; left; simpa using h
theorem adp{d:List Int}(h: ∀ j,j<d.length->0<=d.getD j 0/\d.getD j 0<=1048576):F7 d:=fun x hx=>by
 obtain⟨j,hj,e⟩:=List.mem_iff_getElem.1 hx
 have:=h j hj
 rw[List.getD_eq_getElem?_getD,List.getElem?_eq_getElem hj,Option.getD_some,e] at this
 exact this
theorem MX{c d:List Int}(hc:F7 c)(h:d∈qI (iP c) c.length):F7 d:=by
 obtain⟨h1,h2⟩:=(DN hc).1 h
 refine adp fun j hj=>?_
 have a:=DR (h2 j (by omega))
 have b:=hc.get (show j<c.length by omega)
 omega
def BG(r:Rule)(e:Elem):Option Elem:=(gG r e).map Rt
def lG(r:Rule)(l:List Elem):List Elem:=l.filterMap (BG r)
def mV(r:Rule)(a:Elem):List Elem:=sS (lG r (mD a.value (iP a.counts)))
theorem Il{r:Rule}{l:List Elem}{j:Nat}(hj:j<l.length):lG r (l.take (j+1))=lG r (l.take j)++(BG r (l.getD j default)).toList:=by
 unfold lG
 have ht:l.take (j+1)=l.take j++[l.getD j default]:=by rw[List.take_add_one]; simp[hj]
 rw[ht,List.filterMap_append]
 simp only[List.filterMap_cons,List.filterMap_nil]
 cases BG r (l.getD j default)<;>rfl
theorem AO{r:Rule}{l:List Elem}:(lG r l).length<=l.length:=List.length_filterMap_le _ _
theorem KR{r:Rule}{l:List Elem}{x:Elem}(h:x∈lG r l): ∃ e∈l,∃ y,gG r e=some y/\x=Rt y:=by
 obtain⟨e,he,h⟩:=List.mem_filterMap.1 h
 unfold BG at h
 obtain⟨y,hy,rfl⟩:=Option.map_eq_some_iff.1 h
 exact⟨e,he,y,hy,rfl⟩
theorem zN{r:Rule}{l:List Elem}{n:Nat}(hl: ∀ e∈l,e.counts.length=n){x:Elem}(h:x∈lG r l):x.counts.length=n:=by
 obtain⟨e,he,y,hy,rfl⟩:=KR h
 show(qh y.counts).length=n
 rw[qh,List.length_map,xG hy,hl e he]
set_option maxHeartbeats 1000000 in
theorem S.rG(r:Rule)(a:Elem)(hr:wX r)(hp:zK a.counts.length r)(hc:F7 a.counts)(h0:0<a.counts.length)(hl:a.counts.length<=6):aj Tryz.prog 48 [.dat (.rule r),.dat (.elem a)] (.row 3 false (.elems (mV r a))):=by
 refine aj.of Bd.rG (by simp) rfl rfl ?_
 conv=>whnf
 rw[O4 h0]
 conv=>whnf
 refine .mk (by omega) ?_
 conv=>whnf
 refine aI.ae1 5 4 4 (.agg [.int 2,.int 3,.int 4]) rfl rfl rfl rfl (by decide) ?_
 refine aI.nZ 15 [2,3,5,20,21] (fun i:Nat=>[(22,.int i),(6,.own 9)]) (fun i=>[(0,.box 85 19 (.dat (.rule r))),(1,.box 54 3 (.dat (.elem a))),(9,jH (Ik (Cj a.counts) a.counts.length i))]) (fun i=>i<=a.counts.length) (fun i=>a.counts.length-i) 0 [0,1,9] rfl (by decide) (fun _=>rfl) (Nat.zero_le _) ?_ ?_ ?_
 ·exact⟨⟨_,rfl,.eq rfl⟩,⟨_,rfl,.eq rfl⟩,trivial⟩
 ·refine⟨okF rfl nofun rfl rfl rfl ⟨rfl,rfl⟩ rfl,okF rfl nofun rfl rfl rfl ⟨rfl,rfl⟩ rfl,okS rfl nofun rfl rfl rfl ⟨rfl,rfl⟩ (uI ?_),trivial⟩
  rw[KL]
  exact OZ a.counts.length
 conv=>whnf
 refine⟨⟨⟨_,rfl,.eq rfl⟩,⟨_,rfl,.eq rfl⟩,⟨_,rfl,.eq rfl⟩,⟨_,rfl,.eq rfl⟩,⟨_,rfl,.eq rfl⟩,trivial⟩,rfl,?_⟩
 rintro i hi
 have hSl:=O6 (f:=Cj a.counts) hi
 conv=>whnf
 refine⟨fun h1=>?_,fun h1=>?_⟩
 ·have hi':i<a.counts.length:=by simpa using h1
  have hstep:=KN (f:=Cj a.counts) hi'
  conv=>whnf
  repeat(refine VC.mk (by simp only[Rw.rng,Int.toNat_natCast]; omega) ?_; conv=>whnf)
  refine⟨fun h2=>?_,fun h2=>?_⟩
  ·have hn:Cj a.counts i=[2,3,4]:=by rw[Cj,show(a.counts.getD i 0==2)=true from h2]; rfl
   rw[hn] at hstep
   conv=>whnf
   repeat(refine VC.mk (by first|(simp only[List.length_set,Rw.X0,Rw.len,Int.toNat_natCast]; omega)|(simp only[okI] at *; first|omega|(simp_all; done)|(simp_all; omega))) ?_; conv=>whnf)
   refine⟨i+1,[0,1,9],by omega,by omega,⟨⟨_,rfl,.eq rfl⟩,⟨_,rfl,.eq rfl⟩,trivial⟩,⟨⟨_,rfl,.eq rfl⟩,⟨_,rfl,.eq rfl⟩,⟨_,rfl,.eq rfl⟩,⟨_,rfl,.eq rfl⟩,⟨_,rfl,.eq rfl⟩,trivial⟩,okF rfl nofun rfl rfl rfl ⟨rfl,rfl⟩ rfl,okF rfl nofun rfl rfl rfl ⟨rfl,rfl⟩ rfl,okS rfl nofun rfl rfl rfl ⟨rfl,rfl⟩ (uI ?_),trivial⟩
   rw[<- hstep]
   exact O1 _ _ _ _
  ·have hn:Cj a.counts i=[a.counts.getD i 0]:=by rw[Cj,show(a.counts.getD i 0==2)=false from h2]; rfl
   rw[hn] at hstep
   conv=>whnf
   refine .mk (by simp only[okI] at *; first|omega|(simp_all; done)|(simp_all; omega)) ?_
   conv=>whnf
   refine⟨i+1,[0,1,9],by omega,by omega,⟨⟨_,rfl,.eq rfl⟩,⟨_,rfl,.eq rfl⟩,trivial⟩,⟨⟨_,rfl,.eq rfl⟩,⟨_,rfl,.eq rfl⟩,⟨_,rfl,.eq rfl⟩,⟨_,rfl,.eq rfl⟩,⟨_,rfl,.eq rfl⟩,trivial⟩,okF rfl nofun rfl rfl rfl ⟨rfl,rfl⟩ rfl,okF rfl nofun rfl rfl rfl ⟨rfl,rfl⟩ rfl,okS rfl nofun rfl rfl rfl ⟨rfl,rfl⟩ (uI ?_),trivial⟩
   rw[<- hstep]
   exact MV _ _ _
 ·have hi':i=a.counts.length:=by
   have: ¬ i<a.counts.length:=by simpa using h1
   omega
  subst hi'
  rw[O5]
  conv=>whnf
  have h6:(iP a.counts).length<=6:=by rw[kH]; exact hl
  have hs3:=uj (O9 a.counts) a.counts.length
  have hcl:(mD a.value (iP a.counts)).length<=729:=MW (v:=a.value) hs3 h6
  refine ah.XV (args':=[.int a.value,.row 0 false (.jm (iP a.counts))]) (h2:=[(0,some (.box 85 19 (.dat (.rule r)))),(1,some (.box 54 3 (.dat (.elem a))))]) (fun i=>i=9) ⟨mF (Z:=fun i=>i=9) rfl (by decide),mF (Z:=fun i=>i=9) rfl (by decide),trivial⟩ ⟨dP _,Rz rfl rfl,trivial⟩ (S.kF a.value (iP a.counts) false h6 hs3) ?_
  conv=>whnf
  refine aI.nil 9 54 3 (by rfl) rfl rfl rfl ?_
  refine aI.nZ 24 [2,42,43] (fun j:Nat=>[(44,.int j),(9,.own 23)]) (fun j=>[(0,.box 85 19 (.dat (.rule r))),(20,eF (mD a.value (iP a.counts))),(23,eF (lG r ((mD a.value (iP a.counts)).take j)))]) (fun j=>j<=(mD a.value (iP a.counts)).length) (fun j=>(mD a.value (iP a.counts)).length-j) 0 [0,20,23] rfl (by decide) (fun _=>rfl) (Nat.zero_le _) ?_ ?_ ?_
  ·exact⟨⟨_,rfl,.eq rfl⟩,⟨_,rfl,.eq rfl⟩,trivial⟩
  ·exact⟨okF rfl nofun rfl rfl rfl ⟨rfl,rfl⟩ rfl,okF rfl nofun rfl rfl rfl ⟨rfl,rfl⟩ rfl,okF rfl nofun rfl rfl rfl ⟨rfl,rfl⟩ rfl,trivial⟩
  conv=>whnf
  refine⟨⟨⟨_,rfl,.eq rfl⟩,⟨_,rfl,.eq rfl⟩,⟨_,rfl,.eq rfl⟩,trivial⟩,rfl,?_⟩
  rintro j hj
  have hkl:=AO (r:=r) (l:=(mD a.value (iP a.counts)).take j)
  rw[List.length_take] at hkl
  conv=>whnf
  refine⟨fun h2=>?_,fun h2=>?_⟩
  ·have hj':j<(mD a.value (iP a.counts)).length:=by simpa using h2
   have hstep:=Il (r:=r) hj'
   have hmem:(mD a.value (iP a.counts)).getD j default∈mD a.value (iP a.counts):=iY hj'
   obtain⟨_,g1,g2,_⟩:=AL hmem
   rw[kH] at g1 g2
   conv=>whnf
   repeat(refine VC.mk (by simp only[Rw.rng] at *; first|omega|(simp_all; done)|(simp_all; omega)) ?_; conv=>whnf)
   refine ah.pure (aj.KT (S.rF r ((mD a.value (iP a.counts)).getD j default) hr (by rw[g1]; exact hp) (MX hc g2) (by omega))) rfl ?_
   conv=>whnf
   refine⟨fun h3=>?_,fun h3=>?_⟩
   ·obtain⟨x,hx⟩:=Option.isSome_iff_exists.1 h3
    replace hx:gG r ((mD a.value (iP a.counts)).getD j default)=some x:=hx
    have hxl:=xG hx
    rw[BG,hx] at hstep
    rw[show gG r ((mD a.value (iP a.counts)).getD (j:Int).toNat default)=some x from hx]
    conv=>whnf
    refine ah.pure (S.kT x (by rw[hxl]; omega) (by rw[hxl]; omega)) rfl ?_
    conv=>whnf
    repeat(refine VC.mk (by first|(show((lG r ((mD a.value (iP a.counts)).take j)).length+(0+1))*32<=140737488355328/\(lG r ((mD a.value (iP a.counts)).take j)).length+(0+1)<=1152921504606846976; omega)|(simp only[okI] at *; first|omega|(simp_all; done)|(simp_all; omega))) ?_; conv=>whnf)
    refine⟨j+1,[0,20,43],by omega,by omega,⟨⟨_,rfl,.eq rfl⟩,⟨_,rfl,.eq rfl⟩,trivial⟩,⟨⟨_,rfl,.eq rfl⟩,⟨_,rfl,.eq rfl⟩,⟨_,rfl,.eq rfl⟩,trivial⟩,okF rfl nofun rfl rfl rfl ⟨rfl,rfl⟩ rfl,okF rfl nofun rfl rfl rfl ⟨rfl,rfl⟩ rfl,okF rfl nofun rfl rfl rfl ⟨rfl,rfl⟩ ?_,trivial⟩
    rw[hstep]
    show List.map eG (lG r ((mD a.value (iP a.counts)).take j)++[Rt x])++[]=List.map eG (lG r ((mD a.value (iP a.counts)).take j))++[eG (Rt x)]
    simp
   ·replace h3:(gG r ((mD a.value (iP a.counts)).getD j default)).isSome=false:=h3
    rw[Option.isSome_eq_false_iff,Option.isNone_iff_eq_none] at h3
    rw[BG,h3] at hstep
    conv=>whnf
    refine .mk (by simp only[okI] at *; first|omega|(simp_all; done)|(simp_all; omega)) ?_
    conv=>whnf
    refine⟨j+1,[0,20,23],by omega,by omega,⟨⟨_,rfl,.eq rfl⟩,⟨_,rfl,.eq rfl⟩,trivial⟩,⟨⟨_,rfl,.eq rfl⟩,⟨_,rfl,.eq rfl⟩,⟨_,rfl,.eq rfl⟩,trivial⟩,okF rfl nofun rfl rfl rfl ⟨rfl,rfl⟩ rfl,okF rfl nofun rfl rfl rfl ⟨rfl,rfl⟩ rfl,okF rfl nofun rfl rfl rfl ⟨rfl,rfl⟩ (by rw[hstep]; simp),trivial⟩
  ·have hj':(mD a.value (iP a.counts)).length<=j:=by simpa using h2
   rw[List.take_of_length_le hj']
   conv=>whnf
   have hsm:gq (lG r (mD a.value (iP a.counts))):=fun x hx=>by
    rw[zN (n:=a.counts.length) (fun e he=>by rw[(AL he).2.1,kH]) hx]; omega
   have hpl:=AO (r:=r) (l:=mD a.value (iP a.counts))
   refine ah.XT rfl rfl (Nat.lt_of_le_of_lt hpl (Nat.lt_of_le_of_lt hcl (by decide))) hsm ?_ (fun m=>?_)
   ·conv=>whnf
    exact ak.VD rfl
   ·conv=>whnf
    exact ak.ado rfl
def allM(m:Nat):Nat->List (List Int)
 |0=>[[]]
 |n+1=>(List.range (m+1)).flatMap fun(k:Nat)=>(allM m n).map fun c=>(k:Int)::c
def jM(m n j:Nat):List (List Int):=(allM m (n-j)).map fun c=>List.replicate j 0++c
def wE(m n j k:Nat):List (List Int):=(List.range k).flatMap fun(k:Nat)=>(jM m n (j+1)).map fun c=>c.set j (k:Int)
theorem Io{m n j k:Nat}:wE m n j (k+1)=wE m n j k++(jM m n (j+1)).map fun c=>c.set j (k:Int):=by
 unfold wE
 rw[List.range_succ,List.flatMap_append]; simp
theorem DT{m:Nat}: ∀ {n:Nat},(allM m n).length=(m+1)^n:=by
 intro n
 induction n with
 |zero=>rfl
 |succ n ih =>
  unfold allM
  rw[List.length_flatMap]
  have:(List.range (m+1)).map (fun(a:Nat)=>((allM m n).map fun c=>(a:Int)::c).length)=List.replicate (m+1) ((m+1)^n):=by
   rw[List.eq_replicate_iff]
   refine⟨by simp,fun b hb=>?_⟩
   obtain⟨a,_,rfl⟩:=List.mem_map.1 hb
   rw[List.length_map,ih]
  rw[this,List.sum_replicate_nat,Nat.pow_succ,Nat.mul_comm]
theorem zO{m:Nat}: ∀ {n:Nat} {c:List Int},c∈allM m n↔c.length=n/\ ∀ x∈c,0<=x/\x<=m:=by
 intro n
 induction n with
 |zero =>
  intro c
  simp only[allM,List.mem_singleton]
  constructor
  ·rintro rfl; exact⟨rfl,fun x hx=>by cases hx⟩
  ·rintro⟨h,_⟩; exact List.eq_nil_of_length_eq_zero h
 |succ n ih =>
  intro c
  simp only[allM,List.mem_flatMap,List.mem_range,List.mem_map]
  constructor
  ·rintro⟨k,hk,d,hd,rfl⟩
   obtain⟨h1,h2⟩:=ih.1 hd
   refine⟨by rw[List.length_cons,h1],fun x hx=>?_⟩
   rcases List.mem_cons.1 hx with rfl|hx
   ·omega
   ·exact h2 x hx
  ·rintro⟨h1,h2⟩
   cases c with
   |nil=>cases h1
   |cons x d =>
    have hx:=h2 x (by simp)
    refine⟨x.toNat,by omega,d,ih.2 ⟨by simpa using h1,fun y hy=>h2 y (by simp[hy])⟩,?_⟩
    rw[Int.toNat_of_nonneg hx.1]
theorem KU{m n j:Nat}(hn:n<=6)(hm:m<=3):(jM m n j).length<=4096:=by
 unfold jM
 rw[List.length_map,DT]
 have h1:(m+1)^(n-j)<=4^(n-j):=Nat.pow_le_pow_left (by omega) _
 have h2:4^(n-j)<=4^6:=Nat.pow_le_pow_right (by decide) (by omega)
 have h3:4^6=4096:=by decide
 omega
theorem VE{m n j k:Nat}(hn:n<=6)(hm:m<=3):(wE m n j k).length<=k*4096:=by
 induction k with
 |zero=>simp[wE]
 |succ k ih =>
  rw[Io,List.length_append,List.length_map,Nat.succ_mul]
  have:=@KU m n (j+1) hn hm
  omega
theorem aaY{j:Nat}{k:Int}{c:List Int}:(List.replicate (j+1) (0:Int)++c).set j k=List.replicate j 0++(k::c):=by
 rw[List.replicate_succ',List.append_assoc,List.set_append_right _ _ (by simp)]
 simp
theorem RF{m n j:Nat}(hj:j<n):wE m n j (m+1)=jM m n j:=by
 have e:n-j=(n-(j+1))+1:=by omega
 unfold wE jM
 rw[e,allM,List.map_flatMap]
 refine congrArg List.flatten (List.map_congr_left fun k _=>?_)
 rw[List.map_map,List.map_map]
 exact List.map_congr_left fun c _=>aaY
theorem VF{m n:Nat}:jM m n 0=allM m n:=by simp[jM]
theorem VG{m n j:Nat}(hj:j<=n){c:List Int}(h:c∈jM m n j):c.length=n:=by
 obtain⟨d,hd,rfl⟩:=List.mem_map.1 h
 have:=(zO.1 hd).1
 rw[List.length_append,List.length_replicate,this]; omega
set_option maxHeartbeats 1000000 in
theorem S.X3(m n:Nat)(hn0:0<n)(hn6:n<=6)(hm3:m<=3):aj Tryz.prog 40 [.int n,.int m] (.row 0 false (.jm (allM m n))):=by
 refine aj.of Bd.DU (by simp) rfl rfl ?_
 conv=>whnf
 have hmk:=Dy (n:=n) hn0
 rw[hmk]
 conv=>whnf
 repeat(refine VC.mk (by first|(omega)|(simp only[okI] at *; first|omega|(simp_all; done)|(simp_all; omega))) ?_; conv=>whnf)
 refine aI.Uh 1 [0,1] (fun j:Nat=>[(6,.int ((j:Int)-1)),(5,.own 0)]) (fun j=>[(0,jH (jM m n j))]) (fun j=>j<=n) (fun j=>j) n [3] [(3,some (jH ([]++[List.replicate n 0])))] rfl (by decide) (fun _=>rfl) (Nat.le_refl _) ?_ ?_ ?_ ?_
 ·exact⟨⟨_,rfl,.eq rfl⟩,⟨_,rfl,.eq rfl⟩,trivial⟩
 ·exact⟨fun i=>i=2,EZ (Z:=fun i=>i=2) (i:=3) (j:=2) rfl rfl (by decide) rfl rfl,trivial⟩
 ·exact⟨okF rfl nofun rfl rfl rfl ⟨rfl,rfl⟩ (by simp[jM,allM]),trivial⟩
 conv=>whnf
 refine⟨⟨⟨_,rfl,.eq rfl⟩,⟨_,rfl,.eq rfl⟩,trivial⟩,rfl,?_⟩
 rintro j hj
 conv=>whnf
 refine⟨fun h3=>?_,fun h3=>?_⟩
 ·obtain⟨j,rfl⟩: ∃ i,j=i+1:=⟨j-1,by have:=of_decide_eq_true h3; omega⟩
  have ej:(((j+1:Nat):Int)-1)=(j:Int):=by omega
  rw[ej]
  conv=>whnf
  refine aI.nil 7 24 0 (by rfl) rfl rfl rfl ?_
  refine aI.objs 2 [0,1,5,6] (fun k:Nat=>[(8,.int k),(7,.own 1)]) (fun k=>[(0,jH (jM m n (j+1))),(1,jH (wE m n j k))]) (fun k=>k<=m+1) (fun k=>m+1-k) 0 [0,5] rfl (by decide) (fun _=>rfl) (Nat.zero_le _) ?_ ?_ ?_
  ·exact⟨⟨_,rfl,.eq rfl⟩,⟨_,rfl,.eq rfl⟩,trivial⟩
  ·exact⟨⟨rfl,nofun,rfl,rfl,rfl,_,rfl,rfl,rfl,dN.of_eq rfl⟩,⟨rfl,nofun,rfl,rfl,rfl,_,rfl,rfl,rfl,dN.of_eq rfl⟩,trivial⟩
  conv=>whnf
  refine⟨⟨⟨_,rfl,.eq rfl⟩,⟨_,rfl,.eq rfl⟩,⟨_,rfl,.eq rfl⟩,⟨_,rfl,.eq rfl⟩,trivial⟩,rfl,?_⟩
  rintro k hk
  have hkl:=@VE m n j k hn6 hm3
  have hol:=@KU m n (j+1) hn6 hm3
  conv=>whnf
  refine⟨fun h4=>?_,fun h4=>?_⟩
  ·have hk3:k<=m:=by have:=of_decide_eq_true h4; omega
   conv=>whnf
   refine aI.Uh 2 [0,1,5,6,8] (fun i:Nat=>[(9,.int i),(7,.own 1)]) (fun i=>[(0,jH (jM m n (j+1))),(1,jH (wE m n j k++((jM m n (j+1)).take i).map fun c=>c.set j (k:Int)))]) (fun i=>i<=(jM m n (j+1)).length) (fun i=>(jM m n (j+1)).length-i) 0 [0,1] [(0,some (jH (jM m n (j+1)))),(1,some (jH (wE m n j k)))] rfl (by decide) (fun _=>rfl) (Nat.zero_le _) ?_ ?_ ?_ ?_
   ·exact⟨⟨_,rfl,.eq rfl⟩,⟨_,rfl,.eq rfl⟩,trivial⟩
   ·exact⟨fun _=>False,mF (Z:=fun _=>False) rfl (fun q=>q),mF (Z:=fun _=>False) rfl (fun q=>q),trivial⟩
   ·exact⟨okF rfl nofun rfl rfl rfl ⟨rfl,rfl⟩ rfl,okF rfl nofun rfl rfl rfl ⟨rfl,rfl⟩ (by simp),trivial⟩
   conv=>whnf
   refine⟨⟨⟨_,rfl,.eq rfl⟩,⟨_,rfl,.eq rfl⟩,⟨_,rfl,.eq rfl⟩,⟨_,rfl,.eq rfl⟩,⟨_,rfl,.eq rfl⟩,trivial⟩,rfl,?_⟩
   rintro i hi
   have hal:(wE m n j k++((jM m n (j+1)).take i).map fun c=>c.set j (k:Int)).length<=6*4096:=by
    rw[List.length_append,List.length_map,List.length_take]; omega
   conv=>whnf
   refine⟨fun h5=>?_,fun h5=>?_⟩
   ·have hi':i<(jM m n (j+1)).length:=by simpa using h5
    have hcl:((jM m n (j+1)).getD i []).length=n:=VG hj (iY hi')
    conv=>whnf
    repeat(refine VC.mk (by first|(first|(simp only[nG,og,Rw.len,Int.toNat_natCast,hcl]; omega)|(simp only[Rw.rng,Int.toNat_natCast,hcl]; omega)|(show((wE m n j k++((jM m n (j+1)).take i).map fun c=>c.set j (k:Int)).length+(0+1))*24<=140737488355328/\(wE m n j k++((jM m n (j+1)).take i).map fun c=>c.set j (k:Int)).length+(0+1)<=1152921504606846976; omega))|(simp only[okI] at *; first|omega|(simp_all; done)|(simp_all; omega))) ?_; conv=>whnf)
    refine⟨[(0,some (jH (jM m n (j+1)))),(21,some (jH ((wE m n j k++((jM m n (j+1)).take i).map fun c=>c.set j (k:Int))++[((jM m n (j+1)).getD i []).set j (k:Int)])))],i+1,[0,21],⟨fun i=>i=11,mF (Z:=fun i=>i=11) (i:=0) rfl (by decide),EZ (Z:=fun i=>i=11) (i:=21) (j:=11) rfl rfl (by decide) rfl rfl,trivial⟩,by omega,by omega,⟨⟨_,rfl,.eq rfl⟩,⟨_,rfl,.eq rfl⟩,trivial⟩,⟨⟨_,rfl,.eq rfl⟩,⟨_,rfl,.eq rfl⟩,⟨_,rfl,.eq rfl⟩,⟨_,rfl,.eq rfl⟩,⟨_,rfl,.eq rfl⟩,trivial⟩,okF rfl nofun rfl rfl rfl ⟨rfl,rfl⟩ rfl,okF rfl nofun rfl rfl rfl ⟨rfl,rfl⟩ ?_,trivial⟩
    have ht:(jM m n (j+1)).take (i+1)=(jM m n (j+1)).take i++[(jM m n (j+1)).getD i []]:=by rw[List.take_add_one]; simp[hi']
    rw[ht,List.map_append,<- List.append_assoc]; rfl
   ·have hi':i=(jM m n (j+1)).length:=by
     have: ¬ ((i:Int)<((jM m n (j+1)).length:Int)):=of_decide_eq_false h5
     omega
    subst hi'
    rw[List.take_length,<- Io]
    conv=>whnf
    refine .mk (by first|(simp only[okI]; omega)|omega) ?_
    conv=>whnf
    refine⟨k+1,[0,1],by omega,by omega,⟨⟨_,rfl,.eq rfl⟩,⟨_,rfl,.eq rfl⟩,trivial⟩,⟨⟨_,rfl,.eq rfl⟩,⟨_,rfl,.eq rfl⟩,⟨_,rfl,.eq rfl⟩,⟨_,rfl,.eq rfl⟩,trivial⟩,⟨rfl,nofun,rfl,rfl,rfl,_,rfl,rfl,rfl,dN.of_eq rfl⟩,⟨rfl,nofun,rfl,rfl,rfl,_,rfl,rfl,rfl,dN.of_eq rfl⟩,trivial⟩
  ·have hk4:k=m+1:=by have:=of_decide_eq_false h4; omega
   subst hk4
   rw[RF (by omega)]
   conv=>whnf
   refine .mk (by first|(simp only[okI]; omega)|omega) ?_
   conv=>whnf
   refine⟨[(1,some (jH (jM m n j)))],j,[1],⟨fun _=>False,mF (Z:=fun _=>False) rfl (fun q=>q),trivial⟩,by omega,by omega,⟨⟨_,rfl,.eq rfl⟩,⟨_,rfl,.eq rfl⟩,trivial⟩,⟨⟨_,rfl,.eq rfl⟩,⟨_,rfl,.eq rfl⟩,trivial⟩,okF rfl nofun rfl rfl rfl ⟨rfl,rfl⟩ rfl,trivial⟩
 ·have hj0:j=0:=by have:=of_decide_eq_false h3; omega
  subst hj0
  rw[VF]
  conv=>whnf
  exact ak.ae0 rfl
theorem S.Cm(l:List Int)(s:Int)(f:Bool)(hl:l.length<2^40):aj Tryz.prog 118 [.row 0 f (.ints l),.int s] (.bool (yL l s)):=by
 refine aj.of Bd.Cm (by simp) rfl rfl ?_
 conv=>whnf
 refine aI.same [0,1] (fun i:Nat=>[(5,.int i)]) (fun i=>i<=l.length/\(l.take i).any (fun x=>s==x)=false) (fun i=>l.length-i) 0 rfl (by decide) rfl (fun _=>rfl) ⟨by omega,by simp⟩ ⟨⟨_,rfl,rfl⟩,trivial⟩ ?_
 conv=>whnf
 refine⟨rfl,?_⟩
 rintro i ⟨hi,hall⟩
 conv=>whnf
 refine⟨fun h3=>?_,fun h3=>?_⟩
 ·have hi':i<l.length:=by simpa using h3
  conv=>whnf
  refine .mk (by simp only[Rw.rng] at *; first|omega|(simp_all; done)|(simp_all; omega)) ?_
  conv=>whnf
  refine⟨fun h4=>?_,fun h4=>?_⟩
  ·have h4':(s==l.getD i 0)=true:=by rw[show(s==l.getD i 0)=(l.getD i 0==s) from Bool.beq_comm]; exact h4
   conv=>whnf
   exact ak.bool (gI (d:=0) hi' h4')
  ·have h4':(s==l.getD i 0)=false:=by rw[show(s==l.getD i 0)=(l.getD i 0==s) from Bool.beq_comm]; exact h4
   conv=>whnf
   refine .mk (by simp only[okI] at *; first|omega|(simp_all; done)|(simp_all; omega)) ?_
   conv=>whnf
   refine⟨i+1,⟨by omega,?_⟩,by omega,⟨⟨_,rfl,rfl⟩,trivial⟩,?_,rfl⟩
   ·rw[jE (d:=0) hi' hall]; exact h4'
   ·repeat' (first|exact trivial|exact⟨_,rfl,rfl⟩|constructor)
 ·have hi':l.length<=i:=by simpa using h3
  rw[List.take_of_length_le hi'] at hall
  conv=>whnf
  exact ak.bool hall
theorem S.nI(l c:List Int)(f g:Bool)(hl:l.length<2^40)(hc:c.length<2^40):aj Tryz.prog 85 [.row 0 f (.ints l),.row 0 g (.ints c)] (.bool (!(zQ c l))):=by
 refine aj.of Bd.nI (by simp) rfl rfl ?_
 conv=>whnf
 refine aI.same [0,1] (fun i:Nat=>[(5,.int i)]) (fun i=>i<=c.length/\(List.range i).any (fun i=>decide (c.getD i 0>0)&& !(yL l i))=false) (fun i=>c.length-i) 0 rfl (by decide) rfl (fun _=>rfl) ⟨by omega,by simp⟩ ⟨⟨_,rfl,rfl⟩,trivial⟩ ?_
 conv=>whnf
 refine⟨rfl,?_⟩
 rintro i ⟨hi,hall⟩
 conv=>whnf
 refine⟨fun h3=>?_,fun h3=>?_⟩
 ·have hi':i<c.length:=by simpa using h3
  conv=>whnf
  repeat(refine VC.mk (by first|exact fun h=>⟨h,h⟩|(simp only[Rw.rng] at *; first|omega|(simp_all; done)|(simp_all; omega))) ?_; conv=>whnf)
  refine ah.iD (fun _=>S.Cm l i f hl) rfl ?_
  conv=>whnf
  repeat(refine VC.mk id ?_; conv=>whnf)
  refine⟨fun h4=>?_,fun h4=>?_⟩
  ·conv=>whnf
   exact ak.bool (by rw[show zQ c l=true from nT.2 ⟨i,hi',h4⟩]; rfl)
  ·conv=>whnf
   refine .mk (by simp only[okI] at *; first|omega|(simp_all; done)|(simp_all; omega)) ?_
   conv=>whnf
   refine⟨i+1,⟨by omega,?_⟩,by omega,⟨⟨_,rfl,rfl⟩,trivial⟩,?_,rfl⟩
   ·rw[List.range_succ,List.any_append,hall]
    simp only[List.any_cons,List.any_nil,Bool.or_false,Bool.false_or]; exact h4
   ·repeat' (first|exact trivial|exact⟨_,rfl,rfl⟩|constructor)
 ·have hi':c.length<=i:=by simpa using h3
  have e:i=c.length:=Nat.le_antisymm hi hi'
  subst e
  conv=>whnf
  exact ak.bool (by rw[show zQ c l=false from hall]; rfl)
def Pg(p:aO)(q:Prop')(c:List Int):Bool:=decide (0<zD ⟨0,c⟩)&& !(zQ c (mO p q))
def initK(p:aO)(q:Prop')(l:List (List Int)):List Elem:=(l.filter (Pg p q)).map fun c=>(⟨0,c⟩:Elem)
def nJ(p:aO)(q:Prop'):List Elem:=initK p q (allM 2 p.states.length)
theorem RG{p:aO}{q:Prop'}{l:List (List Int)}{a:Nat}(ha:a<l.length):initK p q (l.take (a+1))=initK p q (l.take a)++(if Pg p q (l.getD a [])=true then [⟨0,l.getD a []⟩] else []):=by
 unfold initK
 have ht:l.take (a+1)=l.take a++[l.getD a []]:=by rw[List.take_add_one]; simp[ha]
 rw[ht,List.filter_append,List.map_append]
 by_cases h:Pg p q (l.getD a [])=true
 ·rw[if_pos h]; simp only[List.filter_cons,h,if_true,List.filter_nil,List.map_cons,List.map_nil]
 ·rw[if_neg h]; simp only[List.filter_cons,h,Bool.false_eq_true,if_false,List.filter_nil,List.map_nil]
theorem VH{p:aO}{q:Prop'}{l:List (List Int)}:(initK p q l).length<=l.length:=by
 unfold initK; rw[List.length_map]; exact List.length_filter_le _ _
theorem DV{x y:Int}{a b:List Int}(h:x<y\/(x=y/\cmpL a b<0)):cmpL (x::a) (y::b)<0:=by
 rw[cmpL]
 rcases h with h|⟨rfl,h⟩
 ·rw[if_pos h]; decide
 ·rw[if_neg (Int.lt_irrefl _),if_neg (Int.lt_irrefl _)]; exact h
theorem VI{R:List Int->List Int->Prop}{f:Nat->List (List Int)}: ∀ {n:Nat},(∀ k,k<n->(f k).Pairwise R)->(∀ j k,j<k->k<n-> ∀ a∈f j,∀ b∈f k,R a b)->((List.range n).flatMap f).Pairwise R:=by
 intro n
 induction n with
 |zero=>intro _ _; exact List.Pairwise.nil
 |succ n ih =>
  intro h1 h2
  rw[List.range_succ,List.flatMap_append,List.pairwise_append]
  refine⟨ih (fun k hk=>h1 k (by omega)) (fun j k a b=>h2 j k a (by omega)),by simpa using h1 n (by omega),fun a ha b hb=>?_⟩
  obtain⟨j,hj,ha⟩:=List.mem_flatMap.1 ha
  have hb':b∈f n:=by simpa using hb
  exact h2 j n (List.mem_range.1 hj) (by omega) a ha b hb'
theorem Ph{m:Nat}: ∀ {n:Nat},(allM m n).Pairwise fun a b=>cmpL a b<0:=by
 intro n
 induction n with
 |zero=>exact List.pairwise_singleton _ _
 |succ n ih =>
  unfold allM
  refine VI (fun k _=>?_) (fun j k hjk _ a ha b hb=>?_)
  ·rw[List.pairwise_map]
   exact ih.imp fun h=>DV (.inr ⟨rfl,h⟩)
  ·obtain⟨c,_,rfl⟩:=List.mem_map.1 ha
   obtain⟨d,_,rfl⟩:=List.mem_map.1 hb
   exact DV (.inl (by omega))
theorem X4(p:aO)(q:Prop'):SS (nJ p q):=by
 unfold SS nJ initK
 rw[List.pairwise_map]
 refine(Ph.filter _).imp fun h=>?_
 unfold iK
 rw[if_neg (Int.lt_irrefl _),if_neg (Int.lt_irrefl _)]; exact h
theorem adq{c l:List Int}:zQ c l=false↔ ∀ i,i<c.length->0<c.getD i 0->yL l i=true:=by
 constructor
 ·intro h i hi hp
  cases hb:yL l i with
  |true=>rfl
  |false =>
   have:zQ c l=true:=nT.2 ⟨i,hi,by rw[hb]; simpa using hp⟩
   rw[this] at h; cases h
 ·intro h
  cases hb:zQ c l with
  |false=>rfl
  |true =>
   obtain⟨i,hi,h2⟩:=nT.1 hb
   simp at h2
   rw[h i hi (by simpa using h2.1)] at h2; cases h2.2
theorem KX{p:aO}{q:Prop'}{j:Nat}(hj:j<p.states.length):(zy p q).getD j []=Ci p q j:=by
 unfold zy; simp[List.getD_eq_getElem?_getD,hj]
theorem adr(p:aO)(q:Prop'):fiE p q=nJ p q:=by
 refine E8 (xH _) (X4 p q) fun x=>?_
 rw[fiE,rH]
 have hN:(zy p q).length=p.states.length:=by simp[zy]
 have key: ∀ c:List Int,c∈qI (zy p q) (zy p q).length↔(c∈allM 2 p.states.length/\zQ c (mO p q)=false):=by
  intro c
  rw[Uj,hN,zO,adq]
  constructor
  ·rintro⟨h1,h2⟩
   have h3: ∀ j,j<p.states.length->c.getD j 0∈Ci p q j:=fun j hj=>by rw[<- KX hj]; exact h2 j hj
   refine⟨⟨h1,fun x hx=>?_⟩,fun i hi hp=>?_⟩
   ·obtain⟨j,hj,e⟩:=List.mem_iff_getElem.1 hx
    have:=h3 j (by omega)
    rw[List.getD_eq_getElem?_getD,List.getElem?_eq_getElem hj,Option.getD_some,e] at this
    unfold Ci at this
    cases hb:yL (mO p q) j<;>rw[hb] at this<;>simp at this<;>omega
   ·have:=h3 i (by omega)
    unfold Ci at this
    cases hb:yL (mO p q) i with
    |true=>rfl
    |false=>rw[hb] at this; simp at this; rw[List.getD_eq_getElem?_getD] at hp; omega
  ·rintro⟨⟨h1,h2⟩,h3⟩
   refine⟨h1,fun j hj=>?_⟩
   rw[KX hj]
   have hm:c.getD j 0∈c:=by
    rw[List.getD_eq_getElem?_getD,List.getElem?_eq_getElem (by omega)]; exact List.getElem_mem _
   have hr:=h2 _ hm
   have hs:=h3 j (by omega)
   unfold Ci
   cases hb:yL (mO p q) j with
   |true=>simp only[cond_true,List.mem_cons,List.not_mem_nil,or_false]; omega
   |false =>
    simp only[cond_false,List.mem_singleton]
    by_cases h0:0<c.getD j 0
    ·rw[hs h0] at hb; cases hb
    ·omega
 unfold mD DJ nJ initK Pg
 simp only[List.mem_filter,List.mem_map,Bool.and_eq_true,decide_eq_true_eq,Bool.not_eq_true']
 constructor
 ·rintro⟨⟨c,hc,rfl⟩,ht⟩
  have:=(key c).1 hc
  exact⟨c,⟨this.1,ht,this.2⟩,rfl⟩
 ·rintro⟨c,⟨h1,h2,h3⟩,rfl⟩
  exact⟨⟨c,(key c).2 ⟨h1,h3⟩,rfl⟩,h2⟩
theorem DW{p:aO}{q:Prop'}(h:xE p q=0):jf p q=0:=by
 unfold xE at h
 by_cases h0:jf p q=0
 ·exact h0
 ·rw[show(jf p q !=0)=true by simpa using h0] at h; exact absurd h h0
theorem RH{p:aO}{q:Prop'}(h:xE p q=0):EW p=0:=by
 have h0:=DW h
 unfold xE at h
 rw[h0] at h; exact h
theorem agm{Z:Nat->Prop}{h:Hz}{j:Nat}{v:Int}{l:List Int}(hz:Z j)(q:h.get j=some (vZ l)):T.sub Z h.ay (eG ⟨v,l⟩) (.agg [.int v,.own j]):=by
 have:=F8 hz q
 show T.sub Z h.ay (.agg [.int v,.sl 0 false (l.map T.int)]) (.agg [.int v,.own j])
 replace this:T.sub Z h.ay (.sl 0 false (l.map T.int)) (.own j):=this
 simp only[T.sub] at this
 simp only[T.sub,T.dM]
 exact⟨trivial,this,trivial⟩
theorem X5{Z:Nat->Prop}{h:Hz}{i j:Nat}{l:List Elem}{e:Elem}(q:h.get i=some (.row 54 3 (.elems l) [.agg [.int e.value,.own j]]))(hi: ¬ Z i)(hz:Z j)(qj:h.get j=some (vZ e.counts)) :
  ∃ o',h.get i=some o'/\ ¬ Z i/\o'.aF.ty=(eF (l++[e])).aF.ty/\o'.aF.k=(eF (l++[e])).aF.k/\T.dM Z h.ay (eF (l++[e])).aF.l o'.aF.l/\(eF (l++[e])).aF.l.map T.kd=o'.aF.l.map T.kd/\(eF (l++[e])).aF.l.map fV=o'.aF.l.map fV:=by
 have e1:(eF (l++[e])).aF.l=l.map eG++[eG e]:=by simp[OV.aF,Rw.bn,V.bn]
 refine⟨_,q,hi,rfl,rfl,?_,?_,?_⟩
 ·rw[e1]
  exact zM (dS _) ⟨agm hz qj,trivial⟩
 ·rw[e1]; show _=List.map T.kd (l.map eG++[.agg [.int e.value,.own j]])
  rw[List.map_append,List.map_append]; rfl
 ·rw[e1]; show _=List.map fV (l.map eG++[.agg [.int e.value,.own j]])
  rw[List.map_append,List.map_append]; rfl
def fJ(c:List Int):Nat->List (List Int)
 |0=>[c]
 |x+1=>if c.getD x 0<2 then fJ c x else fJ c x++(fJ c x).flatMap fun d=>[d.set x 3,d.set x 4]
def E9(c:List Int)(x i:Nat):List (List Int):=fJ c x++((fJ c x).take i).flatMap fun d=>[d.set x 3,d.set x 4]
def zS(c:List Int)(x i b:Nat):List (List Int):=E9 c x i++((List.range b).map fun(k:Nat)=>((fJ c x).getD i []).set x (3+(k:Int)))
def jO(a:Elem)(l:List (List Int)):List Elem:=l.map fun d=>(⟨a.value,d⟩:Elem)
theorem VJ{c:List Int}{x i:Nat}(hi:i<(fJ c x).length):E9 c x (i+1)=zS c x i 2:=by
 unfold E9 zS E9
 have ht:(fJ c x).take (i+1)=(fJ c x).take i++[(fJ c x).getD i []]:=by rw[List.take_add_one]; simp[hi]
 rw[ht,List.flatMap_append,<- List.append_assoc]; rfl
theorem X6{c:List Int}{x:Nat}(h: ¬ c.getD x 0<2):E9 c x (fJ c x).length=fJ c (x+1):=by
 unfold E9; rw[List.take_length,fJ,if_neg h]
theorem VK{c:List Int}{x i b:Nat}:zS c x i (b+1)=zS c x i b++[((fJ c x).getD i []).set x (3+(b:Int))]:=by
 unfold zS
 rw[List.range_succ,List.map_append,<- List.append_assoc]; rfl
theorem Pj{c:List Int}: ∀ {x:Nat},(fJ c x).length<=3^x:=by
 intro x
 induction x with
 |zero=>exact Nat.le_refl _
 |succ x ih =>
  rw[fJ]
  split
  ·rw[Nat.pow_succ]; omega
  ·have:=DI (l:=fJ c x) (f:=fun d=>[d.set x 3,d.set x 4]) (k:=2) (fun _ _=>Nat.le_refl _)
   rw[List.length_append,Nat.pow_succ]; omega
theorem Pm{c:List Int}: ∀ {x:Nat} {d:List Int},x<=c.length->(d∈fJ c x↔d.length=c.length/\ ∀ j,j<c.length->d.getD j 0=c.getD j 0\/(j<x/\2<=c.getD j 0/\(d.getD j 0=3\/d.getD j 0=4))):=by
 intro x
 induction x with
 |zero =>
  intro d _
  simp only[fJ,List.mem_singleton]
  constructor
  ·rintro rfl; exact⟨rfl,fun j _=>.inl rfl⟩
  ·rintro⟨h1,h2⟩
   refine List.ext_getElem h1 fun j g1 g2=>?_
   have:=h2 j g2
   rcases this with h|⟨h,_⟩
   ·rw[List.getD_eq_getElem?_getD,List.getD_eq_getElem?_getD,List.getElem?_eq_getElem g1,List.getElem?_eq_getElem g2] at h; exact h
   ·omega
 |succ x ih =>
  intro d hx
  have ih:=fun {d}=>@ih d (by omega)
  rw[fJ]
  split
  ·rename_i h2
   rw[ih]
   constructor
   ·rintro⟨g1,g2⟩
    exact⟨g1,fun j hj=>(g2 j hj).imp id fun⟨a,b⟩=>⟨by omega,b⟩⟩
   ·rintro⟨g1,g2⟩
    refine⟨g1,fun j hj=>(g2 j hj).imp id fun⟨a,b,c'⟩=>⟨?_,b,c'⟩⟩
    by_cases e:j=x
    ·subst e; omega
    ·omega
  ·rename_i h2
   rw[List.mem_append,List.mem_flatMap]
   have hset: ∀ {d:List Int} {k:Int},d.length=c.length-> ∀ j,(d.set x k).getD j 0=if j=x then k else d.getD j 0:=fun hd j=>Dz (by omega)
   constructor
   ·rintro(h|⟨e,he,h⟩)
    ·obtain⟨g1,g2⟩:=ih.1 h
     exact⟨g1,fun j hj=>(g2 j hj).imp id fun⟨a,b⟩=>⟨by omega,b⟩⟩
    ·obtain⟨g1,g2⟩:=ih.1 he
     have h34: ∃ k:Int,(k=3\/k=4)/\d=e.set x k:=by
      simp only[List.mem_cons,List.not_mem_nil,or_false] at h
      rcases h with rfl|rfl
      ·exact⟨3,.inl rfl,rfl⟩
      ·exact⟨4,.inr rfl,rfl⟩
     obtain⟨k,hk,rfl⟩:=h34
     refine⟨by rw[List.length_set]; exact g1,fun j hj=>?_⟩
     rw[hset g1]
     by_cases ej:j=x
     ·subst ej; rw[if_pos rfl]; exact .inr ⟨by omega,by omega,hk⟩
     ·rw[if_neg ej]; exact(g2 j hj).imp id fun⟨a,b⟩=>⟨by omega,b⟩
   ·rintro⟨g1,g2⟩
    rcases g2 x (by omega) with hxx|⟨_,hx2,hxx⟩
    ·refine .inl (ih.2 ⟨g1,fun j hj=>?_⟩)
     by_cases ej:j=x
     ·subst ej; exact .inl hxx
     ·exact(g2 j hj).imp id fun⟨a,b⟩=>⟨by omega,b⟩
    ·refine .inr ⟨d.set x (c.getD x 0),ih.2 ⟨by rw[List.length_set]; exact g1,fun j hj=>?_⟩,?_⟩
     ·rw[hset g1]
      by_cases ej:j=x
      ·subst ej; rw[if_pos rfl]; exact .inl rfl
      ·rw[if_neg ej]; exact(g2 j hj).imp id fun⟨a,b⟩=>⟨by omega,b⟩
     ·have hd: ∀ k:Int,d.getD x 0=k->d=(d.set x (c.getD x 0)).set x k:=fun k hk=>by
       rw[List.set_set]
       refine List.ext_getElem (by rw[List.length_set]) fun j q1 q2=>?_
       rw[List.getElem_set]
       split
       ·rename_i e; subst e
        rw[<- hk,List.getD_eq_getElem?_getD,List.getElem?_eq_getElem q1]; rfl
       ·rfl
      simp only[List.mem_cons,List.not_mem_nil,or_false]
      rcases hxx with h|h
      ·exact .inl (hd 3 h)
      ·exact .inr (hd 4 h)
theorem Pn{c d:List Int}{x:Nat}(hx:x<=c.length)(h:d∈fJ c x):d.length=c.length:=((Pm hx).1 h).1
theorem aaZ{a:Elem}{x i b:Nat}(hi:i<(fJ a.counts x).length):(jO a (zS a.counts x i b)).getD i default=⟨a.value,(fJ a.counts x).getD i []⟩:=by
 unfold jO zS E9
 rw[List.append_assoc,List.map_append,List.getD_eq_getElem?_getD,List.getElem?_append_left (by rw[List.length_map]; exact hi),List.getElem?_map,List.getElem?_eq_getElem hi]
 simp[hi]
set_option maxHeartbeats 1000000 in
theorem S.rJ(a:Elem)(hl:a.counts.length<=6):aj Tryz.prog 86 [.dat (.elem a)] (.row 3 false (.elems (jO a (fJ a.counts a.counts.length)))):=by
 refine aj.of Bd.rJ (by simp) rfl rfl ?_
 conv=>whnf
 refine ah.pure (S.oJ a (by omega)) rfl ?_
 conv=>whnf
 refine aI.nZ 7 [1] (fun i:Nat=>[(4,.int i),(3,.own 4)]) (fun i=>[(0,.box 54 3 (.dat (.elem a))),(4,eF (jO a (fJ a.counts i)))]) (fun i=>i<=a.counts.length) (fun i=>a.counts.length-i) 0 [0,4] rfl (by decide) (fun _=>rfl) (Nat.zero_le _) ?_ ?_ ?_
 ·exact⟨⟨_,rfl,.eq rfl⟩,⟨_,rfl,.eq rfl⟩,trivial⟩
 ·exact⟨okF rfl nofun rfl rfl rfl ⟨rfl,rfl⟩ rfl,okF rfl nofun rfl rfl rfl ⟨rfl,rfl⟩ rfl,trivial⟩
 conv=>whnf
 refine⟨⟨⟨_,rfl,.eq rfl⟩,trivial⟩,rfl,?_⟩
 rintro x hx
 have hcap:=@Pj a.counts x
 have h3x:3^x<=3^6:=Nat.pow_le_pow_right (by decide) (by omega)
 have h36:3^6=729:=by decide
 conv=>whnf
 refine⟨fun h1=>?_,fun h1=>?_⟩
 ·have hx':x<a.counts.length:=by simpa using h1
  conv=>whnf
  refine .mk (by simp only[Rw.rng]; omega) ?_
  conv=>whnf
  refine⟨fun h2=>?_,fun h2=>?_⟩
  ·have h2':a.counts.getD x 0<2:=of_decide_eq_true h2
   conv=>whnf
   refine .mk (by simp only[okI] at *; first|omega|(simp_all; done)|(simp_all; omega)) ?_
   conv=>whnf
   refine⟨x+1,[0,4],by omega,by omega,⟨⟨_,rfl,.eq rfl⟩,⟨_,rfl,.eq rfl⟩,trivial⟩,⟨⟨_,rfl,.eq rfl⟩,trivial⟩,okF rfl nofun rfl rfl rfl ⟨rfl,rfl⟩ rfl,okF rfl nofun rfl rfl rfl ⟨rfl,rfl⟩ (by rw[fJ,if_pos h2']),trivial⟩
  have h2': ¬ a.counts.getD x 0<2:=of_decide_eq_false h2
  conv=>whnf
  refine aI.nZ 7 [1,4,5] (fun i:Nat=>[(6,.int i),(3,.own 4)]) (fun i=>[(0,.box 54 3 (.dat (.elem a))),(4,eF (jO a (E9 a.counts x i)))]) (fun i=>i<=(fJ a.counts x).length) (fun i=>(fJ a.counts x).length-i) 0 [0,4] rfl (by decide) (fun _=>rfl) (Nat.zero_le _) ?_ ?_ ?_
  ·exact⟨⟨_,rfl,.eq rfl⟩,⟨_,rfl,.eq rfl⟩,trivial⟩
  ·exact⟨okF rfl nofun rfl rfl rfl ⟨rfl,rfl⟩ rfl,okF rfl nofun rfl rfl rfl ⟨rfl,rfl⟩ (by simp[E9]),trivial⟩
  conv=>whnf
  refine⟨⟨⟨_,rfl,.eq rfl⟩,⟨_,rfl,.eq rfl⟩,⟨_,rfl,.eq rfl⟩,trivial⟩,rfl,?_⟩
  rintro i hi
  have hA:(E9 a.counts x i).length<=729*3:=by
   unfold E9
   have:=DI (l:=(fJ a.counts x).take i) (f:=fun d=>[d.set x 3,d.set x 4]) (k:=2) (fun _ _=>Nat.le_refl _)
   rw[List.length_take] at this
   rw[List.length_append]; omega
  conv=>whnf
  refine⟨fun h3=>?_,fun h3=>?_⟩
  ·have hi':i<(fJ a.counts x).length:=by
    have hml:(jO a (fJ a.counts x)).length=(fJ a.counts x).length:=by simp[jO]
    have:(i:Int)<((jO a (fJ a.counts x)).length:Int):=of_decide_eq_true h3
    omega
   have hdl:((fJ a.counts x).getD i []).length=a.counts.length:=Pn hx (iY hi')
   conv=>whnf
   refine aI.Uh 7 [1,4,5,6] (fun b:Nat=>[(7,.int (3+(b:Int))),(3,.own 4)]) (fun b=>[(0,.box 54 3 (.dat (.elem a))),(4,eF (jO a (zS a.counts x i b)))]) (fun b=>b<=2) (fun b=>2-b) 0 [0,4] [(0,some (.box 54 3 (.dat (.elem a)))),(4,some (eF (jO a (E9 a.counts x i))))] rfl (by decide) (fun _=>rfl) (Nat.zero_le _) ?_ ?_ ?_ ?_
   ·exact⟨⟨_,rfl,.eq rfl⟩,⟨_,rfl,.eq rfl⟩,trivial⟩
   ·exact⟨fun _=>False,mF (Z:=fun _=>False) rfl (fun q=>q),mF (Z:=fun _=>False) rfl (fun q=>q),trivial⟩
   ·exact⟨okF rfl nofun rfl rfl rfl ⟨rfl,rfl⟩ rfl,okF rfl nofun rfl rfl rfl ⟨rfl,rfl⟩ (by simp[zS]),trivial⟩
   conv=>whnf
   refine⟨⟨⟨_,rfl,.eq rfl⟩,⟨_,rfl,.eq rfl⟩,⟨_,rfl,.eq rfl⟩,⟨_,rfl,.eq rfl⟩,trivial⟩,rfl,?_⟩
   rintro b hb
   have hB:(jO a (zS a.counts x i b)).length<=729*3+2:=by
    unfold jO zS; rw[List.length_map,List.length_append,List.length_map,List.length_range]; omega
   have hiB:i<(jO a (zS a.counts x i b)).length:=by
    unfold jO zS E9; rw[List.length_map,List.length_append,List.length_append]; omega
   have hget:=aaZ (a:=a) (b:=b) hi'
   conv=>whnf
   refine⟨fun h4=>?_,fun h4=>?_⟩
   ·have hb':b<2:=by have:=of_decide_eq_true h4; omega
    conv=>whnf
    repeat(refine VC.mk (by simp only[Rw.rng,Int.toNat_natCast]; omega) ?_; conv=>whnf)
    rw[show(jO a (zS a.counts x i b)).getD (i:Int).toNat default=⟨a.value,(fJ a.counts x).getD i []⟩ from hget]
    refine ah.heap (qY.frame (S.AA ⟨a.value,(fJ a.counts x).getD i []⟩ (by show((fJ a.counts x).getD i []).length<_; omega)) _ _) ?_
    rintro t hp' ⟨rfl,rfl⟩
    refine⟨.agg [.int a.value,.own 13],(13,some (vZ ((fJ a.counts x).getD i [])))::_,rfl,GY,?_⟩
    conv=>whnf
    repeat(refine VC.mk (by first|(first|(simp only[Rw.rng,Int.toNat_natCast]; omega)|(show((jO a (zS a.counts x i b)).length+(0+1))*32<=140737488355328/\(jO a (zS a.counts x i b)).length+(0+1)<=1152921504606846976; omega))|(simp only[okI] at *; first|omega|(simp_all; done)|(simp_all; omega))) ?_; conv=>whnf)
    refine⟨[(0,some (.box 54 3 (.dat (.elem a)))),(25,some (eF (jO a (zS a.counts x i b)++[⟨a.value,((fJ a.counts x).getD i []).set x (3+(b:Int))⟩])))],b+1,[0,25],⟨fun i=>i=13,mF (Z:=fun i=>i=13) (i:=0) rfl (by decide),X5 (Z:=fun i=>i=13) (i:=25) (j:=13) (e:=⟨a.value,((fJ a.counts x).getD i []).set x (3+(b:Int))⟩) rfl (by decide) rfl rfl,trivial⟩,by omega,by omega,⟨⟨_,rfl,.eq ?_⟩,⟨_,rfl,.eq rfl⟩,trivial⟩,⟨⟨_,rfl,.eq rfl⟩,⟨_,rfl,.eq rfl⟩,⟨_,rfl,.eq rfl⟩,⟨_,rfl,.eq rfl⟩,trivial⟩,okF rfl nofun rfl rfl rfl ⟨rfl,rfl⟩ rfl,okF rfl nofun rfl rfl rfl ⟨rfl,rfl⟩ ?_,trivial⟩
    ·show T.int (3+((b+1:Nat):Int))=T.int (3+(b:Int)+1)
     have:(3+((b+1:Nat):Int))=3+(b:Int)+1:=by omega
     rw[this]
    ·rw[VK]; unfold jO; rw[List.map_append]; rfl
   ·have hb':b=2:=by have:=of_decide_eq_false h4; omega
    subst hb'
    rw[<- VJ hi']
    conv=>whnf
    refine .mk (by simp only[okI] at *; first|omega|(simp_all; done)|(simp_all; omega)) ?_
    conv=>whnf
    refine⟨i+1,[0,4],by omega,by omega,⟨⟨_,rfl,.eq rfl⟩,⟨_,rfl,.eq rfl⟩,trivial⟩,⟨⟨_,rfl,.eq rfl⟩,⟨_,rfl,.eq rfl⟩,⟨_,rfl,.eq rfl⟩,trivial⟩,okF rfl nofun rfl rfl rfl ⟨rfl,rfl⟩ rfl,okF rfl nofun rfl rfl rfl ⟨rfl,rfl⟩ rfl,trivial⟩
  ·have hi':i=(fJ a.counts x).length:=by
    have hml:(jO a (fJ a.counts x)).length=(fJ a.counts x).length:=by simp[jO]
    have: ¬ (i:Int)<((jO a (fJ a.counts x)).length:Int):=of_decide_eq_false h3
    omega
   subst hi'
   rw[X6 h2']
   conv=>whnf
   refine .mk (by simp only[okI] at *; first|omega|(simp_all; done)|(simp_all; omega)) ?_
   conv=>whnf
   refine⟨x+1,[0,4],by omega,by omega,⟨⟨_,rfl,.eq rfl⟩,⟨_,rfl,.eq rfl⟩,trivial⟩,⟨⟨_,rfl,.eq rfl⟩,trivial⟩,okF rfl nofun rfl rfl rfl ⟨rfl,rfl⟩ rfl,okF rfl nofun rfl rfl rfl ⟨rfl,rfl⟩ rfl,trivial⟩
 ·have hx':x=a.counts.length:=by
   have: ¬ x<a.counts.length:=by simpa using h1
   omega
  subst hx'
  conv=>whnf
  exact ak.VD rfl
theorem KY{c d:List Int}(hc:F7 c)(h2:c.all le2=true):d∈fJ c c.length↔d∈qI (iP c) c.length:=by
 rw[Pm (Nat.le_refl _),DN hc]
 have hle: ∀ j,j<c.length->c.getD j 0<=2:=fun j hj=>by
  have:=List.all_eq_true.1 h2 (c.getD j 0) (iY hj)
  simpa [le2] using this
 refine and_congr_right fun _=>forall_congr' fun j=>forall_congr' fun hj=>?_
 have:=hle j hj
 constructor
 ·intro h
  unfold Cj
  cases hb:(c.getD j 0==2) with
  |true =>
   have:c.getD j 0=2:=by simpa using hb
   simp only[cond_true,List.mem_cons,List.not_mem_nil,or_false]; omega
  |false =>
   have:c.getD j 0≠2:=by simpa using hb
   simp only[cond_false,List.mem_singleton]; omega
 ·intro h
  rcases DR h with h|⟨h,g⟩
  ·exact .inl h
  ·exact .inr ⟨hj,by omega,g⟩
theorem ads: ∀ {c d:List Int},d.length=c.length->(∀ j,j<c.length->c.getD j 0<=d.getD j 0)->c.sum<=d.sum:=by
 intro c
 induction c with
 |nil=>intro d h _; rw[List.eq_nil_of_length_eq_zero h]; exact Int.le_refl _
 |cons x c ih =>
  intro d h hj
  cases d with
  |nil=>cases h
  |cons y d =>
   have h0:=hj 0 (by simp)
   have h1:=ih (d:=d) (by simpa using h) (fun j q=>by have:=hj (j+1) (by simpa using q); simpa using this)
   simp only[List.getD_cons_zero] at h0
   simp only[List.sum_cons]; omega
theorem AP{d:List Int}(h:F7 d):d.all Ic=true:=List.all_eq_true.2 fun x hx=>aa0.2 (h x hx)
theorem X7{a:Elem}(hc:F7 a.counts)(hl:a.counts.length<=6)(h0:0<zD a){e:Elem}:e∈mD a.value (iP a.counts)↔e.value=a.value/\e.counts∈qI (iP a.counts) a.counts.length:=by
 constructor
 ·intro h
  obtain⟨h1,h2,h3,_⟩:=AL h
  rw[kH] at h3
  exact⟨h1,h3⟩
 ·rintro⟨h1,h2⟩
  obtain⟨v,d⟩:=e
  simp only at h1 h2
  subst h1
  unfold mD DJ
  rw[List.mem_filter,kH]
  refine⟨List.mem_map.2 ⟨d,h2,rfl⟩,decide_eq_true ?_⟩
  obtain⟨g1,g2⟩:=(DN hc).1 h2
  rw[DF (by show d.length<=6; omega) (AP (MX hc h2))]
  rw[DF hl (AP hc)] at h0
  have:=ads g1 fun j hj=>by
   have:=DR (g2 j hj); omega
  show 0<d.sum
  omega
theorem Po{a e:Elem}{L:List (List Int)}:e∈jO a L↔e.value=a.value/\e.counts∈L:=by
 unfold jO
 rw[List.mem_map]
 constructor
 ·rintro⟨d,hd,rfl⟩; exact⟨rfl,hd⟩
 ·rintro⟨h1,h2⟩; exact⟨e.counts,h2,by rw[<- h1]⟩
structure Ip(a:Elem):Prop where
 ok:F7 a.counts
 two:a.counts.all le2=true
 len:a.counts.length<=6
 tot:0<zD a
theorem Ip.cho{a:Elem}(h:Ip a){e:Elem}:e∈mD a.value (iP a.counts)↔e∈jO a (fJ a.counts a.counts.length):=by
 rw[X7 h.ok h.len h.tot,Po,KY h.ok h.two]
theorem Ip.pos{a:Elem}(h:Ip a):0<a.counts.length:=by
 have:=h.tot
 rcases Nat.eq_zero_or_pos a.counts.length with h0|h0
 ·rw[DF h.len (AP h.ok),List.eq_nil_of_length_eq_zero h0] at this; simp at this
 ·exact h0
def acR(r:Rule)(a:Elem):List Elem:=(lG r (jO a (fJ a.counts a.counts.length))).foldl nC []
theorem X8{r:Rule}{a:Elem}(h:Ip a):acR r a=mV r a:=by
 obtain⟨s1,s2⟩:=RI (lG r (jO a (fJ a.counts a.counts.length))) [] (by simp[SS])
 refine E8 s1 (xH _) fun x=>?_
 unfold acR at *
 rw[s2,mV,rH]
 simp only[List.not_mem_nil,false_or]
 unfold lG
 rw[List.mem_filterMap,List.mem_filterMap]
 exact exists_congr fun e=>and_congr_left fun _=>h.cho.symm
theorem VL{l:List Elem}{r:Rule}{j:Nat}(hj:j<l.length):(lG r (l.take (j+1))).foldl nC []=match BG r (l.getD j default) with|some x=>nC ((lG r (l.take j)).foldl nC []) x|none=>(lG r (l.take j)).foldl nC []:=by
 rw[Il hj,List.foldl_append]
 cases BG r (l.getD j default)<;>rfl
theorem X9{a:Elem}(hl:a.counts.length<=6):(jO a (fJ a.counts a.counts.length)).length<=729:=by
 have h:=@Pj a.counts a.counts.length
 have h3x:3^a.counts.length<=3^6:=Nat.pow_le_pow_right (by decide) hl
 have h36:3^6=729:=by decide
 unfold jO; rw[List.length_map]; omega
theorem Uk{a e:Elem}(h:Ip a)(he:e∈jO a (fJ a.counts a.counts.length)):e.counts.length=a.counts.length/\F7 e.counts:=by
 have h2:=(Po.1 he).2
 exact⟨Pn (Nat.le_refl _) h2,MX h.ok ((KY h.ok h.two).1 h2)⟩
set_option maxHeartbeats 1000000 in
theorem S.uY(p:aO)(r:Int)(a:Elem)(hp:fG p)(hr:zK a.counts.length (p.rules.getD r.toNat default))(MZ:0<=r/\r<p.rules.length)(h:Ip a):aj Tryz.prog 54 [.dat (.kS p),.int r,.dat (.elem a)] (.row 3 false (.elems (mV (p.rules.getD r.toNat default) a))):=by
 rw[<- X8 h]
 have hml:=X9 h.len
 have hlen:=h.len
 have hsr:=hp.rule r.toNat
 refine aj.of Bd.uY (by simp) rfl rfl ?_
 conv=>whnf
 refine ah.pure (S.rJ a h.len) rfl ?_
 conv=>whnf
 refine aI.nil 8 54 3 (by rfl) rfl rfl rfl ?_
 refine aI.nZ 20 [1,3,7] (fun j:Nat=>[(9,.int j),(8,.own 8)]) (fun j=>[(0,.box 27 11 (.dat (.kS p))),(8,eF ((lG (p.rules.getD r.toNat default) ((jO a (fJ a.counts a.counts.length)).take j)).foldl nC []))]) (fun j=>j<=(jO a (fJ a.counts a.counts.length)).length) (fun j=>(jO a (fJ a.counts a.counts.length)).length-j) 0 [0,8] rfl (by decide) (fun _=>rfl) (Nat.zero_le _) ?_ ?_ ?_
 ·exact⟨⟨_,rfl,.eq rfl⟩,⟨_,rfl,.eq rfl⟩,trivial⟩
 ·exact⟨okF rfl nofun rfl rfl rfl ⟨rfl,rfl⟩ rfl,okF rfl nofun rfl rfl rfl ⟨rfl,rfl⟩ rfl,trivial⟩
 conv=>whnf
 refine⟨⟨⟨_,rfl,.eq rfl⟩,⟨_,rfl,.eq rfl⟩,⟨_,rfl,.eq rfl⟩,trivial⟩,rfl,?_⟩
 rintro j hj
 have hfl:((lG (p.rules.getD r.toNat default) ((jO a (fJ a.counts a.counts.length)).take j)).foldl nC []).length<=729:=by
  have h1:=Ya (lG (p.rules.getD r.toNat default) ((jO a (fJ a.counts a.counts.length)).take j)) []
  have h2:=AO (r:=p.rules.getD r.toNat default) (l:=(jO a (fJ a.counts a.counts.length)).take j)
  rw[List.length_take] at h2
  rw[List.length_nil,Nat.zero_add] at h1; omega
 have hsm:gq ((lG (p.rules.getD r.toNat default) ((jO a (fJ a.counts a.counts.length)).take j)).foldl nC []):=fun x hx=>by
  rcases Yb _ _ _ hx with hx|hx
  ·cases hx
  ·rw[zN (n:=a.counts.length) (fun e he=>(Uk h (List.mem_of_mem_take he)).1) hx]; omega
 conv=>whnf
 refine⟨fun h2=>?_,fun h2=>?_⟩
 ·have hj':j<(jO a (fJ a.counts a.counts.length)).length:=by simpa using h2
  have hstep:=VL (r:=p.rules.getD r.toNat default) hj'
  have hmem:(jO a (fJ a.counts a.counts.length)).getD j default∈jO a (fJ a.counts a.counts.length):=iY hj'
  obtain⟨g1,g2⟩:=Uk h hmem
  conv=>whnf
  repeat(refine VC.mk (by simp only[Rw.rng]; omega) ?_; conv=>whnf)
  refine Ii.pure (aj.KT (S.uZ (p.rules.getD r.toNat default) ((jO a (fJ a.counts a.counts.length)).getD j default) hsr (by rw[g1]; exact hr) g2 (by omega))) rfl ?_
  conv=>whnf
  refine⟨fun h3=>?_,fun h3=>?_⟩
  ·obtain⟨x,hx⟩:=Option.isSome_iff_exists.1 h3
   replace hx:gG (p.rules.getD r.toNat default) ((jO a (fJ a.counts a.counts.length)).getD j default)=some x:=hx
   have hxl:=xG hx
   rw[BG,hx] at hstep
   rw[show gG (p.rules.getD r.toNat default) ((jO a (fJ a.counts a.counts.length)).getD (j:Int).toNat default)=some x from hx]
   conv=>whnf
   refine ah.pure (S.o9 x (by rw[hxl]; omega)) rfl ?_
   conv=>whnf
   refine ah.insert rfl rfl (by omega) hsm (by show(qh x.counts).length<_; rw[qh,List.length_map,hxl]; omega) (fun hf=>?_) (fun hf=>?_)
   ·have hins:nC ((lG (p.rules.getD r.toNat default) ((jO a (fJ a.counts a.counts.length)).take j)).foldl nC []) (Rt x)=(lG (p.rules.getD r.toNat default) ((jO a (fJ a.counts a.counts.length)).take j)).foldl nC []:=by rw[nC,if_pos hf]
    conv=>whnf
    refine .mk (by simp only[okI] at *; first|omega|(simp_all; done)|(simp_all; omega)) ?_
    conv=>whnf
    refine⟨j+1,[0,8],by omega,by omega,⟨⟨_,rfl,.eq rfl⟩,⟨_,rfl,.eq rfl⟩,trivial⟩,⟨⟨_,rfl,.eq rfl⟩,⟨_,rfl,.eq rfl⟩,⟨_,rfl,.eq rfl⟩,trivial⟩,okF rfl nofun rfl rfl rfl ⟨rfl,rfl⟩ rfl,okF rfl nofun rfl rfl rfl ⟨rfl,rfl⟩ (by rw[hstep]; simp only[Option.map_some]; rw[hins]),trivial⟩
   ·conv=>whnf
    refine .mk (by simp only[okI] at *; first|omega|(simp_all; done)|(simp_all; omega)) ?_
    conv=>whnf
    refine⟨j+1,[0,44],by omega,by omega,⟨⟨_,rfl,.eq rfl⟩,⟨_,rfl,.eq rfl⟩,trivial⟩,⟨⟨_,rfl,.eq rfl⟩,⟨_,rfl,.eq rfl⟩,⟨_,rfl,.eq rfl⟩,trivial⟩,okF rfl nofun rfl rfl rfl ⟨rfl,rfl⟩ rfl,okF rfl nofun rfl rfl rfl ⟨rfl,rfl⟩ (by rw[hstep]; rfl),trivial⟩
  ·replace h3:(gG (p.rules.getD r.toNat default) ((jO a (fJ a.counts a.counts.length)).getD j default)).isSome=false:=h3
   rw[Option.isSome_eq_false_iff,Option.isNone_iff_eq_none] at h3
   rw[BG,h3] at hstep
   conv=>whnf
   refine .mk (by simp only[okI] at *; first|omega|(simp_all; done)|(simp_all; omega)) ?_
   conv=>whnf
   refine⟨j+1,[0,8],by omega,by omega,⟨⟨_,rfl,.eq rfl⟩,⟨_,rfl,.eq rfl⟩,trivial⟩,⟨⟨_,rfl,.eq rfl⟩,⟨_,rfl,.eq rfl⟩,⟨_,rfl,.eq rfl⟩,trivial⟩,okF rfl nofun rfl rfl rfl ⟨rfl,rfl⟩ rfl,okF rfl nofun rfl rfl rfl ⟨rfl,rfl⟩ (by rw[hstep]; rfl),trivial⟩
 ·have hj':(jO a (fJ a.counts a.counts.length)).length<=j:=by simpa using h2
  rw[List.take_of_length_le hj']
  conv=>whnf
  exact ak.VD rfl
end Go.Proofs.YtajmbgljnaljiaaGreatDoor
