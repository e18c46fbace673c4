/-
 fair: a step with a rule. No condition.
-/
import Derived.Test.YtajmbgljnaljiaaGreatDoorAa
import Derived.Test.YtajmbgljnaljiaaGreatDoorLg
import Derived.Test.YtajmbgljnaljiaaGreatDoorKa
import Derived.Test.YtajmbgljnaljiaaGreatDoorFa
namespace Go.Proofs.YtajmbgljnaljiaaGreatDoor
open Go.Ab Go.Proofs
set_option maxRecDepth 100000
theorem S.UE(l:List Int)(f:Bool)(h0:0<l.length)(hl:l.length<2^30)(n:Nat):aV Tryz.prog 92 (V.aS [.row 0 f (.ints l)]) (Hz.au []) n (fun t hp=>t= .own n/\hp=Hz.au [(n,some (nN l))]):=by
 refine pO.of (nx:=0) Bd.jY (by simp) ⟨_,_,rfl,rfl⟩ rfl rfl ?_
 conv=>whnf
 refine ZV.mk (fun hz=>absurd hz (by show ¬ l.length=0; omega)) ?_
 conv=>whnf
 refine Fork.mk (fun q=>absurd (q.symm.trans ((rfl:false=false))).symm Bool.false_ne_true) (fun _=>?_)
 conv=>whnf
 refine .mk (by simp only[nG,nY,Rw.len]; omega) ?_
 conv=>whnf
 repeat(refine VC.mk (by simp only[nG,nY,Rw.len]; omega) ?_; conv=>whnf)
 exact nP.one (c:=n) (o:=nN l) (t:=.own n) rfl rfl rfl nofun (.inr rfl) rfl (.eq rfl) ⟨rfl,rfl⟩
theorem S.UF(l:List Int)(f:Bool)(h0:0<l.length)(hl:l.length<2^30):wC Tryz.prog 92 [.sl 0 f (l.map T.int)] (fun n=>.own n) (some ⟨3,0,l.map T.int⟩):=by
 refine⟨rfl,fun n=>rfl,fun ob h=>?_,fun ob h=>?_,fun n=>?_⟩
 ·cases h
  show T.dJ (l.map T.int)=true
  rw[dR]; intro t ht; obtain⟨x,_,rfl⟩:=List.mem_map.1 ht; rfl
 ·cases h; exact show(0:Nat)≠fU by decide
 ·have:=S.UE l f h0 hl n
  have e1:Hz.au [(n,some (nN l))]=gZ no n (some ⟨3,0,l.map T.int⟩):=by
   rw[bG]; simp[gZ,OV.ay,Rw.aS,V.aS]; rfl
  rw[e1] at this
  exact this
theorem acB{c:List Int}(hc: ∀ i,0<=c.getD i 0)(i:Nat):decide (0<c.getD i 0)= !(c.getD i 0==0):=by
 rw[Bool.eq_iff_iff]; simp only[decide_eq_true_eq,Bool.not_eq_true',beq_eq_false_iff_ne,ne_eq]
 have:=hc i; omega
theorem S.uw(r:Rule)(c:List Int)(f:Bool)(hr:yw r)(hc:c.length<2^40)(hpos: ∀ i,0<=c.getD i 0):aj Tryz.prog 93 [.dat (.rule r),.row 0 f (.ints c)] (.bool (rH r c)):=by
 have g1:=hr.ex; have g2:=hr.all
 refine aj.of Bd.uw (by simp) rfl rfl ?_
 conv=>whnf
 refine aB.same [2,12,13] (fun i:Nat=>[(14,.int i),(5,.bool (wH r.ex c i))]) (fun i=>i<=c.length/\zW r.all c i=false) (fun i=>c.length-i) 0 rfl (by decide) rfl (fun _=>rfl) ⟨by omega,rfl⟩ ⟨⟨_,rfl,rfl⟩,⟨_,rfl,?_⟩,trivial⟩ ?_
 ·show(V.bool (wH r.ex c 0)).aI=(V.bool ((r.ex.length:Int)==0)).aI
  rw[wH]; simp
 conv=>whnf
 refine⟨rfl,?_⟩
 rintro i ⟨hi,hall⟩
 conv=>whnf
 refine⟨fun h3=>?_,fun h3=>?_⟩
 ·have hi':i<c.length:=by simpa using h3
  have hp:=acB hpos i
  conv=>whnf
  repeat(refine VC.mk (by first|exact id|exact fun h=>⟨h,h⟩|(simp only[Rw.rng] at *; first|omega|(simp_all; done)|(simp_all; omega))) ?_; conv=>whnf)
  refine ah.dM (fun _=>S.slices_Contains_int r.ex i false (by omega)) rfl ?_
  conv=>whnf
  refine VC.mk id ?_
  conv=>whnf
  refine⟨fun h4=>?_,fun h4=>?_⟩
  ·replace h4:(decide (0<c.getD i 0)&&Ef r.ex i)=true:=h4
   rw[hp] at h4
   conv=>whnf
   repeat(refine VC.mk (by first|exact id|exact fun h=>⟨h,h⟩) ?_; conv=>whnf)
   refine ah.dM (fun _=>S.slices_Contains_int r.all i false (by omega)) rfl ?_
   conv=>whnf
   repeat(refine VC.mk id ?_; conv=>whnf)
   refine⟨fun h5=>?_,fun h5=>?_⟩
   ·replace h5:(decide (0<c.getD i 0)&&decide (0<(r.all.length:Int))&& !(Ef r.all i))=true:=h5
    rw[hp,Bool.and_assoc,Bool.and_eq_true] at h5
    conv=>whnf
    exact ak.bool (by rw[rH,Qw hi' (by simpa using h5.1) h5.2]; rfl)
   ·replace h5:(decide (0<c.getD i 0)&&decide (0<(r.all.length:Int))&& !(Ef r.all i))=false:=h5
    rw[hp,Bool.and_assoc] at h5
    conv=>whnf
    refine .mk (by simp only[okI] at *; first|omega|(simp_all; done)|(simp_all; omega)) ?_
    conv=>whnf
    refine⟨i+1,⟨by omega,by rw[JA,hall]; exact h5⟩,by omega,⟨⟨_,rfl,rfl⟩,⟨_,rfl,?_⟩,trivial⟩,?_,rfl⟩
    ·rw[JB,h4]; simp[V.aI,rJ]
    ·repeat' (first|exact trivial|exact⟨_,rfl,rfl⟩|constructor)
  ·replace h4:(decide (0<c.getD i 0)&&Ef r.ex i)=false:=h4
   rw[hp] at h4
   conv=>whnf
   repeat(refine VC.mk (by first|exact id|exact fun h=>⟨h,h⟩) ?_; conv=>whnf)
   refine ah.dM (fun _=>S.slices_Contains_int r.all i false (by omega)) rfl ?_
   conv=>whnf
   repeat(refine VC.mk id ?_; conv=>whnf)
   refine⟨fun h5=>?_,fun h5=>?_⟩
   ·replace h5:(decide (0<c.getD i 0)&&decide (0<(r.all.length:Int))&& !(Ef r.all i))=true:=h5
    rw[hp,Bool.and_assoc,Bool.and_eq_true] at h5
    conv=>whnf
    exact ak.bool (by rw[rH,Qw hi' (by simpa using h5.1) h5.2]; rfl)
   ·replace h5:(decide (0<c.getD i 0)&&decide (0<(r.all.length:Int))&& !(Ef r.all i))=false:=h5
    rw[hp,Bool.and_assoc] at h5
    conv=>whnf
    refine .mk (by simp only[okI] at *; first|omega|(simp_all; done)|(simp_all; omega)) ?_
    conv=>whnf
    refine⟨i+1,⟨by omega,by rw[JA,hall]; exact h5⟩,by omega,⟨⟨_,rfl,rfl⟩,⟨_,rfl,?_⟩,trivial⟩,?_,rfl⟩
    ·rw[JB,h4]; simp[V.aI]
    ·repeat' (first|exact trivial|exact⟨_,rfl,rfl⟩|constructor)
 ·have hi':c.length<=i:=by simpa using h3
  have e:i=c.length:=Nat.le_antisymm hi hi'
  subst e
  conv=>whnf
  exact ak.bool (by rw[rH,hall]; rfl)
set_option maxHeartbeats 1000000 in
theorem S.vM(r:Rule)(e:Elem)(hr:yw r)(hp:sW e.counts.length r)(hc:EZ e.counts)(hl:e.counts.length<=6):aj Tryz.prog 58 [.dat (.rule r),.dat (.elem e)] (ig r e):=by
 obtain⟨f1,f2⟩:=hp.src
 obtain⟨d1,d2⟩:=hp.dst
 obtain⟨p1,p2⟩:=hp.Uz
 obtain⟨q1,q2⟩:=hp.UA
 have hfr:=hc.get (i:=r.fr.toNat) (by omega)
 refine aj.of Bd.vM (by simp) rfl (JC r e) ?_
 conv=>whnf
 repeat(refine VC.mk (by first|exact id|exact fun h=>⟨h,h⟩|(intro h; rw[h]; rfl)|(intro h; (repeat' apply And.intro)<;>first|exact h|omega|(simp only[Rw.nO]; omega)|(simp only[Rw.rng]; omega))) ?_; conv=>whnf)
 refine⟨fun h1=>?_,fun h1=>?_⟩
 ·have h1':(decide (0<=r.read)&&e.value !=r.read||e.counts.getD r.fr.toNat 0==0)=true:=by rw[bne_comm]; exact h1
  conv=>whnf
  refine ak.eqv ?_
  rw[ig,eP,h1']; rfl
 have h1':(decide (0<=r.read)&&e.value !=r.read||e.counts.getD r.fr.toNat 0==0)=false:=by rw[bne_comm]; exact h1
 conv=>whnf
 refine Ie.row (r:=.ints e.counts) (S.UF e.counts false (by omega) (by omega)) ?_
 have hl1:(aU e.counts r.fr).length=e.counts.length:=by simp[aU]
 conv=>whnf
 repeat(refine VC.mk (by first|(simp only[Rw.rng]; omega)|(simp only[okI,aU] at *; omega)) ?_; conv=>whnf)
 have hpos: ∀ i,0<=(aU e.counts r.fr).getD i 0:=Wq hc h1'
 have hB:=hc.b.dec (by omega) r.fr
 refine⟨fun h2=>?_,fun h2=>?_⟩
 ·replace h2:(r.kind==1)=true:=h2
  have hBt:=hB.get (by omega) r.to.toNat
  conv=>whnf
  refine ah.lend (S.uw r (aU e.counts r.fr) false hr (by omega) hpos) (And.intro (aF _) (And.intro (xQ trivial rfl) trivial)) rfl rfl ?_
  conv=>whnf
  refine⟨fun h5=>?_,fun h5=>?_⟩
  ·replace h5:(!(rH r (aU e.counts r.fr)))=true:=h5
   conv=>whnf
   refine ak.eqv ?_
   rw[ig,eP,h1',h2,h5]; rfl
  replace h5:(!(rH r (aU e.counts r.fr)))=false:=h5
  conv=>whnf
  repeat(refine VC.mk (by first|(simp only[Rw.rng,List.length_set]; omega)|(simp only[okI,aU] at *; omega)) ?_; conv=>whnf)
  refine⟨fun h4=>?_,fun h4=>?_⟩
  ·replace h4:decide (r.write>=0)=true:=h4
   have hS:ig r e= .gW [.dat (.elem ⟨r.write,gY (aU e.counts r.fr) r.to 1⟩),.bool true]:=by rw[ig,eP,h1',h2,h5,h4]; rfl
   conv=>whnf
   rw[hS]
   exact ak.xR rfl
  ·replace h4:decide (r.write>=0)=false:=h4
   have hS:ig r e= .gW [.dat (.elem ⟨e.value,gY (aU e.counts r.fr) r.to 1⟩),.bool true]:=by rw[ig,eP,h1',h2,h5,h4]; rfl
   conv=>whnf
   rw[hS]
   exact ak.xR rfl
 replace h2:(r.kind==1)=false:=h2
 conv=>whnf
 refine⟨fun h3=>?_,fun h3=>?_⟩
 ·replace h3:(r.kind==2)=true:=h3
  have hB1:=hB.get (by omega) r.fQ.toNat
  have hB2:=hB.dec (by omega) r.fQ
  have hB3:=hB2.get (by omega) r.Bj.toNat
  have hB4:=hB2.add (by omega) r.Bj 1 (k:=1) ⟨by omega,by omega⟩
  have hB5:=hB4.get (by omega) r.to.toNat
  conv=>whnf
  repeat(refine VC.mk (by first|(simp only[Rw.rng,List.length_set]; omega)|(simp only[aU,gY] at *; omega)) ?_; conv=>whnf)
  refine⟨fun h6=>?_,fun h6=>?_⟩
  ·replace h6:((aU e.counts r.fr).getD r.fQ.toNat 0==0)=true:=h6
   conv=>whnf
   refine ak.eqv ?_
   rw[ig,eP,h1',h2,h3,h6]; rfl
  replace h6:((aU e.counts r.fr).getD r.fQ.toNat 0==0)=false:=h6
  conv=>whnf
  repeat(refine VC.mk (by first|(simp only[Rw.rng,List.length_set]; omega)|(simp only[okI,aU,gY] at *; omega)) ?_; conv=>whnf)
  refine⟨fun h4=>?_,fun h4=>?_⟩
  ·replace h4:decide (r.write>=0)=true:=h4
   have hS:ig r e= .gW [.dat (.elem ⟨r.write,gY (gY (aU (aU e.counts r.fr) r.fQ) r.Bj 1) r.to 1⟩),.bool true]:=by rw[ig,eP,h1',h2,h3,h6,h4]; rfl
   conv=>whnf
   rw[hS]
   exact ak.xR rfl
  ·replace h4:decide (r.write>=0)=false:=h4
   have hS:ig r e= .gW [.dat (.elem ⟨e.value,gY (gY (aU (aU e.counts r.fr) r.fQ) r.Bj 1) r.to 1⟩),.bool true]:=by rw[ig,eP,h1',h2,h3,h6,h4]; rfl
   conv=>whnf
   rw[hS]
   exact ak.xR rfl
 replace h3:(r.kind==2)=false:=h3
 conv=>whnf
 refine⟨fun h6=>?_,fun h6=>?_⟩
 ·replace h6:(r.kind==3)=true:=h6
  obtain⟨rs1,rs2⟩:=hp.rsp (beq_iff_eq.1 h6)
  conv=>whnf
  have hm:=Bo (n:=(aU e.counts r.fr).length) (by omega)
  simp only[aU] at hm
  rw[hm]
  conv=>whnf
  refine .mk (by simp only[List.length_set]; omega) ?_
  conv=>whnf
  refine aB.nD 100 [2,4,6,83,84] (fun i:Nat=>[(85,.int i)]) (fun i=>[(0,.box 85 19 (.dat (.rule r))),(1,.box 54 3 (.dat (.elem e))),(2,.box 54 3 (.agg [.int 0,.row 0 true .nil])),(27,nN (aU e.counts r.fr)),(29,.box 54 3 (.agg [.int e.value,.own 52])),(52,nN (pK r (aU e.counts r.fr) i))]) (fun i=>i<=(aU e.counts r.fr).length) (fun i=>(aU e.counts r.fr).length-i) 0 [0,1,2,27,29,52] rfl (by decide) (fun _=>rfl) (Nat.zero_le _) ?_ ?_ ?_
  ·exact(sR rfl)
  ·exact⟨aT rfl rfl,aT rfl rfl,aT rfl rfl,aT rfl rfl,kX rfl rfl rfl ⟨rfl,rfl⟩ (bD.of_eq rfl),aT rfl rfl,trivial⟩
  conv=>whnf
  refine⟨(sR rfl),rfl,?_⟩
  rintro i hi
  have hn6:(i:Int)*1048577<=6*1048577:=Int.mul_le_mul_of_nonneg_right (by omega) (by omega)
  have hn0:0<=(i:Int)*1048577:=Int.mul_nonneg (by omega) (by omega)
  have hRB:=ZW hB (by omega) (r:=r) i
  have hRl:(pK r (aU e.counts r.fr) i).length=e.counts.length:=by rw[rG,hl1]
  conv=>whnf
  refine⟨fun g1=>?_,fun g1=>?_⟩
  ·have hi':i<(aU e.counts r.fr).length:=by
    have:(i:Int)<((aU e.counts r.fr).length:Int):=of_decide_eq_true g1
    omega
   have hir:i<r.response.length:=by omega
   obtain⟨q3,q4⟩:0<=r.response.getD i 0/\r.response.getD i 0<e.counts.length:=by
    rw[show r.response.getD i 0=r.response[i] by simp[hir]]; exact rs2 _ (List.getElem_mem hir)
   have hR1:=hRB.get hn0 (r.response.getD i 0).toNat
   have hR2:=hB.get (by omega) i
   conv=>whnf
   repeat(refine VC.mk (by first|(first|(simp only[Rw.rng,rG]; omega)|(simp only[okI,aU,Int.toNat_natCast] at *; omega))|(simp only[Rw.rng] at *; first|omega|(simp_all; done)|(simp_all; omega))) ?_; conv=>whnf)
   refine⟨i+1,[0,1,2,27,29,52],by omega,by omega,(sR rfl),(sR rfl),aT rfl rfl,aT rfl rfl,aT rfl rfl,aT rfl rfl,kX rfl rfl rfl ⟨rfl,rfl⟩ (bD.of_eq rfl),okF rfl nofun rfl rfl rfl ?_ ?_,trivial⟩
   ·exact⟨rfl,rfl⟩
   ·rw[vK]; rfl
  have hi':i=(aU e.counts r.fr).length:=by
   have: ¬ ((i:Int)<((aU e.counts r.fr).length:Int)):=of_decide_eq_false g1
   omega
  subst hi'
  have hR1:=hRB.get hn0 r.to.toNat
  conv=>whnf
  repeat(refine VC.mk (by first|(simp only[Rw.rng,rG]; omega)|(simp only[okI,aU,Int.toNat_natCast] at *; omega)) ?_; conv=>whnf)
  refine⟨fun h4=>?_,fun h4=>?_⟩
  ·replace h4:decide (r.write>=0)=true:=h4
   have hS:ig r e= .gW [.dat (.elem ⟨r.write,gY (pK r (aU e.counts r.fr) (aU e.counts r.fr).length) r.to 1⟩),.bool true]:=by rw[ig,eP,h1',h2,h3,h6,h4]; rfl
   conv=>whnf
   rw[hS]
   exact ak.xR rfl
  ·replace h4:decide (r.write>=0)=false:=h4
   have hS:ig r e= .gW [.dat (.elem ⟨e.value,gY (pK r (aU e.counts r.fr) (aU e.counts r.fr).length) r.to 1⟩),.bool true]:=by rw[ig,eP,h1',h2,h3,h6,h4]; rfl
   conv=>whnf
   rw[hS]
   exact ak.xR rfl
 replace h6:(r.kind==3)=false:=h6
 have hBt:=hB.get (by omega) r.to.toNat
 conv=>whnf
 repeat(refine VC.mk (by first|(simp only[Rw.rng,List.length_set]; omega)|(simp only[okI,aU] at *; omega)) ?_; conv=>whnf)
 refine⟨fun h4=>?_,fun h4=>?_⟩
 ·replace h4:decide (r.write>=0)=true:=h4
  have hS:ig r e= .gW [.dat (.elem ⟨r.write,gY (aU e.counts r.fr) r.to 1⟩),.bool true]:=by rw[ig,eP,h1',h2,h3,h6,h4]; rfl
  conv=>whnf
  rw[hS]
  exact ak.xR rfl
 ·replace h4:decide (r.write>=0)=false:=h4
  have hS:ig r e= .gW [.dat (.elem ⟨e.value,gY (aU e.counts r.fr) r.to 1⟩),.bool true]:=by rw[ig,eP,h1',h2,h3,h6,h4]; rfl
  conv=>whnf
  rw[hS]
  exact ak.xR rfl
abbrev jB(l:List (List Int)):OV:=.row 24 0 (.iG l) []
theorem MP(l:List (List Int)):T.dJ (l.map Go.Ab.ints)=true:=by
 rw[dR]; intro t ht; obtain⟨x,_,rfl⟩:=List.mem_map.1 ht; rfl
theorem UG{h:Hz}{j:Nat}{Z:Nat->Prop}{l:List (List Int)}(hz:Z j)(q:h.get j=some (jB l)):T.sub Z h.au (V.row 0 false (.iG l)).aI (V.own j).aI:=by
 show T.sub Z h.au (.sl 0 false (l.map Go.Ab.ints)) (.own j)
 simp only[T.sub]
 refine⟨trivial,hz,MP l,by decide,24,?_⟩
 have:=aO q; simpa [OV.ay,Rw.aS,V.aS] using this
theorem ak.agy{h:Hz}{j:Nat}{l:List (List Int)}(q:h.get j=some (jB l)):ak (.row 0 false (.iG l)) (.own j) h:=⟨UG trivial q⟩
theorem GU{Z:Nat->Prop}{h:Hz}{i j:Nat}{r:Rw}{l:List (List Int)}{c:List Int}(q:h.get i=some (.row 24 0 r [.own j]))(hr:r.aS=l.map Go.Ab.ints)(hi: ¬ Z i)(hz:Z j)(qj:h.get j=some (nN c)) :
  ∃ o',h.get i=some o'/\ ¬ Z i/\o'.ay.ty=(jB (l++[c])).ay.ty/\o'.ay.k=(jB (l++[c])).ay.k/\T.dP Z h.au (jB (l++[c])).ay.l o'.ay.l/\(jB (l++[c])).ay.l.map T.kd=o'.ay.l.map T.kd/\(jB (l++[c])).ay.l.map fZ=o'.ay.l.map fZ:=by
 have e1:(jB (l++[c])).ay.l=r.aS++[Go.Ab.ints c]:=by rw[hr]; simp[OV.ay,Rw.aS,V.aS]
 refine⟨_,q,hi,rfl,rfl,?_,?_,?_⟩
 ·rw[e1]
  exact nZ (aP _) ⟨xQ hz qj,trivial⟩
 ·rw[e1]; show _=List.map T.kd (r.aS++[.own j])
  rw[List.map_append,List.map_append]; rfl
 ·rw[e1]; show _=List.map fZ (r.aS++[.own j])
  rw[List.map_append,List.map_append]; rfl
theorem bZ{α:Type}{l:List α}{i:Nat}{d:α}(h:i<l.length):l.getD i d∈l:=by
 rw[List.getD_eq_getElem?_getD,List.getElem?_eq_getElem h]; exact List.getElem_mem h
def qX(N:List (List Int)):Nat->List (List Int)
 |0=>[[]]
 |i+1=>(qX N i).flatMap fun h=>(N.getD i []).map fun n=>h++[n]
def OG(N:List (List Int))(i a:Nat):List (List Int):=((qX N i).take a).flatMap fun h=>(N.getD i []).map fun n=>h++[n]
def IL(N:List (List Int))(i a b:Nat):List (List Int):=OG N i a++((N.getD i []).take b).map fun n=>(qX N i).getD a []++[n]
theorem XY{N:List (List Int)}{i a:Nat}(ha:a<(qX N i).length):OG N i (a+1)=IL N i a (N.getD i []).length:=by
 unfold OG IL
 have ht:(qX N i).take (a+1)=(qX N i).take a++[(qX N i).getD a []]:=by rw[List.take_add_one]; simp[ha]
 rw[ht,List.flatMap_append,List.take_length]; simp[OG]
theorem Qx{N:List (List Int)}{i:Nat}:OG N i (qX N i).length=qX N (i+1):=by
 unfold OG; rw[List.take_length]; rfl
theorem XZ{N:List (List Int)}{i a b:Nat}(hb:b<(N.getD i []).length):IL N i a (b+1)=IL N i a b++[(qX N i).getD a []++[(N.getD i []).getD b 0]]:=by
 unfold IL
 revert hb
 generalize N.getD i []=L
 intro hb
 have ht:L.take (b+1)=L.take b++[L.getD b 0]:=by rw[List.take_add_one]; simp[hb]
 rw[ht,List.map_append,<- List.append_assoc]; rfl
theorem Fa{α β:Type}{f:α->List β}{k:Nat}: ∀ {l:List α},(∀ x∈l,(f x).length<=k)->(l.flatMap f).length<=l.length*k:=by
 intro l
 induction l with
 |nil=>intro _; simp
 |cons x r ih =>
  intro h
  rw[List.flatMap_cons,List.length_append,List.length_cons,Nat.succ_mul]
  have:=h x (by simp); have:=ih fun y hy=>h y (by simp[hy]); omega
def Eh(N:List (List Int)):Prop:= ∀ i,(N.getD i []).length<=3
theorem Qy{N:List (List Int)}(hN:Eh N){i a:Nat}(ha:a<=(qX N i).length):(OG N i a).length<=a*3:=by
 have:=Fa (l:=(qX N i).take a) (f:=fun h=>(N.getD i []).map fun n=>h++[n]) (k:=3) (fun x _=>by rw[List.length_map]; exact hN i)
 rw[List.length_take,Nat.min_eq_left ha] at this
 exact this
theorem acC{N:List (List Int)}(hN:Eh N): ∀ {i:Nat},(qX N i).length<=3^i:=by
 intro i
 induction i with
 |zero=>exact Nat.le_refl _
 |succ i ih =>
  have:=Qy hN (Nat.le_refl (qX N i).length)
  rw[Qx] at this
  rw[Nat.pow_succ]; omega
theorem OH{N:List (List Int)}: ∀ {i:Nat} {c:List Int},c∈qX N i->c.length=i:=by
 intro i
 induction i with
 |zero=>intro c h; simp[qX] at h; rw[h]; rfl
 |succ i ih =>
  intro c h
  simp only[qX,List.mem_flatMap,List.mem_map] at h
  obtain⟨x,hx,n,_,rfl⟩:=h
  rw[List.length_append,ih hx]; rfl
theorem Ws{N:List (List Int)}(hN:Eh N){i:Nat}(hi:i<=6):(qX N i).length<=729:=by
 have h1:=acC hN (i:=i)
 have h2:3^i<=3^6:=Nat.pow_le_pow_right (by decide) hi
 have h3:3^6=729:=by decide
 omega
def Fb(v:Int)(l:List (List Int)):List Elem:=(l.map fun c=>(⟨v,c⟩:Elem)).filter fun e=>decide (0<xM e)
def lZ(v:Int)(N:List (List Int)):List Elem:=Fb v (qX N N.length)
theorem X0{v:Int}{l:List (List Int)}{a:Nat}(ha:a<l.length):Fb v (l.take (a+1))=Fb v (l.take a)++(if decide (0<xM ⟨v,l.getD a []⟩)=true then [⟨v,l.getD a []⟩] else []):=by
 unfold Fb
 have ht:l.take (a+1)=l.take a++[l.getD a []]:=by rw[List.take_add_one]; simp[ha]
 rw[ht,List.map_append,List.filter_append]
 by_cases h:decide (0<xM ⟨v,l.getD a []⟩)=true
 ·rw[if_pos h]; simp only[List.map_cons,List.map_nil,List.filter_cons,h,if_true,List.filter_nil]
 ·rw[if_neg h]; simp only[List.map_cons,List.map_nil,List.filter_cons,h,Bool.false_eq_true,if_false,List.filter_nil]
theorem QA{v:Int}{l:List (List Int)}:(Fb v l).length<=l.length:=by
 unfold Fb
 have:=List.length_filter_le (fun e=>decide (0<xM e)) (l.map fun c=>(⟨v,c⟩:Elem))
 rwa [List.length_map] at this
theorem acD:bD [T.sl 0 false []] [T.sl 0 true []]:=by
 intro Z h; simp[T.dP,T.sub]
set_option maxHeartbeats 1000000 in
theorem S.LP(v:Int)(N:List (List Int))(f:Bool)(hN6:N.length<=6)(hN:Eh N)(n:Nat):aV Tryz.prog 76 (V.aS [.int v,.row 0 f (.iG N)]) (Hz.au []) n (fun t hp=>t= .own n/\hp=Hz.au [(n,some (eH (lZ v N)))]):=by
 refine pO.of (nx:=0) Bd.oM (by simp) ⟨_,_,rfl,rfl⟩ rfl rfl ?_
 conv=>whnf
 refine aB.nD 1 [0,18,19] (fun i:Nat=>[(20,.int i),(5,.own 0)]) (fun i=>[(0,jB (qX N i))]) (fun i=>i<=N.length) (fun i=>N.length-i) 0 [1] rfl (by decide) (fun _=>rfl) (Nat.zero_le _) ?_ ?_ ?_
 ·exact(sR rfl)
 ·exact⟨kX rfl rfl rfl ⟨rfl,rfl⟩ acD,trivial⟩
 conv=>whnf
 refine⟨(sR rfl),rfl,?_⟩
 rintro i hi
 have hcap:=Ws hN (i:=i) (by omega)
 have h3:=hN i
 conv=>whnf
 refine⟨fun h1=>?_,fun h1=>?_⟩
 ·have hi':i<N.length:=by simpa using h1
  conv=>whnf
  refine .mk (by simp only[Rw.rng] at *; first|omega|(simp_all; done)|(simp_all; omega)) ?_
  conv=>whnf
  refine aB.nil 8 24 0 (by rfl) rfl rfl rfl ?_
  refine aB.nD 2 [0,7,18,19,20,24,25] (fun a:Nat=>[(26,.int a),(8,.own 1)]) (fun a=>[(0,jB (qX N i)),(1,jB (OG N i a))]) (fun a=>a<=(qX N i).length) (fun a=>(qX N i).length-a) 0 [0,9] rfl (by decide) (fun _=>rfl) (Nat.zero_le _) ?_ ?_ ?_
  ·exact(sR rfl)
  ·exact⟨aT rfl rfl,aT rfl rfl,trivial⟩
  conv=>whnf
  refine⟨(sR rfl),rfl,?_⟩
  rintro a ha
  have hA:=Qy hN ha
  conv=>whnf
  refine⟨fun h2=>?_,fun h2=>?_⟩
  ·have ha':a<(qX N i).length:=by simpa using h2
   have hcl:((qX N i).getD a []).length=i:=OH (bZ ha')
   conv=>whnf
   repeat(refine VC.mk (by simp only[Rw.rng] at *; first|omega|(simp_all; done)|(simp_all; omega)) ?_; conv=>whnf)
   refine aB.Wu 2 [0,7,10,18,19,20,24,25,26,30,31] (fun b:Nat=>[(32,.int b),(8,.own 1)]) (fun b=>[(0,jB (qX N i)),(1,jB (IL N i a b))]) (fun b=>b<=(N.getD i []).length) (fun b=>(N.getD i []).length-b) 0 [0,1] [(0,some (jB (qX N i))),(1,some (jB (OG N i a)))] rfl (by decide) (fun _=>rfl) (Nat.zero_le _) ?_ ?_ ?_ ?_
   ·exact(sR rfl)
   ·exact⟨fun _=>False,mg (Z:=fun _=>False) rfl (fun q=>q),mg (Z:=fun _=>False) rfl (fun q=>q),trivial⟩
   ·exact⟨aT rfl rfl,okF rfl nofun rfl rfl rfl ⟨rfl,rfl⟩ (by simp[IL]),trivial⟩
   conv=>whnf
   refine⟨(sR rfl),rfl,?_⟩
   rintro b hb
   have hB:(IL N i a b).length<=729*3+3:=by
    unfold IL; rw[List.length_append,List.length_map,List.length_take]; omega
   conv=>whnf
   refine⟨fun h4=>?_,fun h4=>?_⟩
   ·have hb':b<(N.getD i []).length:=by simpa using h4
    conv=>whnf
    repeat(refine VC.mk (by first|(simp only[Rw.rng,Int.toNat_natCast]; omega)|(simp only[Rw.nO]; omega)) ?_; conv=>whnf)
    rw[show decide (((((qX N i).getD (a:Int).toNat []).length:Int))=(((qX N i).getD (a:Int).toNat []).length:Int))=true from decide_eq_true rfl]
    conv=>whnf
    refine acE.one ⟨.inr (Nat.zero_lt_succ _),?_⟩ ?_
    ·show(Rw.len (Rw.take _ _)+1)*8<=140737488355328/\Rw.len (Rw.take _ _)+1<=1152921504606846976
     rw[Rw.ZX]; simp only[Rw.len,Int.toNat_natCast]; omega
    conv=>whnf
    repeat(refine VC.mk (by first|(show((IL N i a b).length+(0+1))*24<=140737488355328/\(IL N i a b).length+(0+1)<=1152921504606846976; omega)|(simp only[okI] at *; first|omega|(simp_all; done)|(simp_all; omega))) ?_; conv=>whnf)
    refine⟨[(0,some (jB (qX N i))),(17,some (jB (IL N i a b++[((qX N i).getD a []).take ((((qX N i).getD a []).length:Int).toNat)++[(N.getD i []).getD b 0]])))],b+1,[0,17],⟨fun i=>i=15,mg (Z:=fun i=>i=15) (i:=0) rfl (by decide),GU (Z:=fun i=>i=15) (i:=17) (j:=15) rfl rfl (by decide) rfl rfl,trivial⟩,by omega,by omega,(sR rfl),(sR rfl),aT rfl rfl,okF rfl nofun rfl rfl rfl ⟨rfl,rfl⟩ ?_,trivial⟩
    rw[XZ hb',Int.toNat_natCast,List.take_length]
   ·have hb':b=(N.getD i []).length:=by
     have: ¬ ((b:Int)<((N.getD i []).length:Int)):=of_decide_eq_false h4
     omega
    subst hb'
    rw[<- XY ha']
    conv=>whnf
    refine .mk (by simp only[okI] at *; first|omega|(simp_all; done)|(simp_all; omega)) ?_
    conv=>whnf
    refine⟨a+1,[0,1],by omega,by omega,(sR rfl),(sR rfl),aT rfl rfl,aT rfl rfl,trivial⟩
  ·have ha':a=(qX N i).length:=by
    have: ¬ ((a:Int)<((qX N i).length:Int)):=of_decide_eq_false h2
    omega
   subst ha'
   rw[Qx]
   conv=>whnf
   refine .mk (by simp only[okI] at *; first|omega|(simp_all; done)|(simp_all; omega)) ?_
   conv=>whnf
   refine⟨i+1,[1],by omega,by omega,(sR rfl),(sR rfl),aT rfl rfl,trivial⟩
 ·have hi':i=N.length:=by
   have: ¬ ((i:Int)<(N.length:Int)):=of_decide_eq_false h1
   omega
  subst hi'
  conv=>whnf
  refine aB.nil 13 54 3 (by rfl) rfl rfl rfl ?_
  refine aB.nD 2 [0,52,53] (fun a:Nat=>[(54,.int a),(13,.own 1)]) (fun a=>[(0,jB (qX N N.length)),(1,eH (Fb v ((qX N N.length).take a)))]) (fun a=>a<=(qX N N.length).length) (fun a=>(qX N N.length).length-a) 0 [0,6] rfl (by decide) (fun _=>rfl) (Nat.zero_le _) ?_ ?_ ?_
  ·exact(sR rfl)
  ·exact⟨aT rfl rfl,aT rfl rfl,trivial⟩
  conv=>whnf
  refine⟨(sR rfl),rfl,?_⟩
  rintro a ha
  have hkl:=QA (v:=v) (l:=(qX N N.length).take a)
  rw[List.length_take] at hkl
  conv=>whnf
  refine⟨fun h2=>?_,fun h2=>?_⟩
  ·have ha':a<(qX N N.length).length:=by simpa using h2
   have hcl:((qX N N.length).getD a []).length=N.length:=OH (bZ ha')
   have hn:=X0 (v:=v) ha'
   conv=>whnf
   repeat(refine VC.mk (by simp only[Rw.rng] at *; first|omega|(simp_all; done)|(simp_all; omega)) ?_; conv=>whnf)
   refine ah.pure (S.qL ⟨v,(qX N N.length).getD a []⟩ (by show((qX N N.length).getD a []).length<_; omega)) rfl ?_
   conv=>whnf
   refine⟨fun h3=>?_,fun h3=>?_⟩
   ·rw[if_pos h3] at hn
    conv=>whnf
    repeat(refine VC.mk (by first|(show((Fb v ((qX N N.length).take a)).length+(0+1))*32<=140737488355328/\(Fb v ((qX N N.length).take a)).length+(0+1)<=1152921504606846976; omega)|(simp only[okI] at *; first|omega|(simp_all; done)|(simp_all; omega))) ?_; conv=>whnf)
    refine⟨a+1,[0,17],by omega,by omega,(sR rfl),(sR rfl),aT rfl rfl,okF rfl nofun rfl rfl rfl ⟨rfl,rfl⟩ ?_,trivial⟩
    rw[hn]
    show List.map fD (Fb v (List.take a (qX N N.length))++[⟨v,(qX N N.length).getD a []⟩])++[]=List.map fD (Fb v (List.take a (qX N N.length)))++[fD ⟨v,(qX N N.length).getD a []⟩]
    simp
   ·rw[if_neg (by rw[h3]; decide),List.append_nil] at hn
    conv=>whnf
    refine .mk (by simp only[okI] at *; first|omega|(simp_all; done)|(simp_all; omega)) ?_
    conv=>whnf
    refine⟨a+1,[0,1],by omega,by omega,(sR rfl),(sR rfl),aT rfl rfl,okF rfl nofun rfl rfl rfl ⟨rfl,rfl⟩ (by rw[hn]),trivial⟩
  ·have ha':(qX N N.length).length<=a:=by simpa using h2
   rw[List.take_of_length_le ha']
   conv=>whnf
   exact nP.one (c:=n) (j:=1) (o:=eH (lZ v N)) (t:=.own n) rfl rfl rfl nofun (.inr rfl) rfl (.eq rfl) ⟨rfl,rfl⟩
theorem S.oM(v:Int)(N:List (List Int))(f:Bool)(hN6:N.length<=6)(hN:Eh N):wC Tryz.prog 76 (V.aS [.int v,.row 0 f (.iG N)]) (fun n=>.own n) (some ⟨54,3,(Rw.elems (lZ v N)).aS⟩):=by
 refine⟨rfl,fun n=>rfl,fun ob h=>?_,fun ob h=>?_,fun n=>?_⟩
 ·cases h; exact wI _
 ·cases h; exact show(3:Nat)≠fU by decide
 ·have:=S.LP v N f hN6 hN n
  have e1:Hz.au [(n,some (eH (lZ v N)))]=gZ no n (some ⟨54,3,(Rw.elems (lZ v N)).aS⟩):=by
   rw[bG]; simp[gZ,OV.ay,V.aS]; rfl
  rw[e1] at this
  exact this
theorem S.oN(a b:Elem)(ha:a.counts.length<2^40)(hb:b.counts.length<2^40):aj Tryz.prog 80 [.dat (.elem a),.dat (.elem b)] (.bool (decide (a=b))):=by
 refine aj.of Bd.oN (by simp) rfl rfl ?_
 conv=>whnf
 refine ah.pure (S.iI a b ha hb) rfl ?_
 conv=>whnf
 refine ak.bool ?_
 rw[Bool.eq_iff_iff]; simp only[decide_eq_true_eq,beq_iff_eq]
 exact iW.symm
theorem S.ZY(l:List Elem)(n:Nat)(hl:l.length<2^30)(hs:eF l) :
  aV Tryz.prog 79 (V.aS [.own 0,.fn 80 []]) (h1 l).au n
   (fun t hp=>(sQ l=l/\t= .own 0/\hp=(h1 l).au)\/(∃ m,t= .qN 0 0 (sQ l).length/\hp=Hz.au [(0,some (.row 54 3 (.elems (sQ l)) (List.replicate m zeroV)))])):=by
 refine pO.of (nx:=1) Bd.dA (by simp) ⟨_,_,.inr ⟨0,rfl,rfl⟩⟩ rfl rfl ?_
 conv=>whnf
 refine⟨fun h1=>?_,fun h1=>?_⟩
 ·conv=>whnf
  have hc:sQ l=l:=by
   have h2:l.length<2:=by simp at h1; omega
   rw[sQ,JD (Nat.le_refl _) (fun i h3 h4=>by omega),List.take_length]
  exact nP.one (c:=0) (j:=0) (o:=eH l) (t:=.own 0) rfl rfl rfl (fun _=>rfl) (.inl rfl) rfl (.eq rfl) (.inl ⟨hc,rfl,rfl⟩)
 ·have h2:2<=l.length:=by simp at h1; omega
  conv=>whnf
  refine aB.same [0,1] (fun i:Nat=>[(5,.int i)]) (fun i=>1<=i/\i<=l.length/\ ∀ k,0<k->k<i->l.getD k default≠l.getD (k-1) default) (fun i=>l.length-i) 1 rfl (by decide) rfl (fun _=>rfl) ⟨by omega,by omega,fun k h3 h4=>by omega⟩ ⟨⟨_,rfl,rfl⟩,trivial⟩ ?_
  conv=>whnf
  refine⟨rfl,?_⟩
  rintro k ⟨hk0,hk,hne⟩
  have e1:((k:Int)-1).toNat=k-1:=by omega
  conv=>whnf
  refine⟨fun h3=>?_,fun h3=>?_⟩
  ·have hk':k<l.length:=by simpa using h3
   conv=>whnf
   repeat(refine VC.mk (by simp only[okI,Rw.rng]; omega) ?_; conv=>whnf)
   refine ah.pure (S.oN _ _ (hs.get _) (hs.get _)) rfl ?_
   conv=>whnf
   refine⟨fun h4=>?_,fun h4=>?_⟩
   ·have heq:l.getD k default=l.getD (k-1) default:=by
     rw[e1] at h4; simpa using h4
    have hdk:uS l k=l.take k:=JD hk hne
    have aeQ:uS l (k+1)=l.take k:=by rw[QB (by omega) heq,hdk]
    conv=>whnf
    refine .mk (by simp only[Rw.nO]; omega) ?_
    conv=>whnf
    refine aB.objs 1 [0,1,6] (fun j:Nat=>[(7,.int j),(5,.int (uS l (k+j)).length)]) (fun j=>[(0,eH (mid l (k+j)))]) (fun j=>1<=j/\k+j<=l.length/\(uS l (k+j)).length+1<=k+j) (fun j=>l.length-j) 1 [0] rfl (by decide) (fun _=>rfl) ⟨by omega,by omega,?_⟩ ?_ ?_ ?_
    ·rw[aeQ]; simp; omega
    ·refine⟨⟨_,rfl,.eq rfl⟩,⟨_,rfl,.eq ?_⟩,trivial⟩
     rw[aeQ]
     show T.int (((l.take k).length:Nat):Int)=T.int (k:Int)
     simp[Nat.min_eq_left hk]
    ·refine⟨⟨rfl,(fun _=>rfl),rfl,rfl,rfl,_,rfl,rfl,rfl,bD.of_eq ?_⟩,trivial⟩
     have:mid l (k+1)=l:=by unfold mid; rw[aeQ]; simp[Nat.min_eq_left hk]
     rw[this]
    conv=>whnf
    refine⟨(sR rfl),rfl,?_⟩
    rintro j ⟨hj0,hj,hdl⟩
    have hml:=acF hj
    have e2:((j:Int)-1).toNat=j-1:=by omega
    have hsm:eF (mid l (k+j)):=fun x hx=>by
     unfold mid at hx
     rcases List.mem_append.1 hx with hx|hx
     ·exact hs x (acG hx hj)
     ·exact hs x (List.mem_of_mem_drop hx)
    conv=>whnf
    refine⟨fun h5=>?_,fun h5=>?_⟩
    ·have hj':k+j<l.length:=by
      have h6:j<l.length-k:=by
       have:(j:Int)<(((Rw.elems l).len-k:Nat):Int):=by simpa using h5
       have e3:(Rw.elems l).len=l.length:=rfl
       rw[e3] at this
       omega
      omega
     have g1:=Wv (l:=l) (j:=k+j) (i:=k+j) (by omega)
     have g2:=Wv (l:=l) (j:=k+j) (i:=k+(j-1)) (by omega)
     conv=>whnf
     repeat(refine VC.mk (by first|(simp only[okI]; omega)|(show _/\_<(((l.length-k:Nat)):Int); omega)|(simp only[Rw.rng,hml,Int.toNat_natCast,e2]; omega)|(show(0:Int)<=_/\_<((mid l (k+j)).length:Int); rw[hml]; simp only[Int.toNat_natCast,e2]; omega)) ?_; conv=>whnf)
     refine ah.pure (S.oN _ _ (hsm.get _) (hsm.get _)) rfl ?_
     simp only[Int.toNat_natCast,e2,g1,g2]
     conv=>whnf
     have e4:k+(j-1)=k+j-1:=by omega
     refine⟨fun h6=>?_,fun h6=>?_⟩
     ·have hne':l.getD (k+j) default≠l.getD (k+j-1) default:=by
       rw[e4] at h6; simpa using h6
      have hst:=acH hj' (.inr hne')
      have hd1:uS l (k+j+1)=uS l (k+j)++[l.getD (k+j) default]:=by simp only[uS]; rw[if_pos (.inr hne')]
      conv=>whnf
      repeat(refine VC.mk (by first|(simp only[okI]; omega)|(show _/\_<(((l.length-k:Nat)):Int); omega)|(simp only[Rw.rng,hml,Int.toNat_natCast]; omega)|(show(0:Int)<=_/\_<((mid l (k+j)).length:Int); rw[hml]; simp only[Int.toNat_natCast]; omega)) ?_; conv=>whnf)
      refine⟨j+1,[0],⟨by omega,by omega,?_⟩,by omega,⟨⟨_,rfl,.eq rfl⟩,⟨_,rfl,.eq ?_⟩,trivial⟩,(sR rfl),⟨rfl,(fun _=>rfl),rfl,rfl,rfl,_,rfl,rfl,rfl,bD.of_eq ?_⟩,trivial⟩
      ·show(uS l (k+j+1)).length+1<=k+(j+1)
       rw[hd1]; simp; omega
      ·show T.int (((uS l (k+j+1)).length:Nat):Int)=T.int (((uS l (k+j)).length:Int)+1)
       rw[hd1]; simp
      ·show(eH (mid l (k+j+1))).ay.l=(OV.row 54 3 (.elems ((mid l (k+j)).set (((uS l (k+j)).length:Int)).toNat ((mid l (k+j)).getD ((k:Int).toNat+(j:Int).toNat) default))) []).ay.l
       simp only[Int.toNat_natCast,g1,hst]
     ·have heq':l.getD (k+j) default=l.getD (k+j-1) default:=by
       rw[e4] at h6; simpa using h6
      have hd1:uS l (k+j+1)=uS l (k+j):=QB (by omega) heq'
      conv=>whnf
      refine .mk (by simp only[okI] at *; first|omega|(simp_all; done)|(simp_all; omega)) ?_
      conv=>whnf
      refine⟨j+1,[0],⟨by omega,by omega,?_⟩,by omega,⟨⟨_,rfl,.eq rfl⟩,⟨_,rfl,.eq ?_⟩,trivial⟩,(sR rfl),⟨rfl,(fun _=>rfl),rfl,rfl,rfl,_,rfl,rfl,rfl,bD.of_eq ?_⟩,trivial⟩
      ·show(uS l (k+j+1)).length+1<=k+(j+1)
       rw[hd1]; omega
      ·show T.int (((uS l (k+j+1)).length:Nat):Int)=T.int ((uS l (k+j)).length:Int)
       rw[hd1]
      ·show(eH (mid l (k+j+1))).ay.l=(eH (mid l (k+j))).ay.l
       unfold mid; rw[hd1]
    ·have hj':k+j=l.length:=by
      have h6: ¬ (j:Int)<(((Rw.elems l).len-k:Nat):Int):=by simpa using h5
      have e3:(Rw.elems l).len=l.length:=rfl
      rw[e3] at h6
      omega
     have ais:(uS l (k+j)).length<=l.length:=by have:=I7 l (k+j); omega
     conv=>whnf
     repeat(refine VC.mk (by first|(simp only[Rw.nO,hml]; omega)|(refine⟨?_,rfl⟩; show((uS l (k+j)).length:Int).toNat<=(mid l (k+j)).length; rw[hml,Int.toNat_natCast]; omega)|(show(0:Int)<=((uS l (k+j)).length:Int)/\((uS l (k+j)).length:Int)<=(((mid l (k+j)).take ((uS l (k+j)).length:Int).toNat).length:Int); rw[List.length_take,hml,Int.toNat_natCast]; omega)|(show _<=(mid l (k+j)).length/\(mid l (k+j)).length=(mid l (k+j)).length; rw[hml]; simp only[Int.toNat_natCast]; omega)|(show(0:Int)<=_/\_<=(((mid l (k+j)).take _).length:Int); rw[List.length_take,hml]; simp only[Int.toNat_natCast]; omega)) ?_; conv=>whnf)
     have htk:(mid l (k+j)).take ((uS l (k+j)).length:Int).toNat=sQ l:=by
      rw[Int.toNat_natCast]; unfold mid; rw[List.take_left,hj']; rfl
     have hcl:((uS l (k+j)).length:Int).toNat=(sQ l).length:=by rw[Int.toNat_natCast,hj']; rfl
     refine nP.one (c:=0) (j:=0) (o:=.row 54 3 (.elems (sQ l)) (List.replicate ((mid l (k+j)).length-((uS l (k+j)).length:Int).toNat) zeroV)) (t:=.qN 0 0 (sQ l).length) ?_ (QC _ _ _) (OI _ _) (fun _=>rfl) (.inl rfl) rfl (.eq ?_) (.inr ⟨_,rfl,rfl⟩)
     ·rw[<- htk]; rfl
     ·rw[<- hcl]; rfl
   ·conv=>whnf
    refine .mk (by simp only[okI] at *; first|omega|(simp_all; done)|(simp_all; omega)) ?_
    conv=>whnf
    refine⟨k+1,⟨by omega,by omega,fun i h5 h6=>?_⟩,by omega,⟨⟨_,rfl,rfl⟩,trivial⟩,?_,rfl⟩
    ·by_cases e:i=k
     ·subst e; rw[e1] at h4; simpa using h4
     ·exact hne i h5 (by omega)
    ·repeat' (first|exact trivial|exact⟨_,rfl,rfl⟩|constructor)
  ·conv=>whnf
   have hk':l.length<=k:=by simpa using h3
   have hc:sQ l=l:=by
    rw[sQ,JD (Nat.le_refl _) (fun i h3 h4=>hne i h3 (by omega)),List.take_length]
   exact nP.one (c:=0) (j:=0) (o:=eH l) (t:=.own 0) rfl rfl rfl (fun _=>rfl) (.inl rfl) rfl (.eq rfl) (.inl ⟨hc,rfl,rfl⟩)
theorem S.vN(l:List Elem)(n:Nat)(hl:l.length<2^30)(hs:eF l) :
  aV Tryz.prog 49 (V.aS [.own 0]) (h1 l).au n
   (fun t hp=>(t= .own 0/\hp=(h1 (uy l)).au)\/(∃ m,t= .qN 0 0 (uy l).length/\hp=Hz.au [(0,some (.row 54 3 (.elems (uy l)) (List.replicate m zeroV)))])):=by
 refine pO.of (nx:=1) Bd.vN (by simp) ⟨_,_,.inl ⟨rfl,rfl⟩⟩ rfl rfl ?_
 conv=>whnf
 refine ah.heap (S.SortFunc l _ hl hs) ?_
 rintro t hp ⟨rfl,rfl⟩
 refine⟨.gW [],h1 (rM l),rfl,rfl,?_⟩
 conv=>whnf
 refine ah.heap (S.ZY (rM l) _ (by rw[GV]; exact hl) (QD hs)) ?_
 rintro t hp (⟨hc,rfl,rfl⟩|⟨m,rfl,rfl⟩)
 ·refine⟨.own 0,h1 (rM l),rfl,rfl,?_⟩
  conv=>whnf
  refine nP.one (c:=0) (j:=0) (o:=eH (rM l)) (t:=.own 0) rfl rfl rfl (fun _=>rfl) (.inl rfl) rfl (.eq rfl) (.inl ⟨rfl,?_⟩)
  rw[uy,hc]
 ·refine⟨.qN 0 0 (sQ (rM l)).length,[(0,some (.row 54 3 (.elems (sQ (rM l))) (List.replicate m zeroV)))],rfl,rfl,?_⟩
  conv=>whnf
  exact nP.one (c:=0) (j:=0) (o:=.row 54 3 (.elems (sQ (rM l))) (List.replicate m zeroV)) (t:=.qN 0 0 (sQ (rM l)).length) rfl (QC _ _ _) (OI _ _) (fun _=>rfl) (.inl rfl) rfl (.eq rfl) (.inr ⟨m,rfl,rfl⟩)
theorem ah.Z4{h:Hz}{i n:Nat}{l:List Elem}{K:V->Hz->Prop}{KW:Nat->V->Hz->Prop}(hi:h.get i=some (eH l))(hn:h.get n=none)(hl:l.length<2^30)(hs:eF l)
  (h1:K (.own i) ((i,some (eH (uy l)))::h)) (h2: ∀ m,K (.qN i 0 (uy l).length) ((i,some (.row 54 3 (.elems (uy l)) (List.replicate m zeroV)))::h)):ah Tryz.prog false none 49 [.own i] h n K KW:=by
 refine ah.Z5 (ts:=[.own 0]) (S.vN l 1 hl hs) rfl rfl rfl rfl hi hn ?_
 rintro t hp (⟨rfl,rfl⟩|⟨m,rfl,rfl⟩)
 ·exact .inl ⟨.own i,eH (uy l),rfl,rfl,rfl,h1⟩
 ·exact .inl ⟨.qN i 0 _,.row 54 3 (.elems (uy l)) (List.replicate m zeroV),rfl,OI _ _,rfl,h2 m⟩
theorem ah.Z7{P:Program}{f:FuncId}{args args':List V}{h h2:Hz}{n ty k:Nat}{r:Rw}{K:V->Hz->Prop}{KW:Nat->V->Hz->Prop}(Z:Nat->Prop)(F:UH Z h h2)(hs:T.dP Z h.au (V.aS args') (V.aS args))
  (H:wC P f (V.aS args') (fun n=>.own n) (some ⟨ty,k,r.aS⟩)) (hK:K (.own n) ((n,some (.row ty k r []))::h2)):ah P false none f args h n K KW:=by
 refine⟨.inl ?_⟩
 refine aV.frz Z (ts2:=V.aS args') (h2:=h2.au) (aV.mono (wC.frame H h2.au n) ?_) hs fun i ob hi=>?_
 ·rintro t hp ⟨rfl,rfl⟩
  exact⟨.own n,_,rfl,by rw[bG]; simp[gZ,OV.ay,V.aS],(fun e=>by cases e),hK⟩
 ·simp only[Hz.au,Option.map_eq_some_iff] at hi
  obtain⟨o,e1,rfl⟩:=hi
  obtain⟨o',a1,a2,a3,a4,a5,a6,a7⟩:=Fe F e1
  exact⟨o'.ay,aO a1,a2,a3,a4,a5,a6,a7⟩
theorem Z8{Z:Nat->Prop}{h:Hp}{t u:T}(hs:T.sub Z h t u): ∀ {a b:List T} {i:Nat},T.dP Z h a b->T.dP Z h (a.set i t) (b.set i u):=by
 intro a
 induction a with
 |nil=>intro b i q; cases b with
  |nil=>exact trivial
  |cons _ _=>exact q.elim
 |cons x r ih =>
  intro b i q
  cases b with
  |nil=>exact q.elim
  |cons y s =>
   cases i with
   |zero=>exact⟨hs,q.2⟩
   |succ i=>exact⟨q.1,ih q.2⟩
theorem QE(n:Nat):bD ((List.replicate n ([]:List Int)).map Go.Ab.ints) (V.aS (List.replicate n (vw .nil))):=by
 intro Z h
 rw[bJ,List.map_replicate,List.map_replicate]
 have:T.sub Z h (Go.Ab.ints []) (vw .nil).aI:=by simp[Go.Ab.ints,vw,V.aI,T.sub,Rw.aS]
 induction n with
 |zero=>trivial
 |succ n ih=>exact⟨this,ih⟩
theorem X3{Z:Nat->Prop}{h:Hp}(c:List Int):T.sub Z h (Go.Ab.ints c) (V.row 0 true (.ints c)).aI:=by simp[Go.Ab.ints,V.aI,Rw.aS,T.sub]
theorem OJ(L:List (List Int))(i:Nat)(c:List Int):bD ((L.set i c).map Go.Ab.ints) (V.aS ((Rw.vs (.iG L)).set i (.row 0 true (.ints c)))):=by
 intro Z h
 rw[bJ,List.map_set,List.map_set,<- bJ,Rw.UJ]
 exact Z8 (X3 c) (aP _)
theorem QF(L:List (List Int))(i:Nat)(b c:List Int):bD ((L.set i c).map Go.Ab.ints) (V.aS (((Rw.vs (.iG L)).set i (.row 0 true (.ints b))).set i (.row 0 true (.ints c)))):=by
 rw[List.set_set]; exact OJ L i c
theorem yN{n:Nat}(h:0<n):(bif isZero (.int n) then some Rw.nil else LQ (n:Int).toNat .nil)=none:=by
 cases n with
 |zero=>omega
 |succ n=>rfl
theorem okS{ρ:Nat->Nat}{nx pn c n:Nat}{h:Hz}{s:List Nat}{o o':OV}(q1:Nat.blt c nx=true)(q2:Nat.blt c pn=true->n=c)(q3:pR n s=true)(q4:(o.good nx&&o.Ig)=true)(q5:h.get n=some o')
  (q6:o'.ay.ty=o.ay.ty/\o'.ay.k=o.ay.k) (q7:bD o.ay.l o'.ay.l):Nat.blt c nx=true/\(Nat.blt c pn=true->n=c)/\pR n s=true/\o.good nx=true /\
   ∃ o',h.get n=some o'/\o'.ay.ty=o.ay.ty/\o'.ay.k=o.ay.k/\bD (T.bU ρ o.ay.l) o'.ay.l:=by
 rw[Bool.and_eq_true] at q4
 exact⟨q1,q2,q3,q4.1,o',q5,q6.1,q6.2,by rw[OV.zX q4.2 ρ]; exact q7⟩
theorem vO{L:List (List Int)}{l:List T}(h:bD (L.map Go.Ab.ints) l):bD (jB L).ay.l l:=by
 show bD (List.map Go.Ab.ints L++[]) l
 rw[List.append_nil]; exact h
def JE(f:Nat->List Int)(n i:Nat):List (List Int):=(List.range i).map f++List.replicate (n-i) []
theorem MQ{f:Nat->List Int}{n:Nat}:JE f n 0=List.replicate n []:=by simp[JE]
theorem QG{f:Nat->List Int}{n:Nat}:JE f n n=(List.range n).map f:=by simp[JE]
theorem QH{f:Nat->List Int}{n i:Nat}(hi:i<=n):(JE f n i).length=n:=by simp[JE]; omega
theorem MR{f:Nat->List Int}{n i:Nat}(hi:i<n):(JE f n i).set i (f i)=JE f n (i+1):=by
 have e1:n-i=(n-(i+1))+1:=by omega
 unfold JE
 rw[e1,List.replicate_succ,List.set_append_right _ _ (by simp)]
 have:i-((List.range i).map f).length=0:=by simp
 rw[this,List.set_cons_zero,List.range_succ]; simp
def Ei(p:aC)(q:Prop')(x:Nat):List Int:=bif Ef (mY p q) x then [0,1,2] else [0]
def AU(p:aC)(q:Prop'):List (List Int):=(List.range p.states.length).map (Ei p q)
def fiE(p:aC)(q:Prop'):List Elem:=uy (lZ 0 (AU p q))
theorem vC{f:Nat->List Int}(hf: ∀ i,(f i).length<=3)(n:Nat):Eh ((List.range n).map f):=by
 intro i
 rw[List.getD_eq_getElem?_getD,List.getElem?_map]
 cases hg:(List.range n)[i]? with
 |none=>simp
 |some j=>exact hf j
theorem QI(p:aC)(q:Prop')(i:Nat):(Ei p q i).length<=3:=by
 unfold Ei; cases Ef (mY p q) i<;>simp
theorem OL{v:Int}{N:List (List Int)}(hN:Eh N)(h6:N.length<=6):(lZ v N).length<=729:=Nat.le_trans QA (Ws hN h6)
theorem Dh{v:Int}{N:List (List Int)}{e:Elem}(h:e∈lZ v N):e.value=v/\e.counts.length=N.length/\e.counts∈qX N N.length/\0<xM e:=by
 unfold lZ Fb at h
 obtain⟨h1,h2⟩:=List.mem_filter.1 h
 obtain⟨c,hc,rfl⟩:=List.mem_map.1 h1
 exact⟨rfl,OH hc,hc,of_decide_eq_true h2⟩
theorem X4{v:Int}{N:List (List Int)}(h6:N.length<=6):eF (lZ v N):=fun e he=>by have:=(Dh he).2.1; omega
set_option maxHeartbeats 1000000 in
theorem S.rO(p:aC)(q:Prop')(hp:dL p)(hq:iF q)(hv:jr p q=0):aj Tryz.prog 47 [.dat (.iE p),.dat (.prop q)] (.row 3 false (.elems (fiE p q))):=by
 have hst:=(kU (zY hv)).states
 have hpos:=(kU (zY hv)).pos
 refine aj.of Bd.rO (by simp) rfl rfl ?_
 conv=>whnf
 refine ah.pure (S.mD p q hp hq hv) rfl ?_
 conv=>whnf
 rw[yN hpos]
 conv=>whnf
 refine .mk (by omega) ?_
 conv=>whnf
 refine aB.nD 19 [5,20] (fun i:Nat=>[(21,.int i),(7,.own 14)]) (fun i=>[(14,jB (JE (Ei p q) p.states.length i))]) (fun i=>i<=p.states.length) (fun i=>p.states.length-i) 0 [14] rfl (by decide) (fun _=>rfl) (Nat.zero_le _) ?_ ?_ ?_
 ·exact(sR rfl)
 ·refine⟨okS rfl nofun rfl rfl rfl ⟨rfl,rfl⟩ (vO ?_),trivial⟩
  rw[MQ]
  exact QE p.states.length
 conv=>whnf
 refine⟨(sR rfl),rfl,?_⟩
 rintro i hi
 have hSl:=QH (f:=Ei p q) hi
 have hsl:=MS hp hq
 conv=>whnf
 refine⟨fun h1=>?_,fun h1=>?_⟩
 ·have hi':i<p.states.length:=by simpa using h1
  have hstep:=MR (f:=Ei p q) hi'
  conv=>whnf
  repeat(refine VC.mk (by simp only[Rw.rng,Int.toNat_natCast]; omega) ?_; conv=>whnf)
  refine ah.pure (S.slices_Contains_int (mY p q) i false (by omega)) rfl ?_
  conv=>whnf
  refine⟨fun h2=>?_,fun h2=>?_⟩
  ·have hn:Ei p q i=[0,1,2]:=by rw[Ei,h2]; rfl
   rw[hn] at hstep
   conv=>whnf
   repeat(refine VC.mk (by first|(simp only[List.length_set,Rw.Z9,Rw.len,Int.toNat_natCast]; omega)|(simp only[okI] at *; first|omega|(simp_all; done)|(simp_all; omega))) ?_; conv=>whnf)
   refine⟨i+1,[14],by omega,by omega,(sR rfl),(sR rfl),okS rfl nofun rfl rfl rfl ⟨rfl,rfl⟩ (vO ?_),trivial⟩
   rw[<- hstep]
   exact QF _ _ _ _
  ·have hn:Ei p q i=[0]:=by rw[Ei,h2]; rfl
   rw[hn] at hstep
   conv=>whnf
   refine .mk (by simp only[okI] at *; first|omega|(simp_all; done)|(simp_all; omega)) ?_
   conv=>whnf
   refine⟨i+1,[14],by omega,by omega,(sR rfl),(sR rfl),okS rfl nofun rfl rfl rfl ⟨rfl,rfl⟩ (vO ?_),trivial⟩
   rw[<- hstep]
   exact OJ _ _ _
 ·have hi':i=p.states.length:=by
   have: ¬ i<p.states.length:=by simpa using h1
   omega
  subst hi'
  rw[QG]
  conv=>whnf
  refine ah.Z7 (args':=[.int 0,.row 0 false (.iG (AU p q))]) (h2:=[]) (fun i=>i=14) trivial ⟨aF _,UG rfl rfl,trivial⟩ (S.oM 0 (AU p q) false (by simp[AU]; omega) (vC (QI p q) _)) ?_
  conv=>whnf
  have h6:(AU p q).length<=6:=by simp[AU]; omega
  have hcl:=OL (v:=0) (vC (QI p q) p.states.length) h6
  refine ah.Z4 rfl rfl (Nat.lt_of_le_of_lt hcl (by decide)) (X4 h6) ?_ (fun m=>?_)
  ·conv=>whnf
   exact ak.X5 rfl
  ·conv=>whnf
   exact ak.aeR rfl
theorem Ih{a b:List Int}{j:Nat}(h:j<a.length):(a++b).getD j 0=a.getD j 0:=by
 simp[List.getD_eq_getElem?_getD,List.getElem?_append_left h]
theorem QJ{a:List Int}{n:Int}:(a++[n]).getD a.length 0=n:=by
 simp[List.getD_eq_getElem?_getD]
theorem Wx{N:List (List Int)}: ∀ {i:Nat} {c:List Int},c∈qX N i↔c.length=i/\ ∀ j,j<i->c.getD j 0∈N.getD j []:=by
 intro i
 induction i with
 |zero =>
  intro c
  simp only[qX,List.mem_singleton]
  constructor
  ·rintro rfl; exact⟨rfl,fun j hj=>by omega⟩
  ·rintro⟨h,_⟩; exact List.eq_nil_of_length_eq_zero h
 |succ i ih =>
  intro c
  simp only[qX,List.mem_flatMap,List.mem_map]
  constructor
  ·rintro⟨x,hx,n,hn,rfl⟩
   obtain⟨h1,h2⟩:=ih.1 hx
   refine⟨by rw[List.length_append,h1]; rfl,fun j hj=>?_⟩
   by_cases e:j=i
   ·subst e; rw[<- h1,QJ,h1]; exact hn
   ·rw[Ih (by omega)]; exact h2 j (by omega)
  ·rintro⟨h1,h2⟩
   have hne:c≠[]:=by intro e; rw[e] at h1; cases h1
   have hc:c=c.dropLast++[c.getD i 0]:=by
    have e1:=(List.dropLast_concat_getLast hne).symm
    have e2:c.getLast hne=c.getD i 0:=by
     rw[List.getLast_eq_getElem,List.getD_eq_getElem?_getD,List.getElem?_eq_getElem (by omega),Option.getD_some]
     congr 1; omega
    rw[e2] at e1; exact e1
   have hl:c.dropLast.length=i:=by rw[List.length_dropLast]; omega
   refine⟨c.dropLast,ih.2 ⟨hl,fun j hj=>?_⟩,c.getD i 0,h2 i (by omega),hc.symm⟩
   have:=h2 j (by omega)
   rw[hc,Ih (by omega)] at this
   exact this
def DL(c:List Int)(x:Nat):List Int:=bif c.getD x 0==2 then [2,3,4] else [c.getD x 0]
def iJ(c:List Int):List (List Int):=(List.range c.length).map (DL c)
theorem QK(c:List Int)(i:Nat):(DL c i).length<=3:=by
 unfold DL; cases c.getD i 0==2<;>simp
theorem MV{c:List Int}{j:Nat}(hj:j<c.length):(iJ c).getD j []=DL c j:=by
 unfold iJ
 simp[List.getD_eq_getElem?_getD,hj]
theorem kM(c:List Int):(iJ c).length=c.length:=by simp[iJ]
theorem yO{c:List Int}(_hc:EZ c){d:List Int}:d∈qX (iJ c) c.length↔d.length=c.length/\ ∀ j,j<c.length->d.getD j 0∈DL c j:=by
 rw[Wx]
 constructor
 ·rintro⟨h1,h2⟩; exact⟨h1,fun j hj=>by rw[<- MV hj]; exact h2 j hj⟩
 ·rintro⟨h1,h2⟩; exact⟨h1,fun j hj=>by rw[MV hj]; exact h2 j hj⟩
theorem yP{c:List Int}{j:Nat}{x:Int}(h:x∈DL c j):x=c.getD j 0\/(c.getD j 0=2/\(x=3\/x=4)):=by
 unfold DL at h
 cases hb:(c.getD j 0==2) with
 |true =>
  rw[hb] at h
  have h2:c.getD j 0=2:=by simpa using hb
  simp at h
  omega
 |false=>rw[hb] at h; simp at h; left; simpa using h
theorem aeS{d:List Int}(h: ∀ j,j<d.length->0<=d.getD j 0/\d.getD j 0<=1048576):EZ d:=fun x hx=>by
 obtain⟨j,hj,e⟩:=List.mem_iff_getElem.1 hx
 have:=h j hj
 rw[List.getD_eq_getElem?_getD,List.getElem?_eq_getElem hj,Option.getD_some,e] at this
 exact this
theorem OM{c d:List Int}(hc:EZ c)(h:d∈qX (iJ c) c.length):EZ d:=by
 obtain⟨h1,h2⟩:=(yO hc).1 h
 refine aeS fun j hj=>?_
 have a:=yP (h2 j (by omega))
 have b:=hc.get (show j<c.length by omega)
 omega
def yQ(r:Rule)(e:Elem):Option Elem:=(eP r e).map Qq
def lK(r:Rule)(l:List Elem):List Elem:=l.filterMap (yQ r)
def gy(r:Rule)(a:Elem):List Elem:=uy (lK r (lZ a.value (iJ a.counts)))
theorem JF{r:Rule}{l:List Elem}{j:Nat}(hj:j<l.length):lK r (l.take (j+1))=lK r (l.take j)++(yQ r (l.getD j default)).toList:=by
 unfold lK
 have ht:l.take (j+1)=l.take j++[l.getD j default]:=by rw[List.take_add_one]; simp[hj]
 rw[ht,List.filterMap_append]
 simp only[List.filterMap_cons,List.filterMap_nil]
 cases yQ r (l.getD j default)<;>rfl
theorem Di{r:Rule}{l:List Elem}:(lK r l).length<=l.length:=List.length_filterMap_le _ _
theorem GX{r:Rule}{l:List Elem}{x:Elem}(h:x∈lK r l): ∃ e∈l,∃ y,eP r e=some y/\x=Qq y:=by
 obtain⟨e,he,h⟩:=List.mem_filterMap.1 h
 unfold yQ at h
 obtain⟨y,hy,rfl⟩:=Option.map_eq_some_iff.1 h
 exact⟨e,he,y,hy,rfl⟩
theorem Bv{r:Rule}{l:List Elem}{n:Nat}(hl: ∀ e∈l,e.counts.length=n){x:Elem}(h:x∈lK r l):x.counts.length=n:=by
 obtain⟨e,he,y,hy,rfl⟩:=GX h
 show(qW y.counts).length=n
 rw[qW,List.length_map,yM hy,hl e he]
set_option maxHeartbeats 1000000 in
theorem S.sZ(r:Rule)(a:Elem)(hr:yw r)(hp:sW a.counts.length r)(hc:EZ a.counts)(h0:0<a.counts.length)(hl:a.counts.length<=6):aj Tryz.prog 48 [.dat (.rule r),.dat (.elem a)] (.row 3 false (.elems (gy r a))):=by
 refine aj.of Bd.sZ (by simp) rfl rfl ?_
 conv=>whnf
 rw[yN h0]
 conv=>whnf
 refine .mk (by omega) ?_
 conv=>whnf
 refine aB.agz 5 4 4 (.agg [.int 2,.int 3,.int 4]) rfl rfl rfl rfl (by decide) ?_
 refine aB.nD 15 [2,3,5,20,21] (fun i:Nat=>[(22,.int i),(6,.own 9)]) (fun i=>[(0,.box 85 19 (.dat (.rule r))),(1,.box 54 3 (.dat (.elem a))),(9,jB (JE (DL a.counts) a.counts.length i))]) (fun i=>i<=a.counts.length) (fun i=>a.counts.length-i) 0 [0,1,9] rfl (by decide) (fun _=>rfl) (Nat.zero_le _) ?_ ?_ ?_
 ·exact(sR rfl)
 ·refine⟨aT rfl rfl,aT rfl rfl,okS rfl nofun rfl rfl rfl ⟨rfl,rfl⟩ (vO ?_),trivial⟩
  rw[MQ]
  exact QE a.counts.length
 conv=>whnf
 refine⟨(sR rfl),rfl,?_⟩
 rintro i hi
 have hSl:=QH (f:=DL a.counts) hi
 conv=>whnf
 refine⟨fun h1=>?_,fun h1=>?_⟩
 ·have hi':i<a.counts.length:=by simpa using h1
  have hstep:=MR (f:=DL a.counts) hi'
  conv=>whnf
  repeat(refine VC.mk (by simp only[Rw.rng,Int.toNat_natCast]; omega) ?_; conv=>whnf)
  refine⟨fun h2=>?_,fun h2=>?_⟩
  ·have hn:DL a.counts i=[2,3,4]:=by rw[DL,show(a.counts.getD i 0==2)=true from h2]; rfl
   rw[hn] at hstep
   conv=>whnf
   repeat(refine VC.mk (by first|(simp only[List.length_set,Rw.Z9,Rw.len,Int.toNat_natCast]; omega)|(simp only[okI] at *; first|omega|(simp_all; done)|(simp_all; omega))) ?_; conv=>whnf)
   refine⟨i+1,[0,1,9],by omega,by omega,(sR rfl),(sR rfl),aT rfl rfl,aT rfl rfl,okS rfl nofun rfl rfl rfl ⟨rfl,rfl⟩ (vO ?_),trivial⟩
   rw[<- hstep]
   exact QF _ _ _ _
  ·have hn:DL a.counts i=[a.counts.getD i 0]:=by rw[DL,show(a.counts.getD i 0==2)=false from h2]; rfl
   rw[hn] at hstep
   conv=>whnf
   refine .mk (by simp only[okI] at *; first|omega|(simp_all; done)|(simp_all; omega)) ?_
   conv=>whnf
   refine⟨i+1,[0,1,9],by omega,by omega,(sR rfl),(sR rfl),aT rfl rfl,aT rfl rfl,okS rfl nofun rfl rfl rfl ⟨rfl,rfl⟩ (vO ?_),trivial⟩
   rw[<- hstep]
   exact OJ _ _ _
 ·have hi':i=a.counts.length:=by
   have: ¬ i<a.counts.length:=by simpa using h1
   omega
  subst hi'
  rw[QG]
  conv=>whnf
  have h6:(iJ a.counts).length<=6:=by rw[kM]; exact hl
  have hs3:=vC (QK a.counts) a.counts.length
  have hcl:(lZ a.value (iJ a.counts)).length<=729:=OL (v:=a.value) hs3 h6
  refine ah.Z7 (args':=[.int a.value,.row 0 false (.iG (iJ a.counts))]) (h2:=[(0,some (.box 85 19 (.dat (.rule r)))),(1,some (.box 54 3 (.dat (.elem a))))]) (fun i=>i=9) ⟨mg (Z:=fun i=>i=9) rfl (by decide),mg (Z:=fun i=>i=9) rfl (by decide),trivial⟩ ⟨aF _,UG rfl rfl,trivial⟩ (S.oM a.value (iJ a.counts) false h6 hs3) ?_
  conv=>whnf
  refine aB.nil 9 54 3 (by rfl) rfl rfl rfl ?_
  refine aB.nD 24 [2,42,43] (fun j:Nat=>[(44,.int j),(9,.own 23)]) (fun j=>[(0,.box 85 19 (.dat (.rule r))),(20,eH (lZ a.value (iJ a.counts))),(23,eH (lK r ((lZ a.value (iJ a.counts)).take j)))]) (fun j=>j<=(lZ a.value (iJ a.counts)).length) (fun j=>(lZ a.value (iJ a.counts)).length-j) 0 [0,20,23] rfl (by decide) (fun _=>rfl) (Nat.zero_le _) ?_ ?_ ?_
  ·exact(sR rfl)
  ·exact⟨aT rfl rfl,aT rfl rfl,aT rfl rfl,trivial⟩
  conv=>whnf
  refine⟨(sR rfl),rfl,?_⟩
  rintro j hj
  have hkl:=Di (r:=r) (l:=(lZ a.value (iJ a.counts)).take j)
  rw[List.length_take] at hkl
  conv=>whnf
  refine⟨fun h2=>?_,fun h2=>?_⟩
  ·have hj':j<(lZ a.value (iJ a.counts)).length:=by simpa using h2
   have hstep:=JF (r:=r) hj'
   have hmem:(lZ a.value (iJ a.counts)).getD j default∈lZ a.value (iJ a.counts):=bZ hj'
   obtain⟨_,g1,g2,_⟩:=Dh hmem
   rw[kM] at g1 g2
   conv=>whnf
   repeat(refine VC.mk (by simp only[Rw.rng] at *; first|omega|(simp_all; done)|(simp_all; omega)) ?_; conv=>whnf)
   refine ah.pure (aj.JG (S.vM r ((lZ a.value (iJ a.counts)).getD j default) hr (by rw[g1]; exact hp) (OM hc g2) (by omega))) rfl ?_
   conv=>whnf
   refine⟨fun h3=>?_,fun h3=>?_⟩
   ·obtain⟨x,hx⟩:=Option.isSome_iff_exists.1 h3
    replace hx:eP r ((lZ a.value (iJ a.counts)).getD j default)=some x:=hx
    have hxl:=yM hx
    rw[yQ,hx] at hstep
    rw[show eP r ((lZ a.value (iJ a.counts)).getD (j:Int).toNat default)=some x from hx]
    conv=>whnf
    refine ah.pure (S.pJ x (by rw[hxl]; omega) (by rw[hxl]; omega)) rfl ?_
    conv=>whnf
    repeat(refine VC.mk (by first|(show((lK r ((lZ a.value (iJ a.counts)).take j)).length+(0+1))*32<=140737488355328/\(lK r ((lZ a.value (iJ a.counts)).take j)).length+(0+1)<=1152921504606846976; omega)|(simp only[okI] at *; first|omega|(simp_all; done)|(simp_all; omega))) ?_; conv=>whnf)
    refine⟨j+1,[0,20,43],by omega,by omega,(sR rfl),(sR rfl),aT rfl rfl,aT rfl rfl,okF rfl nofun rfl rfl rfl ⟨rfl,rfl⟩ ?_,trivial⟩
    rw[hstep]
    show List.map fD (lK r ((lZ a.value (iJ a.counts)).take j)++[Qq x])++[]=List.map fD (lK r ((lZ a.value (iJ a.counts)).take j))++[fD (Qq x)]
    simp
   ·replace h3:(eP r ((lZ a.value (iJ a.counts)).getD j default)).isSome=false:=h3
    rw[Option.isSome_eq_false_iff,Option.isNone_iff_eq_none] at h3
    rw[yQ,h3] at hstep
    conv=>whnf
    refine .mk (by simp only[okI] at *; first|omega|(simp_all; done)|(simp_all; omega)) ?_
    conv=>whnf
    refine⟨j+1,[0,20,23],by omega,by omega,(sR rfl),(sR rfl),aT rfl rfl,aT rfl rfl,okF rfl nofun rfl rfl rfl ⟨rfl,rfl⟩ (by rw[hstep]; simp),trivial⟩
  ·have hj':(lZ a.value (iJ a.counts)).length<=j:=by simpa using h2
   rw[List.take_of_length_le hj']
   conv=>whnf
   have hsm:eF (lK r (lZ a.value (iJ a.counts))):=fun x hx=>by
    rw[Bv (n:=a.counts.length) (fun e he=>by rw[(Dh he).2.1,kM]) hx]; omega
   have hpl:=Di (r:=r) (l:=lZ a.value (iJ a.counts))
   refine ah.Z4 rfl rfl (Nat.lt_of_le_of_lt hpl (Nat.lt_of_le_of_lt hcl (by decide))) hsm ?_ (fun m=>?_)
   ·conv=>whnf
    exact ak.X5 rfl
   ·conv=>whnf
    exact ak.aeR rfl
def allM(m:Nat):Nat->List (List Int)
 |0=>[[]]
 |n+1=>(List.range (m+1)).flatMap fun(k:Nat)=>(allM m n).map fun c=>(k:Int)::c
def jL(m n j:Nat):List (List Int):=(allM m (n-j)).map fun c=>List.replicate j 0++c
def xU(m n j k:Nat):List (List Int):=(List.range k).flatMap fun(k:Nat)=>(jL m n (j+1)).map fun c=>c.set j (k:Int)
theorem JH{m n j k:Nat}:xU m n j (k+1)=xU m n j k++(jL m n (j+1)).map fun c=>c.set j (k:Int):=by
 unfold xU
 rw[List.range_succ,List.flatMap_append]; simp
theorem pU{m:Nat}: ∀ {n:Nat},(allM m n).length=(m+1)^n:=by
 intro n
 induction n with
 |zero=>rfl
 |succ n ih =>
  unfold allM
  rw[List.length_flatMap]
  have:(List.range (m+1)).map (fun(a:Nat)=>((allM m n).map fun c=>(a:Int)::c).length)=List.replicate (m+1) ((m+1)^n):=by
   rw[List.eq_replicate_iff]
   refine⟨by simp,fun b hb=>?_⟩
   obtain⟨a,_,rfl⟩:=List.mem_map.1 hb
   rw[List.length_map,ih]
  rw[this,List.sum_replicate_nat,Nat.pow_succ,Nat.mul_comm]
theorem wJ{m:Nat}: ∀ {n:Nat} {c:List Int},c∈allM m n↔c.length=n/\ ∀ x∈c,0<=x/\x<=m:=by
 intro n
 induction n with
 |zero =>
  intro c
  simp only[allM,List.mem_singleton]
  constructor
  ·rintro rfl; exact⟨rfl,fun x hx=>by cases hx⟩
  ·rintro⟨h,_⟩; exact List.eq_nil_of_length_eq_zero h
 |succ n ih =>
  intro c
  simp only[allM,List.mem_flatMap,List.mem_range,List.mem_map]
  constructor
  ·rintro⟨k,hk,d,hd,rfl⟩
   obtain⟨h1,h2⟩:=ih.1 hd
   refine⟨by rw[List.length_cons,h1],fun x hx=>?_⟩
   rcases List.mem_cons.1 hx with rfl|hx
   ·omega
   ·exact h2 x hx
  ·rintro⟨h1,h2⟩
   cases c with
   |nil=>cases h1
   |cons x d =>
    have hx:=h2 x (by simp)
    refine⟨x.toNat,by omega,d,ih.2 ⟨by simpa using h1,fun y hy=>h2 y (by simp[hy])⟩,?_⟩
    rw[Int.toNat_of_nonneg hx.1]
theorem MW{m n j:Nat}(hn:n<=6)(hm:m<=3):(jL m n j).length<=4096:=by
 unfold jL
 rw[List.length_map,pU]
 have h1:(m+1)^(n-j)<=4^(n-j):=Nat.pow_le_pow_left (by omega) _
 have h2:4^(n-j)<=4^6:=Nat.pow_le_pow_right (by decide) (by omega)
 have h3:4^6=4096:=by decide
 omega
theorem X6{m n j k:Nat}(hn:n<=6)(hm:m<=3):(xU m n j k).length<=k*4096:=by
 induction k with
 |zero=>simp[xU]
 |succ k ih =>
  rw[JH,List.length_append,List.length_map,Nat.succ_mul]
  have:=@MW m n (j+1) hn hm
  omega
theorem acI{j:Nat}{k:Int}{c:List Int}:(List.replicate (j+1) (0:Int)++c).set j k=List.replicate j 0++(k::c):=by
 rw[List.replicate_succ',List.append_assoc,List.set_append_right _ _ (by simp)]
 simp
theorem UK{m n j:Nat}(hj:j<n):xU m n j (m+1)=jL m n j:=by
 have e:n-j=(n-(j+1))+1:=by omega
 unfold xU jL
 rw[e,allM,List.map_flatMap]
 refine congrArg List.flatten (List.map_congr_left fun k _=>?_)
 rw[List.map_map,List.map_map]
 exact List.map_congr_left fun c _=>acI
theorem X7{m n:Nat}:jL m n 0=allM m n:=by simp[jL]
theorem X8{m n j:Nat}(hj:j<=n){c:List Int}(h:c∈jL m n j):c.length=n:=by
 obtain⟨d,hd,rfl⟩:=List.mem_map.1 h
 have:=(wJ.1 hd).1
 rw[List.length_append,List.length_replicate,this]; omega
set_option maxHeartbeats 1000000 in
theorem S.QL(m n:Nat)(hn0:0<n)(hn6:n<=6)(hm3:m<=3):aj Tryz.prog 40 [.int n,.int m] (.row 0 false (.iG (allM m n))):=by
 refine aj.of Bd.OO (by simp) rfl rfl ?_
 conv=>whnf
 have hmk:=Bo (n:=n) hn0
 rw[hmk]
 conv=>whnf
 repeat(refine VC.mk (by first|(omega)|(simp only[okI] at *; first|omega|(simp_all; done)|(simp_all; omega))) ?_; conv=>whnf)
 refine aB.Wu 1 [0,1] (fun j:Nat=>[(6,.int ((j:Int)-1)),(5,.own 0)]) (fun j=>[(0,jB (jL m n j))]) (fun j=>j<=n) (fun j=>j) n [3] [(3,some (jB ([]++[List.replicate n 0])))] rfl (by decide) (fun _=>rfl) (Nat.le_refl _) ?_ ?_ ?_ ?_
 ·exact(sR rfl)
 ·exact⟨fun i=>i=2,GU (Z:=fun i=>i=2) (i:=3) (j:=2) rfl rfl (by decide) rfl rfl,trivial⟩
 ·exact⟨okF rfl nofun rfl rfl rfl ⟨rfl,rfl⟩ (by simp[jL,allM]),trivial⟩
 conv=>whnf
 refine⟨(sR rfl),rfl,?_⟩
 rintro j hj
 conv=>whnf
 refine⟨fun h3=>?_,fun h3=>?_⟩
 ·obtain⟨j,rfl⟩: ∃ i,j=i+1:=⟨j-1,by have:=of_decide_eq_true h3; omega⟩
  have ej:(((j+1:Nat):Int)-1)=(j:Int):=by omega
  rw[ej]
  conv=>whnf
  refine aB.nil 7 24 0 (by rfl) rfl rfl rfl ?_
  refine aB.objs 2 [0,1,5,6] (fun k:Nat=>[(8,.int k),(7,.own 1)]) (fun k=>[(0,jB (jL m n (j+1))),(1,jB (xU m n j k))]) (fun k=>k<=m+1) (fun k=>m+1-k) 0 [0,5] rfl (by decide) (fun _=>rfl) (Nat.zero_le _) ?_ ?_ ?_
  ·exact(sR rfl)
  ·exact⟨⟨rfl,nofun,rfl,rfl,rfl,_,rfl,rfl,rfl,bD.of_eq rfl⟩,⟨rfl,nofun,rfl,rfl,rfl,_,rfl,rfl,rfl,bD.of_eq rfl⟩,trivial⟩
  conv=>whnf
  refine⟨(sR rfl),rfl,?_⟩
  rintro k hk
  have hkl:=@X6 m n j k hn6 hm3
  have hol:=@MW m n (j+1) hn6 hm3
  conv=>whnf
  refine⟨fun h4=>?_,fun h4=>?_⟩
  ·have hk3:k<=m:=by have:=of_decide_eq_true h4; omega
   conv=>whnf
   refine aB.Wu 2 [0,1,5,6,8] (fun i:Nat=>[(9,.int i),(7,.own 1)]) (fun i=>[(0,jB (jL m n (j+1))),(1,jB (xU m n j k++((jL m n (j+1)).take i).map fun c=>c.set j (k:Int)))]) (fun i=>i<=(jL m n (j+1)).length) (fun i=>(jL m n (j+1)).length-i) 0 [0,1] [(0,some (jB (jL m n (j+1)))),(1,some (jB (xU m n j k)))] rfl (by decide) (fun _=>rfl) (Nat.zero_le _) ?_ ?_ ?_ ?_
   ·exact(sR rfl)
   ·exact⟨fun _=>False,mg (Z:=fun _=>False) rfl (fun q=>q),mg (Z:=fun _=>False) rfl (fun q=>q),trivial⟩
   ·exact⟨aT rfl rfl,okF rfl nofun rfl rfl rfl ⟨rfl,rfl⟩ (by simp),trivial⟩
   conv=>whnf
   refine⟨(sR rfl),rfl,?_⟩
   rintro i hi
   have hal:(xU m n j k++((jL m n (j+1)).take i).map fun c=>c.set j (k:Int)).length<=6*4096:=by
    rw[List.length_append,List.length_map,List.length_take]; omega
   conv=>whnf
   refine⟨fun h5=>?_,fun h5=>?_⟩
   ·have hi':i<(jL m n (j+1)).length:=by simpa using h5
    have hcl:((jL m n (j+1)).getD i []).length=n:=X8 hj (bZ hi')
    conv=>whnf
    repeat(refine VC.mk (by first|(first|(simp only[nG,nY,Rw.len,Int.toNat_natCast,hcl]; omega)|(simp only[Rw.rng,Int.toNat_natCast,hcl]; omega)|(show((xU m n j k++((jL m n (j+1)).take i).map fun c=>c.set j (k:Int)).length+(0+1))*24<=140737488355328/\(xU m n j k++((jL m n (j+1)).take i).map fun c=>c.set j (k:Int)).length+(0+1)<=1152921504606846976; omega))|(simp only[okI] at *; first|omega|(simp_all; done)|(simp_all; omega))) ?_; conv=>whnf)
    refine⟨[(0,some (jB (jL m n (j+1)))),(21,some (jB ((xU m n j k++((jL m n (j+1)).take i).map fun c=>c.set j (k:Int))++[((jL m n (j+1)).getD i []).set j (k:Int)])))],i+1,[0,21],⟨fun i=>i=11,mg (Z:=fun i=>i=11) (i:=0) rfl (by decide),GU (Z:=fun i=>i=11) (i:=21) (j:=11) rfl rfl (by decide) rfl rfl,trivial⟩,by omega,by omega,(sR rfl),(sR rfl),aT rfl rfl,okF rfl nofun rfl rfl rfl ⟨rfl,rfl⟩ ?_,trivial⟩
    have ht:(jL m n (j+1)).take (i+1)=(jL m n (j+1)).take i++[(jL m n (j+1)).getD i []]:=by rw[List.take_add_one]; simp[hi']
    rw[ht,List.map_append,<- List.append_assoc]; rfl
   ·have hi':i=(jL m n (j+1)).length:=by
     have: ¬ ((i:Int)<((jL m n (j+1)).length:Int)):=of_decide_eq_false h5
     omega
    subst hi'
    rw[List.take_length,<- JH]
    conv=>whnf
    refine .mk (by first|(simp only[okI]; omega)|omega) ?_
    conv=>whnf
    refine⟨k+1,[0,1],by omega,by omega,(sR rfl),(sR rfl),⟨rfl,nofun,rfl,rfl,rfl,_,rfl,rfl,rfl,bD.of_eq rfl⟩,⟨rfl,nofun,rfl,rfl,rfl,_,rfl,rfl,rfl,bD.of_eq rfl⟩,trivial⟩
  ·have hk4:k=m+1:=by have:=of_decide_eq_false h4; omega
   subst hk4
   rw[UK (by omega)]
   conv=>whnf
   refine .mk (by first|(simp only[okI]; omega)|omega) ?_
   conv=>whnf
   refine⟨[(1,some (jB (jL m n j)))],j,[1],⟨fun _=>False,mg (Z:=fun _=>False) rfl (fun q=>q),trivial⟩,by omega,by omega,(sR rfl),(sR rfl),aT rfl rfl,trivial⟩
 ·have hj0:j=0:=by have:=of_decide_eq_false h3; omega
  subst hj0
  rw[X7]
  conv=>whnf
  exact ak.agy rfl
theorem S.JI(l:List Int)(s:Int)(f:Bool)(hl:l.length<2^40):aj Tryz.prog 118 [.row 0 f (.ints l),.int s] (.bool (Ef l s)):=by
 refine aj.of Bd.JI (by simp) rfl rfl ?_
 conv=>whnf
 refine aB.same [0,1] (fun i:Nat=>[(5,.int i)]) (fun i=>i<=l.length/\(l.take i).any (fun x=>s==x)=false) (fun i=>l.length-i) 0 rfl (by decide) rfl (fun _=>rfl) ⟨by omega,by simp⟩ ⟨⟨_,rfl,rfl⟩,trivial⟩ ?_
 conv=>whnf
 refine⟨rfl,?_⟩
 rintro i ⟨hi,hall⟩
 conv=>whnf
 refine⟨fun h3=>?_,fun h3=>?_⟩
 ·have hi':i<l.length:=by simpa using h3
  conv=>whnf
  refine .mk (by simp only[Rw.rng] at *; first|omega|(simp_all; done)|(simp_all; omega)) ?_
  conv=>whnf
  refine⟨fun h4=>?_,fun h4=>?_⟩
  ·have h4':(s==l.getD i 0)=true:=by rw[show(s==l.getD i 0)=(l.getD i 0==s) from Bool.beq_comm]; exact h4
   conv=>whnf
   exact ak.bool (iU (d:=0) hi' h4')
  ·have h4':(s==l.getD i 0)=false:=by rw[show(s==l.getD i 0)=(l.getD i 0==s) from Bool.beq_comm]; exact h4
   conv=>whnf
   refine .mk (by simp only[okI] at *; first|omega|(simp_all; done)|(simp_all; omega)) ?_
   conv=>whnf
   refine⟨i+1,⟨by omega,?_⟩,by omega,⟨⟨_,rfl,rfl⟩,trivial⟩,?_,rfl⟩
   ·rw[kN (d:=0) hi' hall]; exact h4'
   ·repeat' (first|exact trivial|exact⟨_,rfl,rfl⟩|constructor)
 ·have hi':l.length<=i:=by simpa using h3
  rw[List.take_of_length_le hi'] at hall
  conv=>whnf
  exact ak.bool hall
theorem S.tq(l c:List Int)(f g:Bool)(hl:l.length<2^40)(hc:c.length<2^40):aj Tryz.prog 85 [.row 0 f (.ints l),.row 0 g (.ints c)] (.bool (!(Bz c l))):=by
 refine aj.of Bd.tq (by simp) rfl rfl ?_
 conv=>whnf
 refine aB.same [0,1] (fun i:Nat=>[(5,.int i)]) (fun i=>i<=c.length/\(List.range i).any (fun i=>decide (c.getD i 0>0)&& !(Ef l i))=false) (fun i=>c.length-i) 0 rfl (by decide) rfl (fun _=>rfl) ⟨by omega,by simp⟩ ⟨⟨_,rfl,rfl⟩,trivial⟩ ?_
 conv=>whnf
 refine⟨rfl,?_⟩
 rintro i ⟨hi,hall⟩
 conv=>whnf
 refine⟨fun h3=>?_,fun h3=>?_⟩
 ·have hi':i<c.length:=by simpa using h3
  conv=>whnf
  repeat(refine VC.mk (by first|exact fun h=>⟨h,h⟩|(simp only[Rw.rng] at *; first|omega|(simp_all; done)|(simp_all; omega))) ?_; conv=>whnf)
  refine ah.dM (fun _=>S.JI l i f hl) rfl ?_
  conv=>whnf
  repeat(refine VC.mk id ?_; conv=>whnf)
  refine⟨fun h4=>?_,fun h4=>?_⟩
  ·conv=>whnf
   exact ak.bool (by rw[show Bz c l=true from oO.2 ⟨i,hi',h4⟩]; rfl)
  ·conv=>whnf
   refine .mk (by simp only[okI] at *; first|omega|(simp_all; done)|(simp_all; omega)) ?_
   conv=>whnf
   refine⟨i+1,⟨by omega,?_⟩,by omega,⟨⟨_,rfl,rfl⟩,trivial⟩,?_,rfl⟩
   ·rw[List.range_succ,List.any_append,hall]
    simp only[List.any_cons,List.any_nil,Bool.or_false,Bool.false_or]; exact h4
   ·repeat' (first|exact trivial|exact⟨_,rfl,rfl⟩|constructor)
 ·have hi':c.length<=i:=by simpa using h3
  have e:i=c.length:=Nat.le_antisymm hi hi'
  subst e
  conv=>whnf
  exact ak.bool (by rw[show Bz c l=false from hall]; rfl)
def QM(p:aC)(q:Prop')(c:List Int):Bool:=decide (0<xM ⟨0,c⟩)&& !(Bz c (mY p q))
def initK(p:aC)(q:Prop')(l:List (List Int)):List Elem:=(l.filter (QM p q)).map fun c=>(⟨0,c⟩:Elem)
def nH(p:aC)(q:Prop'):List Elem:=initK p q (allM 2 p.states.length)
theorem UL{p:aC}{q:Prop'}{l:List (List Int)}{a:Nat}(ha:a<l.length):initK p q (l.take (a+1))=initK p q (l.take a)++(if QM p q (l.getD a [])=true then [⟨0,l.getD a []⟩] else []):=by
 unfold initK
 have ht:l.take (a+1)=l.take a++[l.getD a []]:=by rw[List.take_add_one]; simp[ha]
 rw[ht,List.filter_append,List.map_append]
 by_cases h:QM p q (l.getD a [])=true
 ·rw[if_pos h]; simp only[List.filter_cons,h,if_true,List.filter_nil,List.map_cons,List.map_nil]
 ·rw[if_neg h]; simp only[List.filter_cons,h,Bool.false_eq_true,if_false,List.filter_nil,List.map_nil]
theorem X9{p:aC}{q:Prop'}{l:List (List Int)}:(initK p q l).length<=l.length:=by
 unfold initK; rw[List.length_map]; exact List.length_filter_le _ _
theorem Fg{x y:Int}{a b:List Int}(h:x<y\/(x=y/\cmpL a b<0)):cmpL (x::a) (y::b)<0:=by
 rw[cmpL]
 rcases h with h|⟨rfl,h⟩
 ·rw[if_pos h]; decide
 ·rw[if_neg (Int.lt_irrefl _),if_neg (Int.lt_irrefl _)]; exact h
theorem Ya{R:List Int->List Int->Prop}{f:Nat->List (List Int)}: ∀ {n:Nat},(∀ k,k<n->(f k).Pairwise R)->(∀ j k,j<k->k<n-> ∀ a∈f j,∀ b∈f k,R a b)->((List.range n).flatMap f).Pairwise R:=by
 intro n
 induction n with
 |zero=>intro _ _; exact List.Pairwise.nil
 |succ n ih =>
  intro h1 h2
  rw[List.range_succ,List.flatMap_append,List.pairwise_append]
  refine⟨ih (fun k hk=>h1 k (by omega)) (fun j k a b=>h2 j k a (by omega)),by simpa using h1 n (by omega),fun a ha b hb=>?_⟩
  obtain⟨j,hj,ha⟩:=List.mem_flatMap.1 ha
  have hb':b∈f n:=by simpa using hb
  exact h2 j n (List.mem_range.1 hj) (by omega) a ha b hb'
theorem QN{m:Nat}: ∀ {n:Nat},(allM m n).Pairwise fun a b=>cmpL a b<0:=by
 intro n
 induction n with
 |zero=>exact List.pairwise_singleton _ _
 |succ n ih =>
  unfold allM
  refine Ya (fun k _=>?_) (fun j k hjk _ a ha b hb=>?_)
  ·rw[List.pairwise_map]
   exact ih.imp fun h=>Fg (.inr ⟨rfl,h⟩)
  ·obtain⟨c,_,rfl⟩:=List.mem_map.1 ha
   obtain⟨d,_,rfl⟩:=List.mem_map.1 hb
   exact Fg (.inl (by omega))
theorem aac(p:aC)(q:Prop'):SS (nH p q):=by
 unfold SS nH initK
 rw[List.pairwise_map]
 refine(QN.filter _).imp fun h=>?_
 unfold fE
 rw[if_neg (Int.lt_irrefl _),if_neg (Int.lt_irrefl _)]; exact h
theorem aeT{c l:List Int}:Bz c l=false↔ ∀ i,i<c.length->0<c.getD i 0->Ef l i=true:=by
 constructor
 ·intro h i hi hp
  cases hb:Ef l i with
  |true=>rfl
  |false =>
   have:Bz c l=true:=oO.2 ⟨i,hi,by rw[hb]; simpa using hp⟩
   rw[this] at h; cases h
 ·intro h
  cases hb:Bz c l with
  |false=>rfl
  |true =>
   obtain⟨i,hi,h2⟩:=oO.1 hb
   simp at h2
   rw[h i hi (by simpa using h2.1)] at h2; cases h2.2
theorem MX{p:aC}{q:Prop'}{j:Nat}(hj:j<p.states.length):(AU p q).getD j []=Ei p q j:=by
 unfold AU; simp[List.getD_eq_getElem?_getD,hj]
theorem aeU(p:aC)(q:Prop'):fiE p q=nH p q:=by
 refine GY (uz _) (aac p q) fun x=>?_
 rw[fiE,oP]
 have hN:(AU p q).length=p.states.length:=by simp[AU]
 have key: ∀ c:List Int,c∈qX (AU p q) (AU p q).length↔(c∈allM 2 p.states.length/\Bz c (mY p q)=false):=by
  intro c
  rw[Wx,hN,wJ,aeT]
  constructor
  ·rintro⟨h1,h2⟩
   have h3: ∀ j,j<p.states.length->c.getD j 0∈Ei p q j:=fun j hj=>by rw[<- MX hj]; exact h2 j hj
   refine⟨⟨h1,fun x hx=>?_⟩,fun i hi hp=>?_⟩
   ·obtain⟨j,hj,e⟩:=List.mem_iff_getElem.1 hx
    have:=h3 j (by omega)
    rw[List.getD_eq_getElem?_getD,List.getElem?_eq_getElem hj,Option.getD_some,e] at this
    unfold Ei at this
    cases hb:Ef (mY p q) j<;>rw[hb] at this<;>simp at this<;>omega
   ·have:=h3 i (by omega)
    unfold Ei at this
    cases hb:Ef (mY p q) i with
    |true=>rfl
    |false=>rw[hb] at this; simp at this; rw[List.getD_eq_getElem?_getD] at hp; omega
  ·rintro⟨⟨h1,h2⟩,h3⟩
   refine⟨h1,fun j hj=>?_⟩
   rw[MX hj]
   have hm:c.getD j 0∈c:=by
    rw[List.getD_eq_getElem?_getD,List.getElem?_eq_getElem (by omega)]; exact List.getElem_mem _
   have hr:=h2 _ hm
   have hs:=h3 j (by omega)
   unfold Ei
   cases hb:Ef (mY p q) j with
   |true=>simp only[cond_true,List.mem_cons,List.not_mem_nil,or_false]; omega
   |false =>
    simp only[cond_false,List.mem_singleton]
    by_cases h0:0<c.getD j 0
    ·rw[hs h0] at hb; cases hb
    ·omega
 unfold lZ Fb nH initK QM
 simp only[List.mem_filter,List.mem_map,Bool.and_eq_true,decide_eq_true_eq,Bool.not_eq_true']
 constructor
 ·rintro⟨⟨c,hc,rfl⟩,ht⟩
  have:=(key c).1 hc
  exact⟨c,⟨this.1,ht,this.2⟩,rfl⟩
 ·rintro⟨c,⟨h1,h2,h3⟩,rfl⟩
  exact⟨⟨c,(key c).2 ⟨h1,h3⟩,rfl⟩,h2⟩
theorem JJ{p:aC}{q:Prop'}(h:vk p q=0):jr p q=0:=by
 unfold vk at h
 by_cases h0:jr p q=0
 ·exact h0
 ·rw[show(jr p q !=0)=true by simpa using h0] at h; exact absurd h h0
theorem uT{p:aC}{q:Prop'}(h:vk p q=0):AQ p=0:=by
 have h0:=JJ h
 unfold vk at h
 rw[h0] at h; exact h
theorem ahI{Z:Nat->Prop}{h:Hz}{j:Nat}{v:Int}{l:List Int}(hz:Z j)(q:h.get j=some (nN l)):T.sub Z h.au (fD ⟨v,l⟩) (.agg [.int v,.own j]):=by
 have:=xQ hz q
 show T.sub Z h.au (.agg [.int v,.sl 0 false (l.map T.int)]) (.agg [.int v,.own j])
 replace this:T.sub Z h.au (.sl 0 false (l.map T.int)) (.own j):=this
 simp only[T.sub] at this
 simp only[T.sub,T.dP]
 exact⟨trivial,this,trivial⟩
theorem aad{Z:Nat->Prop}{h:Hz}{i j:Nat}{l:List Elem}{e:Elem}(q:h.get i=some (.row 54 3 (.elems l) [.agg [.int e.value,.own j]]))(hi: ¬ Z i)(hz:Z j)(qj:h.get j=some (nN e.counts)) :
  ∃ o',h.get i=some o'/\ ¬ Z i/\o'.ay.ty=(eH (l++[e])).ay.ty/\o'.ay.k=(eH (l++[e])).ay.k/\T.dP Z h.au (eH (l++[e])).ay.l o'.ay.l/\(eH (l++[e])).ay.l.map T.kd=o'.ay.l.map T.kd/\(eH (l++[e])).ay.l.map fZ=o'.ay.l.map fZ:=by
 have e1:(eH (l++[e])).ay.l=l.map fD++[fD e]:=by simp[OV.ay,Rw.aS,V.aS]
 refine⟨_,q,hi,rfl,rfl,?_,?_,?_⟩
 ·rw[e1]
  exact nZ (aP _) ⟨ahI hz qj,trivial⟩
 ·rw[e1]; show _=List.map T.kd (l.map fD++[.agg [.int e.value,.own j]])
  rw[List.map_append,List.map_append]; rfl
 ·rw[e1]; show _=List.map fZ (l.map fD++[.agg [.int e.value,.own j]])
  rw[List.map_append,List.map_append]; rfl
def gq(c:List Int):Nat->List (List Int)
 |0=>[c]
 |x+1=>if c.getD x 0<2 then gq c x else gq c x++(gq c x).flatMap fun d=>[d.set x 3,d.set x 4]
def GZ(c:List Int)(x i:Nat):List (List Int):=gq c x++((gq c x).take i).flatMap fun d=>[d.set x 3,d.set x 4]
def BA(c:List Int)(x i b:Nat):List (List Int):=GZ c x i++((List.range b).map fun(k:Nat)=>((gq c x).getD i []).set x (3+(k:Int)))
def jM(a:Elem)(l:List (List Int)):List Elem:=l.map fun d=>(⟨a.value,d⟩:Elem)
theorem Yb{c:List Int}{x i:Nat}(hi:i<(gq c x).length):GZ c x (i+1)=BA c x i 2:=by
 unfold GZ BA GZ
 have ht:(gq c x).take (i+1)=(gq c x).take i++[(gq c x).getD i []]:=by rw[List.take_add_one]; simp[hi]
 rw[ht,List.flatMap_append,<- List.append_assoc]; rfl
theorem aae{c:List Int}{x:Nat}(h: ¬ c.getD x 0<2):GZ c x (gq c x).length=gq c (x+1):=by
 unfold GZ; rw[List.take_length,gq,if_neg h]
theorem Yc{c:List Int}{x i b:Nat}:BA c x i (b+1)=BA c x i b++[((gq c x).getD i []).set x (3+(b:Int))]:=by
 unfold BA
 rw[List.range_succ,List.map_append,<- List.append_assoc]; rfl
theorem QO{c:List Int}: ∀ {x:Nat},(gq c x).length<=3^x:=by
 intro x
 induction x with
 |zero=>exact Nat.le_refl _
 |succ x ih =>
  rw[gq]
  split
  ·rw[Nat.pow_succ]; omega
  ·have:=Fa (l:=gq c x) (f:=fun d=>[d.set x 3,d.set x 4]) (k:=2) (fun _ _=>Nat.le_refl _)
   rw[List.length_append,Nat.pow_succ]; omega
theorem QS{c:List Int}: ∀ {x:Nat} {d:List Int},x<=c.length->(d∈gq c x↔d.length=c.length/\ ∀ j,j<c.length->d.getD j 0=c.getD j 0\/(j<x/\2<=c.getD j 0/\(d.getD j 0=3\/d.getD j 0=4))):=by
 intro x
 induction x with
 |zero =>
  intro d _
  simp only[gq,List.mem_singleton]
  constructor
  ·rintro rfl; exact⟨rfl,fun j _=>.inl rfl⟩
  ·rintro⟨h1,h2⟩
   refine List.ext_getElem h1 fun j g1 g2=>?_
   have:=h2 j g2
   rcases this with h|⟨h,_⟩
   ·rw[List.getD_eq_getElem?_getD,List.getD_eq_getElem?_getD,List.getElem?_eq_getElem g1,List.getElem?_eq_getElem g2] at h; exact h
   ·omega
 |succ x ih =>
  intro d hx
  have ih:=fun {d}=>@ih d (by omega)
  rw[gq]
  split
  ·rename_i h2
   rw[ih]
   constructor
   ·rintro⟨g1,g2⟩
    exact⟨g1,fun j hj=>(g2 j hj).imp id fun⟨a,b⟩=>⟨by omega,b⟩⟩
   ·rintro⟨g1,g2⟩
    refine⟨g1,fun j hj=>(g2 j hj).imp id fun⟨a,b,c'⟩=>⟨?_,b,c'⟩⟩
    by_cases e:j=x
    ·subst e; omega
    ·omega
  ·rename_i h2
   rw[List.mem_append,List.mem_flatMap]
   have hset: ∀ {d:List Int} {k:Int},d.length=c.length-> ∀ j,(d.set x k).getD j 0=if j=x then k else d.getD j 0:=fun hd j=>Jv (by omega)
   constructor
   ·rintro(h|⟨e,he,h⟩)
    ·obtain⟨g1,g2⟩:=ih.1 h
     exact⟨g1,fun j hj=>(g2 j hj).imp id fun⟨a,b⟩=>⟨by omega,b⟩⟩
    ·obtain⟨g1,g2⟩:=ih.1 he
     have h34: ∃ k:Int,(k=3\/k=4)/\d=e.set x k:=by
      simp only[List.mem_cons,List.not_mem_nil,or_false] at h
      rcases h with rfl|rfl
      ·exact⟨3,.inl rfl,rfl⟩
      ·exact⟨4,.inr rfl,rfl⟩
     obtain⟨k,hk,rfl⟩:=h34
     refine⟨by rw[List.length_set]; exact g1,fun j hj=>?_⟩
     rw[hset g1]
     by_cases ej:j=x
     ·subst ej; rw[if_pos rfl]; exact .inr ⟨by omega,by omega,hk⟩
     ·rw[if_neg ej]; exact(g2 j hj).imp id fun⟨a,b⟩=>⟨by omega,b⟩
   ·rintro⟨g1,g2⟩
    rcases g2 x (by omega) with hxx|⟨_,hx2,hxx⟩
    ·refine .inl (ih.2 ⟨g1,fun j hj=>?_⟩)
     by_cases ej:j=x
     ·subst ej; exact .inl hxx
     ·exact(g2 j hj).imp id fun⟨a,b⟩=>⟨by omega,b⟩
    ·refine .inr ⟨d.set x (c.getD x 0),ih.2 ⟨by rw[List.length_set]; exact g1,fun j hj=>?_⟩,?_⟩
     ·rw[hset g1]
      by_cases ej:j=x
      ·subst ej; rw[if_pos rfl]; exact .inl rfl
      ·rw[if_neg ej]; exact(g2 j hj).imp id fun⟨a,b⟩=>⟨by omega,b⟩
     ·have hd: ∀ k:Int,d.getD x 0=k->d=(d.set x (c.getD x 0)).set x k:=fun k hk=>by
       rw[List.set_set]
       refine List.ext_getElem (by rw[List.length_set]) fun j q1 q2=>?_
       rw[List.getElem_set]
       split
       ·rename_i e; subst e
        rw[<- hk,List.getD_eq_getElem?_getD,List.getElem?_eq_getElem q1]; rfl
       ·rfl
      simp only[List.mem_cons,List.not_mem_nil,or_false]
      rcases hxx with h|h
      ·exact .inl (hd 3 h)
      ·exact .inr (hd 4 h)
theorem QT{c d:List Int}{x:Nat}(hx:x<=c.length)(h:d∈gq c x):d.length=c.length:=((QS hx).1 h).1
theorem acJ{a:Elem}{x i b:Nat}(hi:i<(gq a.counts x).length):(jM a (BA a.counts x i b)).getD i default=⟨a.value,(gq a.counts x).getD i []⟩:=by
 unfold jM BA GZ
 rw[List.append_assoc,List.map_append,List.getD_eq_getElem?_getD,List.getElem?_append_left (by rw[List.length_map]; exact hi),List.getElem?_map,List.getElem?_eq_getElem hi]
 simp[hi]
set_option maxHeartbeats 1000000 in
theorem S.yR(a:Elem)(hl:a.counts.length<=6):aj Tryz.prog 86 [.dat (.elem a)] (.row 3 false (.elems (jM a (gq a.counts a.counts.length)))):=by
 refine aj.of Bd.yR (by simp) rfl rfl ?_
 conv=>whnf
 refine ah.pure (S.uD a (by omega)) rfl ?_
 conv=>whnf
 refine aB.nD 7 [1] (fun i:Nat=>[(4,.int i),(3,.own 4)]) (fun i=>[(0,.box 54 3 (.dat (.elem a))),(4,eH (jM a (gq a.counts i)))]) (fun i=>i<=a.counts.length) (fun i=>a.counts.length-i) 0 [0,4] rfl (by decide) (fun _=>rfl) (Nat.zero_le _) ?_ ?_ ?_
 ·exact(sR rfl)
 ·exact⟨aT rfl rfl,aT rfl rfl,trivial⟩
 conv=>whnf
 refine⟨(sR rfl),rfl,?_⟩
 rintro x hx
 have hcap:=@QO a.counts x
 have h3x:3^x<=3^6:=Nat.pow_le_pow_right (by decide) (by omega)
 have h36:3^6=729:=by decide
 conv=>whnf
 refine⟨fun h1=>?_,fun h1=>?_⟩
 ·have hx':x<a.counts.length:=by simpa using h1
  conv=>whnf
  refine .mk (by simp only[Rw.rng]; omega) ?_
  conv=>whnf
  refine⟨fun h2=>?_,fun h2=>?_⟩
  ·have h2':a.counts.getD x 0<2:=of_decide_eq_true h2
   conv=>whnf
   refine .mk (by simp only[okI] at *; first|omega|(simp_all; done)|(simp_all; omega)) ?_
   conv=>whnf
   refine⟨x+1,[0,4],by omega,by omega,(sR rfl),(sR rfl),aT rfl rfl,okF rfl nofun rfl rfl rfl ⟨rfl,rfl⟩ (by rw[gq,if_pos h2']),trivial⟩
  have h2': ¬ a.counts.getD x 0<2:=of_decide_eq_false h2
  conv=>whnf
  refine aB.nD 7 [1,4,5] (fun i:Nat=>[(6,.int i),(3,.own 4)]) (fun i=>[(0,.box 54 3 (.dat (.elem a))),(4,eH (jM a (GZ a.counts x i)))]) (fun i=>i<=(gq a.counts x).length) (fun i=>(gq a.counts x).length-i) 0 [0,4] rfl (by decide) (fun _=>rfl) (Nat.zero_le _) ?_ ?_ ?_
  ·exact(sR rfl)
  ·exact⟨aT rfl rfl,okF rfl nofun rfl rfl rfl ⟨rfl,rfl⟩ (by simp[GZ]),trivial⟩
  conv=>whnf
  refine⟨(sR rfl),rfl,?_⟩
  rintro i hi
  have hA:(GZ a.counts x i).length<=729*3:=by
   unfold GZ
   have:=Fa (l:=(gq a.counts x).take i) (f:=fun d=>[d.set x 3,d.set x 4]) (k:=2) (fun _ _=>Nat.le_refl _)
   rw[List.length_take] at this
   rw[List.length_append]; omega
  conv=>whnf
  refine⟨fun h3=>?_,fun h3=>?_⟩
  ·have hi':i<(gq a.counts x).length:=by
    have hml:(jM a (gq a.counts x)).length=(gq a.counts x).length:=by simp[jM]
    have:(i:Int)<((jM a (gq a.counts x)).length:Int):=of_decide_eq_true h3
    omega
   have hdl:((gq a.counts x).getD i []).length=a.counts.length:=QT hx (bZ hi')
   conv=>whnf
   refine aB.Wu 7 [1,4,5,6] (fun b:Nat=>[(7,.int (3+(b:Int))),(3,.own 4)]) (fun b=>[(0,.box 54 3 (.dat (.elem a))),(4,eH (jM a (BA a.counts x i b)))]) (fun b=>b<=2) (fun b=>2-b) 0 [0,4] [(0,some (.box 54 3 (.dat (.elem a)))),(4,some (eH (jM a (GZ a.counts x i))))] rfl (by decide) (fun _=>rfl) (Nat.zero_le _) ?_ ?_ ?_ ?_
   ·exact(sR rfl)
   ·exact⟨fun _=>False,mg (Z:=fun _=>False) rfl (fun q=>q),mg (Z:=fun _=>False) rfl (fun q=>q),trivial⟩
   ·exact⟨aT rfl rfl,okF rfl nofun rfl rfl rfl ⟨rfl,rfl⟩ (by simp[BA]),trivial⟩
   conv=>whnf
   refine⟨(sR rfl),rfl,?_⟩
   rintro b hb
   have hB:(jM a (BA a.counts x i b)).length<=729*3+2:=by
    unfold jM BA; rw[List.length_map,List.length_append,List.length_map,List.length_range]; omega
   have hiB:i<(jM a (BA a.counts x i b)).length:=by
    unfold jM BA GZ; rw[List.length_map,List.length_append,List.length_append]; omega
   have hget:=acJ (a:=a) (b:=b) hi'
   conv=>whnf
   refine⟨fun h4=>?_,fun h4=>?_⟩
   ·have hb':b<2:=by have:=of_decide_eq_true h4; omega
    conv=>whnf
    repeat(refine VC.mk (by simp only[Rw.rng,Int.toNat_natCast]; omega) ?_; conv=>whnf)
    rw[show(jM a (BA a.counts x i b)).getD (i:Int).toNat default=⟨a.value,(gq a.counts x).getD i []⟩ from hget]
    refine ah.heap (wC.frame (S.GN ⟨a.value,(gq a.counts x).getD i []⟩ (by show((gq a.counts x).getD i []).length<_; omega)) _ _) ?_
    rintro t hp' ⟨rfl,rfl⟩
    refine⟨.agg [.int a.value,.own 13],(13,some (nN ((gq a.counts x).getD i [])))::_,rfl,OB,?_⟩
    conv=>whnf
    repeat(refine VC.mk (by first|(first|(simp only[Rw.rng,Int.toNat_natCast]; omega)|(show((jM a (BA a.counts x i b)).length+(0+1))*32<=140737488355328/\(jM a (BA a.counts x i b)).length+(0+1)<=1152921504606846976; omega))|(simp only[okI] at *; first|omega|(simp_all; done)|(simp_all; omega))) ?_; conv=>whnf)
    refine⟨[(0,some (.box 54 3 (.dat (.elem a)))),(25,some (eH (jM a (BA a.counts x i b)++[⟨a.value,((gq a.counts x).getD i []).set x (3+(b:Int))⟩])))],b+1,[0,25],⟨fun i=>i=13,mg (Z:=fun i=>i=13) (i:=0) rfl (by decide),aad (Z:=fun i=>i=13) (i:=25) (j:=13) (e:=⟨a.value,((gq a.counts x).getD i []).set x (3+(b:Int))⟩) rfl (by decide) rfl rfl,trivial⟩,by omega,by omega,⟨⟨_,rfl,.eq ?_⟩,⟨_,rfl,.eq rfl⟩,trivial⟩,(sR rfl),aT rfl rfl,okF rfl nofun rfl rfl rfl ⟨rfl,rfl⟩ ?_,trivial⟩
    ·show T.int (3+((b+1:Nat):Int))=T.int (3+(b:Int)+1)
     have:(3+((b+1:Nat):Int))=3+(b:Int)+1:=by omega
     rw[this]
    ·rw[Yc]; unfold jM; rw[List.map_append]; rfl
   ·have hb':b=2:=by have:=of_decide_eq_false h4; omega
    subst hb'
    rw[<- Yb hi']
    conv=>whnf
    refine .mk (by simp only[okI] at *; first|omega|(simp_all; done)|(simp_all; omega)) ?_
    conv=>whnf
    refine⟨i+1,[0,4],by omega,by omega,(sR rfl),(sR rfl),aT rfl rfl,aT rfl rfl,trivial⟩
  ·have hi':i=(gq a.counts x).length:=by
    have hml:(jM a (gq a.counts x)).length=(gq a.counts x).length:=by simp[jM]
    have: ¬ (i:Int)<((jM a (gq a.counts x)).length:Int):=of_decide_eq_false h3
    omega
   subst hi'
   rw[aae h2']
   conv=>whnf
   refine .mk (by simp only[okI] at *; first|omega|(simp_all; done)|(simp_all; omega)) ?_
   conv=>whnf
   refine⟨x+1,[0,4],by omega,by omega,(sR rfl),(sR rfl),aT rfl rfl,aT rfl rfl,trivial⟩
 ·have hx':x=a.counts.length:=by
   have: ¬ x<a.counts.length:=by simpa using h1
   omega
  subst hx'
  conv=>whnf
  exact ak.X5 rfl
theorem MZ{c d:List Int}(hc:EZ c)(h2:c.all XQ=true):d∈gq c c.length↔d∈qX (iJ c) c.length:=by
 rw[QS (Nat.le_refl _),yO hc]
 have hle: ∀ j,j<c.length->c.getD j 0<=2:=fun j hj=>by
  have:=List.all_eq_true.1 h2 (c.getD j 0) (bZ hj)
  simpa [XQ] using this
 refine and_congr_right fun _=>forall_congr' fun j=>forall_congr' fun hj=>?_
 have:=hle j hj
 constructor
 ·intro h
  unfold DL
  cases hb:(c.getD j 0==2) with
  |true =>
   have:c.getD j 0=2:=by simpa using hb
   simp only[cond_true,List.mem_cons,List.not_mem_nil,or_false]; omega
  |false =>
   have:c.getD j 0≠2:=by simpa using hb
   simp only[cond_false,List.mem_singleton]; omega
 ·intro h
  rcases yP h with h|⟨h,g⟩
  ·exact .inl h
  ·exact .inr ⟨hj,by omega,g⟩
theorem aeV: ∀ {c d:List Int},d.length=c.length->(∀ j,j<c.length->c.getD j 0<=d.getD j 0)->c.sum<=d.sum:=by
 intro c
 induction c with
 |nil=>intro d h _; rw[List.eq_nil_of_length_eq_zero h]; exact Int.le_refl _
 |cons x c ih =>
  intro d h hj
  cases d with
  |nil=>cases h
  |cons y d =>
   have h0:=hj 0 (by simp)
   have h1:=ih (d:=d) (by simpa using h) (fun j q=>by have:=hj (j+1) (by simpa using q); simpa using this)
   simp only[List.getD_cons_zero] at h0
   simp only[List.sum_cons]; omega
theorem Dj{d:List Int}(h:EZ d):d.all IK=true:=List.all_eq_true.2 fun x hx=>Wy.2 (h x hx)
theorem JK{a:Elem}(hc:EZ a.counts)(hl:a.counts.length<=6)(h0:0<xM a){e:Elem}:e∈lZ a.value (iJ a.counts)↔e.value=a.value/\e.counts∈qX (iJ a.counts) a.counts.length:=by
 constructor
 ·intro h
  obtain⟨h1,h2,h3,_⟩:=Dh h
  rw[kM] at h3
  exact⟨h1,h3⟩
 ·rintro⟨h1,h2⟩
  obtain⟨v,d⟩:=e
  simp only at h1 h2
  subst h1
  unfold lZ Fb
  rw[List.mem_filter,kM]
  refine⟨List.mem_map.2 ⟨d,h2,rfl⟩,decide_eq_true ?_⟩
  obtain⟨g1,g2⟩:=(yO hc).1 h2
  rw[E9 (by show d.length<=6; omega) (Dj (OM hc h2))]
  rw[E9 hl (Dj hc)] at h0
  have:=aeV g1 fun j hj=>by
   have:=yP (g2 j hj); omega
  show 0<d.sum
  omega
theorem QU{a e:Elem}{L:List (List Int)}:e∈jM a L↔e.value=a.value/\e.counts∈L:=by
 unfold jM
 rw[List.mem_map]
 constructor
 ·rintro⟨d,hd,rfl⟩; exact⟨rfl,hd⟩
 ·rintro⟨h1,h2⟩; exact⟨e.counts,h2,by rw[<- h1]⟩
structure G5(a:Elem):Prop where
 ok:EZ a.counts
 two:a.counts.all XQ=true
 len:a.counts.length<=6
 tot:0<xM a
theorem G5.cho{a:Elem}(h:G5 a){e:Elem}:e∈lZ a.value (iJ a.counts)↔e∈jM a (gq a.counts a.counts.length):=by
 rw[JK h.ok h.len h.tot,QU,MZ h.ok h.two]
theorem G5.pos{a:Elem}(h:G5 a):0<a.counts.length:=by
 have:=h.tot
 rcases Nat.eq_zero_or_pos a.counts.length with h0|h0
 ·rw[E9 h.len (Dj h.ok),List.eq_nil_of_length_eq_zero h0] at this; simp at this
 ·exact h0
def aej(r:Rule)(a:Elem):List Elem:=(lK r (jM a (gq a.counts a.counts.length))).foldl nR []
theorem aaf{r:Rule}{a:Elem}(h:G5 a):aej r a=gy r a:=by
 obtain⟨s1,s2⟩:=UM (lK r (jM a (gq a.counts a.counts.length))) [] (by simp[SS])
 refine GY s1 (uz _) fun x=>?_
 unfold aej at *
 rw[s2,gy,oP]
 simp only[List.not_mem_nil,false_or]
 unfold lK
 rw[List.mem_filterMap,List.mem_filterMap]
 exact exists_congr fun e=>and_congr_left fun _=>h.cho.symm
theorem Yd{l:List Elem}{r:Rule}{j:Nat}(hj:j<l.length):(lK r (l.take (j+1))).foldl nR []=match yQ r (l.getD j default) with|some x=>nR ((lK r (l.take j)).foldl nR []) x|none=>(lK r (l.take j)).foldl nR []:=by
 rw[JF hj,List.foldl_append]
 cases yQ r (l.getD j default)<;>rfl
theorem aag{a:Elem}(hl:a.counts.length<=6):(jM a (gq a.counts a.counts.length)).length<=729:=by
 have h:=@QO a.counts a.counts.length
 have h3x:3^a.counts.length<=3^6:=Nat.pow_le_pow_right (by decide) hl
 have h36:3^6=729:=by decide
 unfold jM; rw[List.length_map]; omega
theorem WA{a e:Elem}(h:G5 a)(he:e∈jM a (gq a.counts a.counts.length)):e.counts.length=a.counts.length/\EZ e.counts:=by
 have h2:=(QU.1 he).2
 exact⟨QT (Nat.le_refl _) h2,OM h.ok ((MZ h.ok h.two).1 h2)⟩
set_option maxHeartbeats 1000000 in
theorem S.yS(p:aC)(r:Int)(a:Elem)(hp:dL p)(hr:sW a.counts.length (p.rules.getD r.toNat default))(Na:0<=r/\r<p.rules.length)(h:G5 a):aj Tryz.prog 54 [.dat (.iE p),.int r,.dat (.elem a)] (.row 3 false (.elems (gy (p.rules.getD r.toNat default) a))):=by
 rw[<- aaf h]
 have hml:=aag h.len
 have hlen:=h.len
 have hsr:=hp.rule r.toNat
 refine aj.of Bd.yS (by simp) rfl rfl ?_
 conv=>whnf
 refine ah.pure (S.yR a h.len) rfl ?_
 conv=>whnf
 refine aB.nil 8 54 3 (by rfl) rfl rfl rfl ?_
 refine aB.nD 20 [1,3,7] (fun j:Nat=>[(9,.int j),(8,.own 8)]) (fun j=>[(0,.box 27 11 (.dat (.iE p))),(8,eH ((lK (p.rules.getD r.toNat default) ((jM a (gq a.counts a.counts.length)).take j)).foldl nR []))]) (fun j=>j<=(jM a (gq a.counts a.counts.length)).length) (fun j=>(jM a (gq a.counts a.counts.length)).length-j) 0 [0,8] rfl (by decide) (fun _=>rfl) (Nat.zero_le _) ?_ ?_ ?_
 ·exact(sR rfl)
 ·exact⟨aT rfl rfl,aT rfl rfl,trivial⟩
 conv=>whnf
 refine⟨(sR rfl),rfl,?_⟩
 rintro j hj
 have hfl:((lK (p.rules.getD r.toNat default) ((jM a (gq a.counts a.counts.length)).take j)).foldl nR []).length<=729:=by
  have h1:=aah (lK (p.rules.getD r.toNat default) ((jM a (gq a.counts a.counts.length)).take j)) []
  have h2:=Di (r:=p.rules.getD r.toNat default) (l:=(jM a (gq a.counts a.counts.length)).take j)
  rw[List.length_take] at h2
  rw[List.length_nil,Nat.zero_add] at h1; omega
 have hsm:eF ((lK (p.rules.getD r.toNat default) ((jM a (gq a.counts a.counts.length)).take j)).foldl nR []):=fun x hx=>by
  rcases aai _ _ _ hx with hx|hx
  ·cases hx
  ·rw[Bv (n:=a.counts.length) (fun e he=>(WA h (List.mem_of_mem_take he)).1) hx]; omega
 conv=>whnf
 refine⟨fun h2=>?_,fun h2=>?_⟩
 ·have hj':j<(jM a (gq a.counts a.counts.length)).length:=by simpa using h2
  have hstep:=Yd (r:=p.rules.getD r.toNat default) hj'
  have hmem:(jM a (gq a.counts a.counts.length)).getD j default∈jM a (gq a.counts a.counts.length):=bZ hj'
  obtain⟨g1,g2⟩:=WA h hmem
  conv=>whnf
  repeat(refine VC.mk (by simp only[Rw.rng]; omega) ?_; conv=>whnf)
  refine Ie.pure (aj.JG (S.BD (p.rules.getD r.toNat default) ((jM a (gq a.counts a.counts.length)).getD j default) hsr (by rw[g1]; exact hr) g2 (by omega))) rfl ?_
  conv=>whnf
  refine⟨fun h3=>?_,fun h3=>?_⟩
  ·obtain⟨x,hx⟩:=Option.isSome_iff_exists.1 h3
   replace hx:eP (p.rules.getD r.toNat default) ((jM a (gq a.counts a.counts.length)).getD j default)=some x:=hx
   have hxl:=yM hx
   rw[yQ,hx] at hstep
   rw[show eP (p.rules.getD r.toNat default) ((jM a (gq a.counts a.counts.length)).getD (j:Int).toNat default)=some x from hx]
   conv=>whnf
   refine ah.pure (S.wB x (by rw[hxl]; omega)) rfl ?_
   conv=>whnf
   refine ah.insert rfl rfl (by omega) hsm (by show(qW x.counts).length<_; rw[qW,List.length_map,hxl]; omega) (fun hf=>?_) (fun hf=>?_)
   ·have hins:nR ((lK (p.rules.getD r.toNat default) ((jM a (gq a.counts a.counts.length)).take j)).foldl nR []) (Qq x)=(lK (p.rules.getD r.toNat default) ((jM a (gq a.counts a.counts.length)).take j)).foldl nR []:=by rw[nR,if_pos hf]
    conv=>whnf
    refine .mk (by simp only[okI] at *; first|omega|(simp_all; done)|(simp_all; omega)) ?_
    conv=>whnf
    refine⟨j+1,[0,8],by omega,by omega,(sR rfl),(sR rfl),aT rfl rfl,okF rfl nofun rfl rfl rfl ⟨rfl,rfl⟩ (by rw[hstep]; simp only[Option.map_some]; rw[hins]),trivial⟩
   ·conv=>whnf
    refine .mk (by simp only[okI] at *; first|omega|(simp_all; done)|(simp_all; omega)) ?_
    conv=>whnf
    refine⟨j+1,[0,44],by omega,by omega,(sR rfl),(sR rfl),aT rfl rfl,okF rfl nofun rfl rfl rfl ⟨rfl,rfl⟩ (by rw[hstep]; rfl),trivial⟩
  ·replace h3:(eP (p.rules.getD r.toNat default) ((jM a (gq a.counts a.counts.length)).getD j default)).isSome=false:=h3
   rw[Option.isSome_eq_false_iff,Option.isNone_iff_eq_none] at h3
   rw[yQ,h3] at hstep
   conv=>whnf
   refine .mk (by simp only[okI] at *; first|omega|(simp_all; done)|(simp_all; omega)) ?_
   conv=>whnf
   refine⟨j+1,[0,8],by omega,by omega,(sR rfl),(sR rfl),aT rfl rfl,okF rfl nofun rfl rfl rfl ⟨rfl,rfl⟩ (by rw[hstep]; rfl),trivial⟩
 ·have hj':(jM a (gq a.counts a.counts.length)).length<=j:=by simpa using h2
  rw[List.take_of_length_le hj']
  conv=>whnf
  exact ak.X5 rfl
theorem aeW{p:aC}{a:Elem}(hc:AQ p=0)(h:LM p a=0):G5 a/\a.counts.length=p.states.length:=by
 have hst:=(kU (gu (lS hc)).1).states
 unfold LM at h
 cases hb:cvB p a with
 |true=>rw[hb] at h; cases h
 |false =>
  rw[hb] at h
  rw[aeN hc] at hb
  obtain⟨h1,h2⟩:=aeO hb
  unfold ZK at hb
  rw[Bool.or_eq_false_iff] at hb
  have h3:xM a≠0:=by simpa using hb.2
  have h4:=aeL a
  cases ha:a.counts.all XQ with
  |false=>rw[ha] at h; cases h
  |true=>exact⟨⟨h2,ha,by omega,by omega⟩,h1⟩
theorem aeX{p:aC}{r:Int}{a:Elem}(h:Ju p r a=0):Wn p r=0/\LM p a=0:=by
 unfold Ju at h
 by_cases h0:Wn p r=0
 ·rw[h0] at h; exact⟨h0,h⟩
 ·rw[show(Wn p r !=0)=true by simpa using h0] at h; exact absurd h h0
theorem acK{p:aC}{r:Int}{a:Elem}(h:Ju p r a=0):G5 a/\sW a.counts.length (p.rules.getD r.toNat default)/\(0<=r/\r<p.rules.length)/\AQ p=0:=by
 obtain⟨h1,h2⟩:=aeX h
 have hc:=agx h1
 obtain⟨g1,g2⟩:=aeW hc h2
 obtain⟨r1,r2,r3⟩:=agw hc h1
 exact⟨g1,by rw[g2]; exact(wtR hc r2).place,⟨r1,r3⟩,hc⟩
def aaj(p:aC)(r:Int)(a:Elem):List Elem:=bif Ju p r a==0 then gy (p.rules.getD r.toNat default) a else []
theorem S.yT(p:aC)(r:Int)(a:Elem)(hp:dL p)(ha:a.counts.length<2^30):aj Tryz.prog 31 [.dat (.iE p),.int r,.dat (.elem a)] (.gW [.row 3 false (.elems (aaj p r a)),.int (Ju p r a)]):=by
 refine aj.of Bd.yT (by simp) rfl rfl ?_
 conv=>whnf
 refine ah.pure (S.nU p r hp) rfl ?_
 conv=>whnf
 refine⟨fun h1=>?_,fun h1=>?_⟩
 ·conv=>whnf
  have e:Ju p r a=Wn p r:=by rw[Ju,h1]; rfl
  rw[aaj,e,show(Wn p r==0)=false by simpa using h1]
  exact ak.aek
 have e:Ju p r a=LM p a:=by rw[Ju,h1]; rfl
 conv=>whnf
 refine ah.pure (S.lY p a hp ha) rfl ?_
 conv=>whnf
 refine⟨fun h2=>?_,fun h2=>?_⟩
 ·conv=>whnf
  rw[aaj,e,show(LM p a==0)=false by simpa using h2]
  exact ak.aek
 have h0:Ju p r a=0:=by rw[e]; simpa using h2
 obtain⟨hA,hpl,Na,_⟩:=acK h0
 conv=>whnf
 refine .mk (by simp only[Rw.rng]; omega) ?_
 conv=>whnf
 refine ah.pure (S.sZ (p.rules.getD r.toNat default) a (hp.rule _) hpl hA.ok hA.pos hA.len) rfl ?_
 rw[aaj,h0]
 conv=>whnf
 exact ak.eqv rfl
def Ej(c d:List Int):Prop:=d.length=c.length/\ ∀ j,j<c.length->(c.getD j 0=0↔d.getD j 0=0)
theorem QV{c:List Int}{j:Nat}(h:c.length<=j):c.getD j 0=0:=by
 rw[List.getD_eq_getElem?_getD,List.getElem?_eq_none h]; rfl
theorem Ej.all{c d:List Int}(h:Ej c d)(j:Nat):(c.getD j 0==0)=(d.getD j 0==0):=by
 rw[Bool.eq_iff_iff,beq_iff_eq,beq_iff_eq]
 rcases Nat.lt_or_ge j c.length with hj|hj
 ·exact h.2 j hj
 ·rw[QV hj,QV (by rw[h.1]; exact hj)]
theorem UN{r:Rule}{c d:List Int}(h:Ej c d):rH r c=rH r d:=by
 have e: ∀ j,(c.getD j 0==0)=(d.getD j 0==0):=h.all
 unfold rH zW wH
 rw[h.1]
 simp only[e]
theorem Ye{r:Rule}{a e:Elem}(hp:sW a.counts.length r)(hv:e.value=a.value)(hd: ∀ i,0<=i->i<(a.counts.length:Int)->Ej (aU a.counts i) (aU e.counts i))(h0:Ej a.counts e.counts):(eP r a).isSome=(eP r e).isSome:=by
 have h1:=hd r.fr hp.src.1 hp.src.2
 have e1:(decide (0<=r.read)&&a.value !=r.read||a.counts.getD r.fr.toNat 0==0)=(decide (0<=r.read)&&e.value !=r.read||e.counts.getD r.fr.toNat 0==0):=by
  rw[hv,h0.all]
 unfold eP
 simp only[e1,UN h1,h1.all]
 cases (decide (0<=r.read)&&e.value !=r.read||e.counts.getD r.fr.toNat 0==0) with
 |true=>rfl
 |false =>
  cases r.kind==1 with
  |true=>cases rH r (aU e.counts r.fr)<;>rfl
  |false =>
   cases r.kind==2 with
   |true=>cases (aU e.counts r.fr).getD r.fQ.toNat 0==0<;>rfl
   |false=>cases r.kind==3<;>rfl
theorem WB{c:List Int}{i:Int}{j:Nat}(hi:0<=i/\i<c.length):(aU c i).getD j 0=if j=i.toNat then c.getD j 0-1 else c.getD j 0:=by
 unfold aU
 rw[Jv (by omega)]
 split
 ·rename_i e; rw[e]
 ·rfl
theorem UO{c d:List Int}(hc:EZ c)(h:d∈qX (iJ c) c.length):Ej c d/\ ∀ i,0<=i->i<(c.length:Int)->Ej (aU c i) (aU d i):=by
 obtain⟨h1,h2⟩:=(yO hc).1 h
 refine⟨⟨h1,fun j hj=>?_⟩,fun i hi0 hi1=>⟨by rw[kH,kH,h1],fun j hj=>?_⟩⟩
 ·have:=yP (h2 j hj); omega
 ·rw[kH] at hj
  have:=yP (h2 j hj)
  rw[WB ⟨hi0,hi1⟩,WB ⟨hi0,by omega⟩]
  split<;>omega
theorem UQ{c:List Int}(hc:EZ c):c∈qX (iJ c) c.length:=by
 rw[yO hc]
 refine⟨rfl,fun j hj=>?_⟩
 unfold DL
 cases hb:(c.getD j 0==2) with
 |true=>have:c.getD j 0=2:=(by simpa using hb); rw[this]; simp
 |false=>simp
theorem Yf{r:Rule}{a:Elem}(h:G5 a)(hp:sW a.counts.length r):(eP r a).isSome=decide (0<((gy r a).length:Int)):=by
 cases hf:eP r a with
 |some x =>
  have:Qq x∈gy r a:=by
   rw[gy,oP]
   exact List.mem_filterMap.2 ⟨a,(JK h.ok h.len h.tot).2 ⟨rfl,UQ h.ok⟩,by rw[yQ,hf]; rfl⟩
  have hl:=List.length_pos_of_mem this
  rw[show decide (0<((gy r a).length:Int))=true from decide_eq_true (by omega)]; rfl
 |none =>
  have:gy r a=[]:=by
   rw[List.eq_nil_iff_forall_not_mem]
   intro x hx
   rw[gy,oP] at hx
   obtain⟨e,he,y,hy,_⟩:=GX hx
   obtain⟨g1,g2⟩:=(JK h.ok h.len h.tot).1 he
   obtain⟨z1,z2⟩:=UO h.ok g2
   have:=Ye hp g1 z2 z1
   rw[hf,hy] at this; cases this
  rw[this]; rfl
end Go.Proofs.YtajmbgljnaljiaaGreatDoor
