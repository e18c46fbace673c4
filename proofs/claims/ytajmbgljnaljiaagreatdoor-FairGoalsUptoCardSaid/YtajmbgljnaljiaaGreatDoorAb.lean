/-
 fair: a step with a rule. No condition.
-/
import Derived.Test.YtajmbgljnaljiaaGreatDoorAa
import Derived.Test.YtajmbgljnaljiaaGreatDoorLg
import Derived.Test.YtajmbgljnaljiaaGreatDoorKa
import Derived.Test.YtajmbgljnaljiaaGreatDoorFa
namespace Go.Proofs.YtajmbgljnaljiaaGreatDoor
open Go.Ab Go.Proofs
set_option maxRecDepth 100000
theorem S.Pg(l:List Int)(f:Bool)(h0:0<l.length)(hl:l.length<2^30)(n:Nat):aT Tryz.prog 92 (V.aS [.row 0 f (.ints l)]) (Hz.aj []) n (fun t hp=>t= .own n/\hp=Hz.aj [(n,some (xK l))]):=by
 refine o7.of (nx:=0) Bd.jo (by simp) ⟨_,_,rfl,rfl⟩ rfl rfl ?_
 conv=>whnf
 refine VF.mk (fun hz=>absurd hz (by show ¬ l.length=0; omega)) ?_
 conv=>whnf
 refine Fork.mk (fun q=>absurd (q.symm.trans ((rfl:false=false))).symm Bool.false_ne_true) (fun _=>?_)
 conv=>whnf
 refine .mk (by simp only[o8,qF,Rw.len]; omega) ?_
 conv=>whnf
 repeat(refine VC.mk (by simp only[o8,qF,Rw.len]; omega) ?_; conv=>whnf)
 exact mO.one (c:=n) (o:=xK l) (t:=.own n) rfl rfl rfl nofun (.inr rfl) rfl (.eq rfl) ⟨rfl,rfl⟩
theorem S.Ph(l:List Int)(f:Bool)(h0:0<l.length)(hl:l.length<2^30):uT Tryz.prog 92 [.sl 0 f (l.map T.int)] (fun n=>.own n) (some ⟨3,0,l.map T.int⟩):=by
 refine⟨rfl,fun n=>rfl,fun ob h=>?_,fun ob h=>?_,fun n=>?_⟩
 ·cases h
  show T.cZ (l.map T.int)=true
  rw[eG]; intro t ht; obtain⟨x,_,rfl⟩:=List.mem_map.1 ht; rfl
 ·cases h; exact show(0:Nat)≠eP by decide
 ·have:=S.Pg l f h0 hl n
  have e1:Hz.aj [(n,some (xK l))]=gG no n (some ⟨3,0,l.map T.int⟩):=by
   rw[bn]; simp[gG,OV.ay,Rw.aS,V.aS]; rfl
  rw[e1] at this
  exact this
theorem YG{c:List Int}(hc: ∀ i,0<=c.getD i 0)(i:Nat):decide (0<c.getD i 0)= !(c.getD i 0==0):=by
 rw[Bool.eq_iff_iff]; simp only[decide_eq_true_eq,Bool.not_eq_true',beq_eq_false_iff_ne,ne_eq]
 have:=hc i; omega
theorem S.qG(r:Rule)(c:List Int)(f:Bool)(hr:wI r)(hc:c.length<2^40)(hpos: ∀ i,0<=c.getD i 0):au Tryz.prog 93 [.dat (.rule r),.row 0 f (.ints c)] (.bool (xU r c)):=by
 have g1:=hr.ex; have g2:=hr.all
 refine au.of Bd.qG (by simp) rfl rfl ?_
 conv=>whnf
 refine aP.same [2,12,13] (fun i:Nat=>[(14,.int i),(5,.bool (zS r.ex c i))]) (fun i=>i<=c.length/\Di r.all c i=false) (fun i=>c.length-i) 0 rfl (by decide) rfl (fun _=>rfl) ⟨by omega,rfl⟩ ⟨⟨_,rfl,rfl⟩,⟨_,rfl,?_⟩,trivial⟩ ?_
 ·show(V.bool (zS r.ex c 0)).aF=(V.bool ((r.ex.length:Int)==0)).aF
  rw[zS]; simp
 conv=>whnf
 refine⟨rfl,?_⟩
 rintro i ⟨hi,hall⟩
 conv=>whnf
 refine⟨fun h3=>?_,fun h3=>?_⟩
 ·have hi':i<c.length:=by simpa using h3
  have hp:=YG hpos i
  conv=>whnf
  repeat(refine VC.mk (by first|exact id|exact fun h=>⟨h,h⟩|(simp only[Rw.rng] at *; first|omega|(simp_all; done)|(simp_all; omega))) ?_; conv=>whnf)
  refine ah.jC (fun _=>S.slices_Contains_int r.ex i false (by omega)) rfl ?_
  conv=>whnf
  refine VC.mk id ?_
  conv=>whnf
  refine⟨fun h4=>?_,fun h4=>?_⟩
  ·replace h4:(decide (0<c.getD i 0)&&Dj r.ex i)=true:=h4
   rw[hp] at h4
   conv=>whnf
   repeat(refine VC.mk (by first|exact id|exact fun h=>⟨h,h⟩) ?_; conv=>whnf)
   refine ah.jC (fun _=>S.slices_Contains_int r.all i false (by omega)) rfl ?_
   conv=>whnf
   repeat(refine VC.mk id ?_; conv=>whnf)
   refine⟨fun h5=>?_,fun h5=>?_⟩
   ·replace h5:(decide (0<c.getD i 0)&&decide (0<(r.all.length:Int))&& !(Dj r.all i))=true:=h5
    rw[hp,Bool.and_assoc,Bool.and_eq_true] at h5
    conv=>whnf
    exact aG.bool (by rw[xU,MB hi' (by simpa using h5.1) h5.2]; rfl)
   ·replace h5:(decide (0<c.getD i 0)&&decide (0<(r.all.length:Int))&& !(Dj r.all i))=false:=h5
    rw[hp,Bool.and_assoc] at h5
    conv=>whnf
    refine .mk (by simp only[okI] at *; first|omega|(simp_all; done)|(simp_all; omega)) ?_
    conv=>whnf
    refine⟨i+1,⟨by omega,by rw[Fq,hall]; exact h5⟩,by omega,⟨⟨_,rfl,rfl⟩,⟨_,rfl,?_⟩,trivial⟩,?_,rfl⟩
    ·rw[Fv,h4]; simp[V.aF,oV]
    ·repeat' (first|exact trivial|exact⟨_,rfl,rfl⟩|constructor)
  ·replace h4:(decide (0<c.getD i 0)&&Dj r.ex i)=false:=h4
   rw[hp] at h4
   conv=>whnf
   repeat(refine VC.mk (by first|exact id|exact fun h=>⟨h,h⟩) ?_; conv=>whnf)
   refine ah.jC (fun _=>S.slices_Contains_int r.all i false (by omega)) rfl ?_
   conv=>whnf
   repeat(refine VC.mk id ?_; conv=>whnf)
   refine⟨fun h5=>?_,fun h5=>?_⟩
   ·replace h5:(decide (0<c.getD i 0)&&decide (0<(r.all.length:Int))&& !(Dj r.all i))=true:=h5
    rw[hp,Bool.and_assoc,Bool.and_eq_true] at h5
    conv=>whnf
    exact aG.bool (by rw[xU,MB hi' (by simpa using h5.1) h5.2]; rfl)
   ·replace h5:(decide (0<c.getD i 0)&&decide (0<(r.all.length:Int))&& !(Dj r.all i))=false:=h5
    rw[hp,Bool.and_assoc] at h5
    conv=>whnf
    refine .mk (by simp only[okI] at *; first|omega|(simp_all; done)|(simp_all; omega)) ?_
    conv=>whnf
    refine⟨i+1,⟨by omega,by rw[Fq,hall]; exact h5⟩,by omega,⟨⟨_,rfl,rfl⟩,⟨_,rfl,?_⟩,trivial⟩,?_,rfl⟩
    ·rw[Fv,h4]; simp[V.aF]
    ·repeat' (first|exact trivial|exact⟨_,rfl,rfl⟩|constructor)
 ·have hi':c.length<=i:=by simpa using h3
  have e:i=c.length:=Nat.le_antisymm hi hi'
  subst e
  conv=>whnf
  exact aG.bool (by rw[xU,hall]; rfl)
set_option maxHeartbeats 1000000 in
theorem S.rH(r:Rule)(e:Elem)(hr:wI r)(hp:zQ e.counts.length r)(hc:EJ e.counts)(hl:e.counts.length<=6):au Tryz.prog 58 [.dat (.rule r),.dat (.elem e)] (kJ r e):=by
 obtain⟨f1,f2⟩:=hp.src
 obtain⟨d1,d2⟩:=hp.dst
 obtain⟨p1,p2⟩:=hp.YE
 obtain⟨q1,q2⟩:=hp.YF
 have hfr:=hc.get (i:=r.fr.toNat) (by omega)
 refine au.of Bd.rH (by simp) rfl (Pj r e) ?_
 conv=>whnf
 repeat(refine VC.mk (by first|exact id|exact fun h=>⟨h,h⟩|(intro h; rw[h]; rfl)|(intro h; (repeat' apply And.intro)<;>first|exact h|omega|(simp only[Rw.xW]; omega)|(simp only[Rw.rng]; omega))) ?_; conv=>whnf)
 refine⟨fun h1=>?_,fun h1=>?_⟩
 ·have h1':(decide (0<=r.read)&&e.value !=r.read||e.counts.getD r.fr.toNat 0==0)=true:=by rw[bne_comm]; exact h1
  conv=>whnf
  refine aG.eqv ?_
  rw[kJ,iC,h1']; rfl
 have h1':(decide (0<=r.read)&&e.value !=r.read||e.counts.getD r.fr.toNat 0==0)=false:=by rw[bne_comm]; exact h1
 conv=>whnf
 refine Fz.row (r:=.ints e.counts) (S.Ph e.counts false (by omega) (by omega)) ?_
 have hl1:(cO e.counts r.fr).length=e.counts.length:=by simp[cO]
 conv=>whnf
 repeat(refine VC.mk (by first|(simp only[Rw.rng]; omega)|(simp only[okI,cO] at *; omega)) ?_; conv=>whnf)
 have hpos: ∀ i,0<=(cO e.counts r.fr).getD i 0:=YH hc h1'
 have hB:=hc.b.dec (by omega) r.fr
 refine⟨fun h2=>?_,fun h2=>?_⟩
 ·replace h2:(r.kind==1)=true:=h2
  have hBt:=hB.get (by omega) r.to.toNat
  conv=>whnf
  refine ah.lend (S.qG r (cO e.counts r.fr) false hr (by omega) hpos) (And.intro (aB _) (And.intro (D6 trivial rfl) trivial)) rfl rfl ?_
  conv=>whnf
  refine⟨fun h5=>?_,fun h5=>?_⟩
  ·replace h5:(!(xU r (cO e.counts r.fr)))=true:=h5
   conv=>whnf
   refine aG.eqv ?_
   rw[kJ,iC,h1',h2,h5]; rfl
  replace h5:(!(xU r (cO e.counts r.fr)))=false:=h5
  conv=>whnf
  repeat(refine VC.mk (by first|(simp only[Rw.rng,List.length_set]; omega)|(simp only[okI,cO] at *; omega)) ?_; conv=>whnf)
  refine⟨fun h4=>?_,fun h4=>?_⟩
  ·replace h4:decide (r.write>=0)=true:=h4
   have hS:kJ r e= .fU [.dat (.elem ⟨r.write,jK (cO e.counts r.fr) r.to 1⟩),.bool true]:=by rw[kJ,iC,h1',h2,h5,h4]; rfl
   conv=>whnf
   rw[hS]
   exact aG.D7 rfl
  ·replace h4:decide (r.write>=0)=false:=h4
   have hS:kJ r e= .fU [.dat (.elem ⟨e.value,jK (cO e.counts r.fr) r.to 1⟩),.bool true]:=by rw[kJ,iC,h1',h2,h5,h4]; rfl
   conv=>whnf
   rw[hS]
   exact aG.D7 rfl
 replace h2:(r.kind==1)=false:=h2
 conv=>whnf
 refine⟨fun h3=>?_,fun h3=>?_⟩
 ·replace h3:(r.kind==2)=true:=h3
  have hB1:=hB.get (by omega) r.iw.toNat
  have hB2:=hB.dec (by omega) r.iw
  have hB3:=hB2.get (by omega) r.Dc.toNat
  have hB4:=hB2.add (by omega) r.Dc 1 (k:=1) ⟨by omega,by omega⟩
  have hB5:=hB4.get (by omega) r.to.toNat
  conv=>whnf
  repeat(refine VC.mk (by first|(simp only[Rw.rng,List.length_set]; omega)|(simp only[cO,jK] at *; omega)) ?_; conv=>whnf)
  refine⟨fun h6=>?_,fun h6=>?_⟩
  ·replace h6:((cO e.counts r.fr).getD r.iw.toNat 0==0)=true:=h6
   conv=>whnf
   refine aG.eqv ?_
   rw[kJ,iC,h1',h2,h3,h6]; rfl
  replace h6:((cO e.counts r.fr).getD r.iw.toNat 0==0)=false:=h6
  conv=>whnf
  repeat(refine VC.mk (by first|(simp only[Rw.rng,List.length_set]; omega)|(simp only[okI,cO,jK] at *; omega)) ?_; conv=>whnf)
  refine⟨fun h4=>?_,fun h4=>?_⟩
  ·replace h4:decide (r.write>=0)=true:=h4
   have hS:kJ r e= .fU [.dat (.elem ⟨r.write,jK (jK (cO (cO e.counts r.fr) r.iw) r.Dc 1) r.to 1⟩),.bool true]:=by rw[kJ,iC,h1',h2,h3,h6,h4]; rfl
   conv=>whnf
   rw[hS]
   exact aG.D7 rfl
  ·replace h4:decide (r.write>=0)=false:=h4
   have hS:kJ r e= .fU [.dat (.elem ⟨e.value,jK (jK (cO (cO e.counts r.fr) r.iw) r.Dc 1) r.to 1⟩),.bool true]:=by rw[kJ,iC,h1',h2,h3,h6,h4]; rfl
   conv=>whnf
   rw[hS]
   exact aG.D7 rfl
 replace h3:(r.kind==2)=false:=h3
 conv=>whnf
 refine⟨fun h6=>?_,fun h6=>?_⟩
 ·replace h6:(r.kind==3)=true:=h6
  obtain⟨rs1,rs2⟩:=hp.rsp (beq_iff_eq.1 h6)
  conv=>whnf
  have hm:=Fh (n:=(cO e.counts r.fr).length) (by omega)
  simp only[cO] at hm
  rw[hm]
  conv=>whnf
  refine .mk (by simp only[List.length_set]; omega) ?_
  conv=>whnf
  refine aP.xE 100 [2,4,6,83,84] (fun i:Nat=>[(85,.int i)]) (fun i=>[(0,.box 85 19 (.dat (.rule r))),(1,.box 54 3 (.dat (.elem e))),(2,.box 54 3 (.agg [.int 0,.row 0 true .nil])),(27,xK (cO e.counts r.fr)),(29,.box 54 3 (.agg [.int e.value,.own 52])),(52,xK (sF r (cO e.counts r.fr) i))]) (fun i=>i<=(cO e.counts r.fr).length) (fun i=>(cO e.counts r.fr).length-i) 0 [0,1,2,27,29,52] rfl (by decide) (fun _=>rfl) (Nat.zero_le _) ?_ ?_ ?_
  ·exact(sR rfl)
  ·exact⟨cu rfl rfl,cu rfl rfl,cu rfl rfl,cu rfl rfl,nV rfl rfl rfl ⟨rfl,rfl⟩ (dL.of_eq rfl),cu rfl rfl,trivial⟩
  conv=>whnf
  refine⟨(sR rfl),rfl,?_⟩
  rintro i hi
  have hn6:(i:Int)*1048577<=6*1048577:=Int.mul_le_mul_of_nonneg_right (by omega) (by omega)
  have hn0:0<=(i:Int)*1048577:=Int.mul_nonneg (by omega) (by omega)
  have hRB:=abe hB (by omega) (r:=r) i
  have hRl:(sF r (cO e.counts r.fr) i).length=e.counts.length:=by rw[uX,hl1]
  conv=>whnf
  refine⟨fun g1=>?_,fun g1=>?_⟩
  ·have hi':i<(cO e.counts r.fr).length:=by
    have:(i:Int)<((cO e.counts r.fr).length:Int):=of_decide_eq_true g1
    omega
   have hir:i<r.response.length:=by omega
   obtain⟨q3,q4⟩:0<=r.response.getD i 0/\r.response.getD i 0<e.counts.length:=by
    rw[show r.response.getD i 0=r.response[i] by simp[hir]]; exact rs2 _ (List.getElem_mem hir)
   have hR1:=hRB.get hn0 (r.response.getD i 0).toNat
   have hR2:=hB.get (by omega) i
   conv=>whnf
   repeat(refine VC.mk (by first|(first|(simp only[Rw.rng,uX]; omega)|(simp only[okI,cO,Int.toNat_natCast] at *; omega))|(simp only[Rw.rng] at *; first|omega|(simp_all; done)|(simp_all; omega))) ?_; conv=>whnf)
   refine⟨i+1,[0,1,2,27,29,52],by omega,by omega,(sR rfl),(sR rfl),cu rfl rfl,cu rfl rfl,cu rfl rfl,cu rfl rfl,nV rfl rfl rfl ⟨rfl,rfl⟩ (dL.of_eq rfl),okF rfl nofun rfl rfl rfl ?_ ?_,trivial⟩
   ·exact⟨rfl,rfl⟩
   ·rw[uY]; rfl
  have hi':i=(cO e.counts r.fr).length:=by
   have: ¬ ((i:Int)<((cO e.counts r.fr).length:Int)):=of_decide_eq_false g1
   omega
  subst hi'
  have hR1:=hRB.get hn0 r.to.toNat
  conv=>whnf
  repeat(refine VC.mk (by first|(simp only[Rw.rng,uX]; omega)|(simp only[okI,cO,Int.toNat_natCast] at *; omega)) ?_; conv=>whnf)
  refine⟨fun h4=>?_,fun h4=>?_⟩
  ·replace h4:decide (r.write>=0)=true:=h4
   have hS:kJ r e= .fU [.dat (.elem ⟨r.write,jK (sF r (cO e.counts r.fr) (cO e.counts r.fr).length) r.to 1⟩),.bool true]:=by rw[kJ,iC,h1',h2,h3,h6,h4]; rfl
   conv=>whnf
   rw[hS]
   exact aG.D7 rfl
  ·replace h4:decide (r.write>=0)=false:=h4
   have hS:kJ r e= .fU [.dat (.elem ⟨e.value,jK (sF r (cO e.counts r.fr) (cO e.counts r.fr).length) r.to 1⟩),.bool true]:=by rw[kJ,iC,h1',h2,h3,h6,h4]; rfl
   conv=>whnf
   rw[hS]
   exact aG.D7 rfl
 replace h6:(r.kind==3)=false:=h6
 have hBt:=hB.get (by omega) r.to.toNat
 conv=>whnf
 repeat(refine VC.mk (by first|(simp only[Rw.rng,List.length_set]; omega)|(simp only[okI,cO] at *; omega)) ?_; conv=>whnf)
 refine⟨fun h4=>?_,fun h4=>?_⟩
 ·replace h4:decide (r.write>=0)=true:=h4
  have hS:kJ r e= .fU [.dat (.elem ⟨r.write,jK (cO e.counts r.fr) r.to 1⟩),.bool true]:=by rw[kJ,iC,h1',h2,h3,h6,h4]; rfl
  conv=>whnf
  rw[hS]
  exact aG.D7 rfl
 ·replace h4:decide (r.write>=0)=false:=h4
  have hS:kJ r e= .fU [.dat (.elem ⟨e.value,jK (cO e.counts r.fr) r.to 1⟩),.bool true]:=by rw[kJ,iC,h1',h2,h3,h6,h4]; rfl
  conv=>whnf
  rw[hS]
  exact aG.D7 rfl
abbrev nN(l:List (List Int)):OV:=.row 24 0 (.iR l) []
theorem Iz(l:List (List Int)):T.cZ (l.map Go.Ab.ints)=true:=by
 rw[eG]; intro t ht; obtain⟨x,_,rfl⟩:=List.mem_map.1 ht; rfl
theorem VG{h:Hz}{j:Nat}{Z:Nat->Prop}{l:List (List Int)}(hz:Z j)(q:h.get j=some (nN l)):T.sub Z h.aj (V.row 0 false (.iR l)).aF (V.own j).aF:=by
 show T.sub Z h.aj (.sl 0 false (l.map Go.Ab.ints)) (.own j)
 simp only[T.sub]
 refine⟨trivial,hz,Iz l,by decide,24,?_⟩
 have:=aO q; simpa [OV.ay,Rw.aS,V.aS] using this
theorem Tc{Z:Nat->Prop}{h:Hz}{i j:Nat}{r:Rw}{l:List (List Int)}{c:List Int}(q:h.get i=some (.row 24 0 r [.own j]))(hr:r.aS=l.map Go.Ab.ints)(hi: ¬ Z i)(hz:Z j)(qj:h.get j=some (xK c)) :
  ∃ o',h.get i=some o'/\ ¬ Z i/\o'.ay.ty=(nN (l++[c])).ay.ty/\o'.ay.k=(nN (l++[c])).ay.k/\T.dG Z h.aj (nN (l++[c])).ay.l o'.ay.l/\(nN (l++[c])).ay.l.map T.kd=o'.ay.l.map T.kd/\(nN (l++[c])).ay.l.map fJ=o'.ay.l.map fJ:=by
 have e1:(nN (l++[c])).ay.l=r.aS++[Go.Ab.ints c]:=by rw[hr]; simp[OV.ay,Rw.aS,V.aS]
 refine⟨_,q,hi,rfl,rfl,?_,?_,?_⟩
 ·rw[e1]
  exact qH (aW _) ⟨D6 hz qj,trivial⟩
 ·rw[e1]; show _=List.map T.kd (r.aS++[.own j])
  rw[List.map_append,List.map_append]; rfl
 ·rw[e1]; show _=List.map fJ (r.aS++[.own j])
  rw[List.map_append,List.map_append]; rfl
theorem eY{α:Type}{l:List α}{i:Nat}{d:α}(h:i<l.length):l.getD i d∈l:=by
 rw[List.getD_eq_getElem?_getD,List.getElem?_eq_getElem h]; exact List.getElem_mem h
def oW(N:List (List Int)):Nat->List (List Int)
 |0=>[[]]
 |i+1=>(oW N i).flatMap fun h=>(N.getD i []).map fun n=>h++[n]
def JR(N:List (List Int))(i a:Nat):List (List Int):=((oW N i).take a).flatMap fun h=>(N.getD i []).map fun n=>h++[n]
def Ey(N:List (List Int))(i a b:Nat):List (List Int):=JR N i a++((N.getD i []).take b).map fun n=>(oW N i).getD a []++[n]
theorem Td{N:List (List Int)}{i a:Nat}(ha:a<(oW N i).length):JR N i (a+1)=Ey N i a (N.getD i []).length:=by
 unfold JR Ey
 have ht:(oW N i).take (a+1)=(oW N i).take a++[(oW N i).getD a []]:=by rw[List.take_add_one]; simp[ha]
 rw[ht,List.flatMap_append,List.take_length]; simp[JR]
theorem MC{N:List (List Int)}{i:Nat}:JR N i (oW N i).length=oW N (i+1):=by
 unfold JR; rw[List.take_length]; rfl
theorem Tf{N:List (List Int)}{i a b:Nat}(hb:b<(N.getD i []).length):Ey N i a (b+1)=Ey N i a b++[(oW N i).getD a []++[(N.getD i []).getD b 0]]:=by
 unfold Ey
 revert hb
 generalize N.getD i []=L
 intro hb
 have ht:L.take (b+1)=L.take b++[L.getD b 0]:=by rw[List.take_add_one]; simp[hb]
 rw[ht,List.map_append,<- List.append_assoc]; rfl
theorem VH{α β:Type}{f:α->List β}{k:Nat}: ∀ {l:List α},(∀ x∈l,(f x).length<=k)->(l.flatMap f).length<=l.length*k:=by
 intro l
 induction l with
 |nil=>intro _; simp
 |cons x r ih =>
  intro h
  rw[List.flatMap_cons,List.length_append,List.length_cons,Nat.succ_mul]
  have:=h x (by simp); have:=ih fun y hy=>h y (by simp[hy]); omega
def zT(N:List (List Int)):Prop:= ∀ i,(N.getD i []).length<=3
theorem MF{N:List (List Int)}(hN:zT N){i a:Nat}(ha:a<=(oW N i).length):(JR N i a).length<=a*3:=by
 have:=VH (l:=(oW N i).take a) (f:=fun h=>(N.getD i []).map fun n=>h++[n]) (k:=3) (fun x _=>by rw[List.length_map]; exact hN i)
 rw[List.length_take,Nat.min_eq_left ha] at this
 exact this
theorem YI{N:List (List Int)}(hN:zT N): ∀ {i:Nat},(oW N i).length<=3^i:=by
 intro i
 induction i with
 |zero=>exact Nat.le_refl _
 |succ i ih =>
  have:=MF hN (Nat.le_refl (oW N i).length)
  rw[MC] at this
  rw[Nat.pow_succ]; omega
theorem JU{N:List (List Int)}: ∀ {i:Nat} {c:List Int},c∈oW N i->c.length=i:=by
 intro i
 induction i with
 |zero=>intro c h; simp[oW] at h; rw[h]; rfl
 |succ i ih =>
  intro c h
  simp only[oW,List.mem_flatMap,List.mem_map] at h
  obtain⟨x,hx,n,_,rfl⟩:=h
  rw[List.length_append,ih hx]; rfl
theorem QW{N:List (List Int)}(hN:zT N){i:Nat}(hi:i<=6):(oW N i).length<=729:=by
 have h1:=YI hN (i:=i)
 have h2:3^i<=3^6:=Nat.pow_le_pow_right (by decide) hi
 have h3:3^6=729:=by decide
 omega
def Dk(v:Int)(l:List (List Int)):List Elem:=(l.map fun c=>(⟨v,c⟩:Elem)).filter fun e=>decide (0<xQ e)
def lF(v:Int)(N:List (List Int)):List Elem:=Dk v (oW N N.length)
theorem Ti{v:Int}{l:List (List Int)}{a:Nat}(ha:a<l.length):Dk v (l.take (a+1))=Dk v (l.take a)++(if decide (0<xQ ⟨v,l.getD a []⟩)=true then [⟨v,l.getD a []⟩] else []):=by
 unfold Dk
 have ht:l.take (a+1)=l.take a++[l.getD a []]:=by rw[List.take_add_one]; simp[ha]
 rw[ht,List.map_append,List.filter_append]
 by_cases h:decide (0<xQ ⟨v,l.getD a []⟩)=true
 ·rw[if_pos h]; simp only[List.map_cons,List.map_nil,List.filter_cons,h,if_true,List.filter_nil]
 ·rw[if_neg h]; simp only[List.map_cons,List.map_nil,List.filter_cons,h,Bool.false_eq_true,if_false,List.filter_nil]
theorem MG{v:Int}{l:List (List Int)}:(Dk v l).length<=l.length:=by
 unfold Dk
 have:=List.length_filter_le (fun e=>decide (0<xQ e)) (l.map fun c=>(⟨v,c⟩:Elem))
 rwa [List.length_map] at this
theorem YJ:dL [T.sl 0 false []] [T.sl 0 true []]:=by
 intro Z h; simp[T.dG,T.sub]
set_option maxHeartbeats 1000000 in
theorem S.Hy(v:Int)(N:List (List Int))(f:Bool)(hN6:N.length<=6)(hN:zT N)(n:Nat):aT Tryz.prog 76 (V.aS [.int v,.row 0 f (.iR N)]) (Hz.aj []) n (fun t hp=>t= .own n/\hp=Hz.aj [(n,some (iW (lF v N)))]):=by
 refine o7.of (nx:=0) Bd.lV (by simp) ⟨_,_,rfl,rfl⟩ rfl rfl ?_
 conv=>whnf
 refine aP.xE 1 [0,18,19] (fun i:Nat=>[(20,.int i),(5,.own 0)]) (fun i=>[(0,nN (oW N i))]) (fun i=>i<=N.length) (fun i=>N.length-i) 0 [1] rfl (by decide) (fun _=>rfl) (Nat.zero_le _) ?_ ?_ ?_
 ·exact(sR rfl)
 ·exact⟨nV rfl rfl rfl ⟨rfl,rfl⟩ YJ,trivial⟩
 conv=>whnf
 refine⟨(sR rfl),rfl,?_⟩
 rintro i hi
 have hcap:=QW hN (i:=i) (by omega)
 have h3:=hN i
 conv=>whnf
 refine⟨fun h1=>?_,fun h1=>?_⟩
 ·have hi':i<N.length:=by simpa using h1
  conv=>whnf
  refine .mk (by simp only[Rw.rng] at *; first|omega|(simp_all; done)|(simp_all; omega)) ?_
  conv=>whnf
  refine aP.nil 8 24 0 (by rfl) rfl rfl rfl ?_
  refine aP.xE 2 [0,7,18,19,20,24,25] (fun a:Nat=>[(26,.int a),(8,.own 1)]) (fun a=>[(0,nN (oW N i)),(1,nN (JR N i a))]) (fun a=>a<=(oW N i).length) (fun a=>(oW N i).length-a) 0 [0,9] rfl (by decide) (fun _=>rfl) (Nat.zero_le _) ?_ ?_ ?_
  ·exact(sR rfl)
  ·exact⟨cu rfl rfl,cu rfl rfl,trivial⟩
  conv=>whnf
  refine⟨(sR rfl),rfl,?_⟩
  rintro a ha
  have hA:=MF hN ha
  conv=>whnf
  refine⟨fun h2=>?_,fun h2=>?_⟩
  ·have ha':a<(oW N i).length:=by simpa using h2
   have hcl:((oW N i).getD a []).length=i:=JU (eY ha')
   conv=>whnf
   repeat(refine VC.mk (by simp only[Rw.rng] at *; first|omega|(simp_all; done)|(simp_all; omega)) ?_; conv=>whnf)
   refine aP.acR 2 [0,7,10,18,19,20,24,25,26,30,31] (fun b:Nat=>[(32,.int b),(8,.own 1)]) (fun b=>[(0,nN (oW N i)),(1,nN (Ey N i a b))]) (fun b=>b<=(N.getD i []).length) (fun b=>(N.getD i []).length-b) 0 [0,1] [(0,some (nN (oW N i))),(1,some (nN (JR N i a)))] rfl (by decide) (fun _=>rfl) (Nat.zero_le _) ?_ ?_ ?_ ?_
   ·exact(sR rfl)
   ·exact⟨fun _=>False,xX (Z:=fun _=>False) rfl (fun q=>q),xX (Z:=fun _=>False) rfl (fun q=>q),trivial⟩
   ·exact⟨cu rfl rfl,okF rfl nofun rfl rfl rfl ⟨rfl,rfl⟩ (by simp[Ey]),trivial⟩
   conv=>whnf
   refine⟨(sR rfl),rfl,?_⟩
   rintro b hb
   have hB:(Ey N i a b).length<=729*3+3:=by
    unfold Ey; rw[List.length_append,List.length_map,List.length_take]; omega
   conv=>whnf
   refine⟨fun h4=>?_,fun h4=>?_⟩
   ·have hb':b<(N.getD i []).length:=by simpa using h4
    conv=>whnf
    repeat(refine VC.mk (by first|(simp only[Rw.rng,Int.toNat_natCast]; omega)|(simp only[Rw.xW]; omega)) ?_; conv=>whnf)
    rw[show decide (((((oW N i).getD (a:Int).toNat []).length:Int))=(((oW N i).getD (a:Int).toNat []).length:Int))=true from decide_eq_true rfl]
    conv=>whnf
    refine YK.one ⟨.inr (Nat.zero_lt_succ _),?_⟩ ?_
    ·show(Rw.len (Rw.take _ _)+1)*8<=140737488355328/\Rw.len (Rw.take _ _)+1<=1152921504606846976
     rw[Rw.VI]; simp only[Rw.len,Int.toNat_natCast]; omega
    conv=>whnf
    repeat(refine VC.mk (by first|(show((Ey N i a b).length+(0+1))*24<=140737488355328/\(Ey N i a b).length+(0+1)<=1152921504606846976; omega)|(simp only[okI] at *; first|omega|(simp_all; done)|(simp_all; omega))) ?_; conv=>whnf)
    refine⟨[(0,some (nN (oW N i))),(17,some (nN (Ey N i a b++[((oW N i).getD a []).take ((((oW N i).getD a []).length:Int).toNat)++[(N.getD i []).getD b 0]])))],b+1,[0,17],⟨fun i=>i=15,xX (Z:=fun i=>i=15) (i:=0) rfl (by decide),Tc (Z:=fun i=>i=15) (i:=17) (j:=15) rfl rfl (by decide) rfl rfl,trivial⟩,by omega,by omega,(sR rfl),(sR rfl),cu rfl rfl,okF rfl nofun rfl rfl rfl ⟨rfl,rfl⟩ ?_,trivial⟩
    rw[Tf hb',Int.toNat_natCast,List.take_length]
   ·have hb':b=(N.getD i []).length:=by
     have: ¬ ((b:Int)<((N.getD i []).length:Int)):=of_decide_eq_false h4
     omega
    subst hb'
    rw[<- Td ha']
    conv=>whnf
    refine .mk (by simp only[okI] at *; first|omega|(simp_all; done)|(simp_all; omega)) ?_
    conv=>whnf
    refine⟨a+1,[0,1],by omega,by omega,(sR rfl),(sR rfl),cu rfl rfl,cu rfl rfl,trivial⟩
  ·have ha':a=(oW N i).length:=by
    have: ¬ ((a:Int)<((oW N i).length:Int)):=of_decide_eq_false h2
    omega
   subst ha'
   rw[MC]
   conv=>whnf
   refine .mk (by simp only[okI] at *; first|omega|(simp_all; done)|(simp_all; omega)) ?_
   conv=>whnf
   refine⟨i+1,[1],by omega,by omega,(sR rfl),(sR rfl),cu rfl rfl,trivial⟩
 ·have hi':i=N.length:=by
   have: ¬ ((i:Int)<(N.length:Int)):=of_decide_eq_false h1
   omega
  subst hi'
  conv=>whnf
  refine aP.nil 13 54 3 (by rfl) rfl rfl rfl ?_
  refine aP.xE 2 [0,52,53] (fun a:Nat=>[(54,.int a),(13,.own 1)]) (fun a=>[(0,nN (oW N N.length)),(1,iW (Dk v ((oW N N.length).take a)))]) (fun a=>a<=(oW N N.length).length) (fun a=>(oW N N.length).length-a) 0 [0,6] rfl (by decide) (fun _=>rfl) (Nat.zero_le _) ?_ ?_ ?_
  ·exact(sR rfl)
  ·exact⟨cu rfl rfl,cu rfl rfl,trivial⟩
  conv=>whnf
  refine⟨(sR rfl),rfl,?_⟩
  rintro a ha
  have hkl:=MG (v:=v) (l:=(oW N N.length).take a)
  rw[List.length_take] at hkl
  conv=>whnf
  refine⟨fun h2=>?_,fun h2=>?_⟩
  ·have ha':a<(oW N N.length).length:=by simpa using h2
   have hcl:((oW N N.length).getD a []).length=N.length:=JU (eY ha')
   have hn:=Ti (v:=v) ha'
   conv=>whnf
   repeat(refine VC.mk (by simp only[Rw.rng] at *; first|omega|(simp_all; done)|(simp_all; omega)) ?_; conv=>whnf)
   refine ah.pure (S.nK ⟨v,(oW N N.length).getD a []⟩ (by show((oW N N.length).getD a []).length<_; omega)) rfl ?_
   conv=>whnf
   refine⟨fun h3=>?_,fun h3=>?_⟩
   ·rw[if_pos h3] at hn
    conv=>whnf
    repeat(refine VC.mk (by first|(show((Dk v ((oW N N.length).take a)).length+(0+1))*32<=140737488355328/\(Dk v ((oW N N.length).take a)).length+(0+1)<=1152921504606846976; omega)|(simp only[okI] at *; first|omega|(simp_all; done)|(simp_all; omega))) ?_; conv=>whnf)
    refine⟨a+1,[0,17],by omega,by omega,(sR rfl),(sR rfl),cu rfl rfl,okF rfl nofun rfl rfl rfl ⟨rfl,rfl⟩ ?_,trivial⟩
    rw[hn]
    show List.map gV (Dk v (List.take a (oW N N.length))++[⟨v,(oW N N.length).getD a []⟩])++[]=List.map gV (Dk v (List.take a (oW N N.length)))++[gV ⟨v,(oW N N.length).getD a []⟩]
    simp
   ·rw[if_neg (by rw[h3]; decide),List.append_nil] at hn
    conv=>whnf
    refine .mk (by simp only[okI] at *; first|omega|(simp_all; done)|(simp_all; omega)) ?_
    conv=>whnf
    refine⟨a+1,[0,1],by omega,by omega,(sR rfl),(sR rfl),cu rfl rfl,okF rfl nofun rfl rfl rfl ⟨rfl,rfl⟩ (by rw[hn]),trivial⟩
  ·have ha':(oW N N.length).length<=a:=by simpa using h2
   rw[List.take_of_length_le ha']
   conv=>whnf
   exact mO.one (c:=n) (j:=1) (o:=iW (lF v N)) (t:=.own n) rfl rfl rfl nofun (.inr rfl) rfl (.eq rfl) ⟨rfl,rfl⟩
theorem S.lV(v:Int)(N:List (List Int))(f:Bool)(hN6:N.length<=6)(hN:zT N):uT Tryz.prog 76 (V.aS [.int v,.row 0 f (.iR N)]) (fun n=>.own n) (some ⟨54,3,(Rw.elems (lF v N)).aS⟩):=by
 refine⟨rfl,fun n=>rfl,fun ob h=>?_,fun ob h=>?_,fun n=>?_⟩
 ·cases h; exact wJ _
 ·cases h; exact show(3:Nat)≠eP by decide
 ·have:=S.Hy v N f hN6 hN n
  have e1:Hz.aj [(n,some (iW (lF v N)))]=gG no n (some ⟨54,3,(Rw.elems (lF v N)).aS⟩):=by
   rw[bn]; simp[gG,OV.ay,V.aS]; rfl
  rw[e1] at this
  exact this
theorem S.lW(a b:Elem)(ha:a.counts.length<2^40)(hb:b.counts.length<2^40):au Tryz.prog 80 [.dat (.elem a),.dat (.elem b)] (.bool (decide (a=b))):=by
 refine au.of Bd.lW (by simp) rfl rfl ?_
 conv=>whnf
 refine ah.pure (S.fQ a b ha hb) rfl ?_
 conv=>whnf
 refine aG.bool ?_
 rw[Bool.eq_iff_iff]; simp only[decide_eq_true_eq,beq_iff_eq]
 exact iP.symm
theorem S.VJ(l:List Elem)(n:Nat)(hl:l.length<2^30)(hs:eU l) :
  aT Tryz.prog 79 (V.aS [.own 0,.fn 80 []]) (h1 l).aj n
   (fun t hp=>(o9 l=l/\t= .own 0/\hp=(h1 l).aj)\/(∃ m,t= .nO 0 0 (o9 l).length/\hp=Hz.aj [(0,some (.row 54 3 (.elems (o9 l)) (List.replicate m zeroV)))])):=by
 refine o7.of (nx:=1) Bd.bU (by simp) ⟨_,_,.inr ⟨0,rfl,rfl⟩⟩ rfl rfl ?_
 conv=>whnf
 refine⟨fun h1=>?_,fun h1=>?_⟩
 ·conv=>whnf
  have hc:o9 l=l:=by
   have h2:l.length<2:=by simp at h1; omega
   rw[o9,FB (Nat.le_refl _) (fun i h3 h4=>by omega),List.take_length]
  exact mO.one (c:=0) (j:=0) (o:=iW l) (t:=.own 0) rfl rfl rfl (fun _=>rfl) (.inl rfl) rfl (.eq rfl) (.inl ⟨hc,rfl,rfl⟩)
 ·have h2:2<=l.length:=by simp at h1; omega
  conv=>whnf
  refine aP.same [0,1] (fun i:Nat=>[(5,.int i)]) (fun i=>1<=i/\i<=l.length/\ ∀ k,0<k->k<i->l.getD k default≠l.getD (k-1) default) (fun i=>l.length-i) 1 rfl (by decide) rfl (fun _=>rfl) ⟨by omega,by omega,fun k h3 h4=>by omega⟩ ⟨⟨_,rfl,rfl⟩,trivial⟩ ?_
  conv=>whnf
  refine⟨rfl,?_⟩
  rintro k ⟨hk0,hk,hne⟩
  have e1:((k:Int)-1).toNat=k-1:=by omega
  conv=>whnf
  refine⟨fun h3=>?_,fun h3=>?_⟩
  ·have hk':k<l.length:=by simpa using h3
   conv=>whnf
   repeat(refine VC.mk (by simp only[okI,Rw.rng]; omega) ?_; conv=>whnf)
   refine ah.pure (S.lW _ _ (hs.get _) (hs.get _)) rfl ?_
   conv=>whnf
   refine⟨fun h4=>?_,fun h4=>?_⟩
   ·have heq:l.getD k default=l.getD (k-1) default:=by
     rw[e1] at h4; simpa using h4
    have hdk:qV l k=l.take k:=FB hk hne
    have abf:qV l (k+1)=l.take k:=by rw[MH (by omega) heq,hdk]
    conv=>whnf
    refine .mk (by simp only[Rw.xW]; omega) ?_
    conv=>whnf
    refine aP.objs 1 [0,1,6] (fun j:Nat=>[(7,.int j),(5,.int (qV l (k+j)).length)]) (fun j=>[(0,iW (mid l (k+j)))]) (fun j=>1<=j/\k+j<=l.length/\(qV l (k+j)).length+1<=k+j) (fun j=>l.length-j) 1 [0] rfl (by decide) (fun _=>rfl) ⟨by omega,by omega,?_⟩ ?_ ?_ ?_
    ·rw[abf]; simp; omega
    ·refine⟨⟨_,rfl,.eq rfl⟩,⟨_,rfl,.eq ?_⟩,trivial⟩
     rw[abf]
     show T.int (((l.take k).length:Nat):Int)=T.int (k:Int)
     simp[Nat.min_eq_left hk]
    ·refine⟨⟨rfl,(fun _=>rfl),rfl,rfl,rfl,_,rfl,rfl,rfl,dL.of_eq ?_⟩,trivial⟩
     have:mid l (k+1)=l:=by unfold mid; rw[abf]; simp[Nat.min_eq_left hk]
     rw[this]
    conv=>whnf
    refine⟨(sR rfl),rfl,?_⟩
    rintro j ⟨hj0,hj,hdl⟩
    have hml:=YL hj
    have e2:((j:Int)-1).toNat=j-1:=by omega
    have hsm:eU (mid l (k+j)):=fun x hx=>by
     unfold mid at hx
     rcases List.mem_append.1 hx with hx|hx
     ·exact hs x (YM hx hj)
     ·exact hs x (List.mem_of_mem_drop hx)
    conv=>whnf
    refine⟨fun h5=>?_,fun h5=>?_⟩
    ·have hj':k+j<l.length:=by
      have h6:j<l.length-k:=by
       have:(j:Int)<(((Rw.elems l).len-k:Nat):Int):=by simpa using h5
       have e3:(Rw.elems l).len=l.length:=rfl
       rw[e3] at this
       omega
      omega
     have g1:=QX (l:=l) (j:=k+j) (i:=k+j) (by omega)
     have g2:=QX (l:=l) (j:=k+j) (i:=k+(j-1)) (by omega)
     conv=>whnf
     repeat(refine VC.mk (by first|(simp only[okI]; omega)|(show _/\_<(((l.length-k:Nat)):Int); omega)|(simp only[Rw.rng,hml,Int.toNat_natCast,e2]; omega)|(show(0:Int)<=_/\_<((mid l (k+j)).length:Int); rw[hml]; simp only[Int.toNat_natCast,e2]; omega)) ?_; conv=>whnf)
     refine ah.pure (S.lW _ _ (hsm.get _) (hsm.get _)) rfl ?_
     simp only[Int.toNat_natCast,e2,g1,g2]
     conv=>whnf
     have e4:k+(j-1)=k+j-1:=by omega
     refine⟨fun h6=>?_,fun h6=>?_⟩
     ·have hne':l.getD (k+j) default≠l.getD (k+j-1) default:=by
       rw[e4] at h6; simpa using h6
      have hst:=YN hj' (.inr hne')
      have hd1:qV l (k+j+1)=qV l (k+j)++[l.getD (k+j) default]:=by simp only[qV]; rw[if_pos (.inr hne')]
      conv=>whnf
      repeat(refine VC.mk (by first|(simp only[okI]; omega)|(show _/\_<(((l.length-k:Nat)):Int); omega)|(simp only[Rw.rng,hml,Int.toNat_natCast]; omega)|(show(0:Int)<=_/\_<((mid l (k+j)).length:Int); rw[hml]; simp only[Int.toNat_natCast]; omega)) ?_; conv=>whnf)
      refine⟨j+1,[0],⟨by omega,by omega,?_⟩,by omega,⟨⟨_,rfl,.eq rfl⟩,⟨_,rfl,.eq ?_⟩,trivial⟩,(sR rfl),⟨rfl,(fun _=>rfl),rfl,rfl,rfl,_,rfl,rfl,rfl,dL.of_eq ?_⟩,trivial⟩
      ·show(qV l (k+j+1)).length+1<=k+(j+1)
       rw[hd1]; simp; omega
      ·show T.int (((qV l (k+j+1)).length:Nat):Int)=T.int (((qV l (k+j)).length:Int)+1)
       rw[hd1]; simp
      ·show(iW (mid l (k+j+1))).ay.l=(OV.row 54 3 (.elems ((mid l (k+j)).set (((qV l (k+j)).length:Int)).toNat ((mid l (k+j)).getD ((k:Int).toNat+(j:Int).toNat) default))) []).ay.l
       simp only[Int.toNat_natCast,g1,hst]
     ·have heq':l.getD (k+j) default=l.getD (k+j-1) default:=by
       rw[e4] at h6; simpa using h6
      have hd1:qV l (k+j+1)=qV l (k+j):=MH (by omega) heq'
      conv=>whnf
      refine .mk (by simp only[okI] at *; first|omega|(simp_all; done)|(simp_all; omega)) ?_
      conv=>whnf
      refine⟨j+1,[0],⟨by omega,by omega,?_⟩,by omega,⟨⟨_,rfl,.eq rfl⟩,⟨_,rfl,.eq ?_⟩,trivial⟩,(sR rfl),⟨rfl,(fun _=>rfl),rfl,rfl,rfl,_,rfl,rfl,rfl,dL.of_eq ?_⟩,trivial⟩
      ·show(qV l (k+j+1)).length+1<=k+(j+1)
       rw[hd1]; omega
      ·show T.int (((qV l (k+j+1)).length:Nat):Int)=T.int ((qV l (k+j)).length:Int)
       rw[hd1]
      ·show(iW (mid l (k+j+1))).ay.l=(iW (mid l (k+j))).ay.l
       unfold mid; rw[hd1]
    ·have hj':k+j=l.length:=by
      have h6: ¬ (j:Int)<(((Rw.elems l).len-k:Nat):Int):=by simpa using h5
      have e3:(Rw.elems l).len=l.length:=rfl
      rw[e3] at h6
      omega
     have aeY:(qV l (k+j)).length<=l.length:=by have:=EK l (k+j); omega
     conv=>whnf
     repeat(refine VC.mk (by first|(simp only[Rw.xW,hml]; omega)|(refine⟨?_,rfl⟩; show((qV l (k+j)).length:Int).toNat<=(mid l (k+j)).length; rw[hml,Int.toNat_natCast]; omega)|(show(0:Int)<=((qV l (k+j)).length:Int)/\((qV l (k+j)).length:Int)<=(((mid l (k+j)).take ((qV l (k+j)).length:Int).toNat).length:Int); rw[List.length_take,hml,Int.toNat_natCast]; omega)|(show _<=(mid l (k+j)).length/\(mid l (k+j)).length=(mid l (k+j)).length; rw[hml]; simp only[Int.toNat_natCast]; omega)|(show(0:Int)<=_/\_<=(((mid l (k+j)).take _).length:Int); rw[List.length_take,hml]; simp only[Int.toNat_natCast]; omega)) ?_; conv=>whnf)
     have htk:(mid l (k+j)).take ((qV l (k+j)).length:Int).toNat=o9 l:=by
      rw[Int.toNat_natCast]; unfold mid; rw[List.take_left,hj']; rfl
     have hcl:((qV l (k+j)).length:Int).toNat=(o9 l).length:=by rw[Int.toNat_natCast,hj']; rfl
     refine mO.one (c:=0) (j:=0) (o:=.row 54 3 (.elems (o9 l)) (List.replicate ((mid l (k+j)).length-((qV l (k+j)).length:Int).toNat) zeroV)) (t:=.nO 0 0 (o9 l).length) ?_ (MI _ _ _) (JV _ _) (fun _=>rfl) (.inl rfl) rfl (.eq ?_) (.inr ⟨_,rfl,rfl⟩)
     ·rw[<- htk]; rfl
     ·rw[<- hcl]; rfl
   ·conv=>whnf
    refine .mk (by simp only[okI] at *; first|omega|(simp_all; done)|(simp_all; omega)) ?_
    conv=>whnf
    refine⟨k+1,⟨by omega,by omega,fun i h5 h6=>?_⟩,by omega,⟨⟨_,rfl,rfl⟩,trivial⟩,?_,rfl⟩
    ·by_cases e:i=k
     ·subst e; rw[e1] at h4; simpa using h4
     ·exact hne i h5 (by omega)
    ·repeat' (first|exact trivial|exact⟨_,rfl,rfl⟩|constructor)
  ·conv=>whnf
   have hk':l.length<=k:=by simpa using h3
   have hc:o9 l=l:=by
    rw[o9,FB (Nat.le_refl _) (fun i h3 h4=>hne i h3 (by omega)),List.take_length]
   exact mO.one (c:=0) (j:=0) (o:=iW l) (t:=.own 0) rfl rfl rfl (fun _=>rfl) (.inl rfl) rfl (.eq rfl) (.inl ⟨hc,rfl,rfl⟩)
theorem S.rJ(l:List Elem)(n:Nat)(hl:l.length<2^30)(hs:eU l) :
  aT Tryz.prog 49 (V.aS [.own 0]) (h1 l).aj n
   (fun t hp=>(t= .own 0/\hp=(h1 (qI l)).aj)\/(∃ m,t= .nO 0 0 (qI l).length/\hp=Hz.aj [(0,some (.row 54 3 (.elems (qI l)) (List.replicate m zeroV)))])):=by
 refine o7.of (nx:=1) Bd.rJ (by simp) ⟨_,_,.inl ⟨rfl,rfl⟩⟩ rfl rfl ?_
 conv=>whnf
 refine ah.heap (S.SortFunc l _ hl hs) ?_
 rintro t hp ⟨rfl,rfl⟩
 refine⟨.fU [],h1 (oD l),rfl,rfl,?_⟩
 conv=>whnf
 refine ah.heap (S.VJ (oD l) _ (by rw[Dl]; exact hl) (MJ hs)) ?_
 rintro t hp (⟨hc,rfl,rfl⟩|⟨m,rfl,rfl⟩)
 ·refine⟨.own 0,h1 (oD l),rfl,rfl,?_⟩
  conv=>whnf
  refine mO.one (c:=0) (j:=0) (o:=iW (oD l)) (t:=.own 0) rfl rfl rfl (fun _=>rfl) (.inl rfl) rfl (.eq rfl) (.inl ⟨rfl,?_⟩)
  rw[qI,hc]
 ·refine⟨.nO 0 0 (o9 (oD l)).length,[(0,some (.row 54 3 (.elems (o9 (oD l))) (List.replicate m zeroV)))],rfl,rfl,?_⟩
  conv=>whnf
  exact mO.one (c:=0) (j:=0) (o:=.row 54 3 (.elems (o9 (oD l))) (List.replicate m zeroV)) (t:=.nO 0 0 (o9 (oD l)).length) rfl (MI _ _ _) (JV _ _) (fun _=>rfl) (.inl rfl) rfl (.eq rfl) (.inr ⟨m,rfl,rfl⟩)
theorem ah.VK{h:Hz}{i n:Nat}{l:List Elem}{K:V->Hz->Prop}{KW:Nat->V->Hz->Prop}(hi:h.get i=some (iW l))(hn:h.get n=none)(hl:l.length<2^30)(hs:eU l)
  (h1:K (.own i) ((i,some (iW (qI l)))::h)) (h2: ∀ m,K (.nO i 0 (qI l).length) ((i,some (.row 54 3 (.elems (qI l)) (List.replicate m zeroV)))::h)):ah Tryz.prog false none 49 [.own i] h n K KW:=by
 refine ah.abg (ts:=[.own 0]) (S.rJ l 1 hl hs) rfl rfl rfl rfl hi hn ?_
 rintro t hp (⟨rfl,rfl⟩|⟨m,rfl,rfl⟩)
 ·exact .inl ⟨.own i,iW (qI l),rfl,rfl,rfl,h1⟩
 ·exact .inl ⟨.nO i 0 _,.row 54 3 (.elems (qI l)) (List.replicate m zeroV),rfl,JV _ _,rfl,h2 m⟩
theorem ah.VL{P:Program}{f:FuncId}{args args':List V}{h h2:Hz}{n ty k:Nat}{r:Rw}{K:V->Hz->Prop}{KW:Nat->V->Hz->Prop}(Z:Nat->Prop)(F:Pm Z h h2)(hs:T.dG Z h.aj (V.aS args') (V.aS args))
  (H:uT P f (V.aS args') (fun n=>.own n) (some ⟨ty,k,r.aS⟩)) (hK:K (.own n) ((n,some (.row ty k r []))::h2)):ah P false none f args h n K KW:=by
 refine⟨.inl ?_⟩
 refine aT.frz Z (ts2:=V.aS args') (h2:=h2.aj) (aT.mono (uT.frame H h2.aj n) ?_) hs fun i ob hi=>?_
 ·rintro t hp ⟨rfl,rfl⟩
  exact⟨.own n,_,rfl,by rw[bn]; simp[gG,OV.ay,V.aS],(fun e=>by cases e),hK⟩
 ·simp only[Hz.aj,Option.map_eq_some_iff] at hi
  obtain⟨o,e1,rfl⟩:=hi
  obtain⟨o',a1,a2,a3,a4,a5,a6,a7⟩:=AU F e1
  exact⟨o'.ay,aO a1,a2,a3,a4,a5,a6,a7⟩
theorem VN{Z:Nat->Prop}{h:Hp}{t u:T}(hs:T.sub Z h t u): ∀ {a b:List T} {i:Nat},T.dG Z h a b->T.dG Z h (a.set i t) (b.set i u):=by
 intro a
 induction a with
 |nil=>intro b i q; cases b with
  |nil=>exact trivial
  |cons _ _=>exact q.elim
 |cons x r ih =>
  intro b i q
  cases b with
  |nil=>exact q.elim
  |cons y s =>
   cases i with
   |zero=>exact⟨hs,q.2⟩
   |succ i=>exact⟨q.1,ih q.2⟩
theorem MK(n:Nat):dL ((List.replicate n ([]:List Int)).map Go.Ab.ints) (V.aS (List.replicate n (uJ .nil))):=by
 intro Z h
 rw[bY,List.map_replicate,List.map_replicate]
 have:T.sub Z h (Go.Ab.ints []) (uJ .nil).aF:=by simp[Go.Ab.ints,uJ,V.aF,T.sub,Rw.aS]
 induction n with
 |zero=>trivial
 |succ n ih=>exact⟨this,ih⟩
theorem Tj{Z:Nat->Prop}{h:Hp}(c:List Int):T.sub Z h (Go.Ab.ints c) (V.row 0 true (.ints c)).aF:=by simp[Go.Ab.ints,V.aF,Rw.aS,T.sub]
theorem JW(L:List (List Int))(i:Nat)(c:List Int):dL ((L.set i c).map Go.Ab.ints) (V.aS ((Rw.vs (.iR L)).set i (.row 0 true (.ints c)))):=by
 intro Z h
 rw[bY,List.map_set,List.map_set,<- bY,Rw.Pn]
 exact VN (Tj c) (aW _)
theorem ML(L:List (List Int))(i:Nat)(b c:List Int):dL ((L.set i c).map Go.Ab.ints) (V.aS (((Rw.vs (.iR L)).set i (.row 0 true (.ints b))).set i (.row 0 true (.ints c)))):=by
 rw[List.set_set]; exact JW L i c
theorem AV{n:Nat}(h:0<n):(bif isZero (.int n) then some Rw.nil else MN (n:Int).toNat .nil)=none:=by
 cases n with
 |zero=>omega
 |succ n=>rfl
theorem okS{ρ:Nat->Nat}{nx pn c n:Nat}{h:Hz}{s:List Nat}{o o':OV}(q1:Nat.blt c nx=true)(q2:Nat.blt c pn=true->n=c)(q3:nP n s=true)(q4:(o.good nx&&o.EL)=true)(q5:h.get n=some o')
  (q6:o'.ay.ty=o.ay.ty/\o'.ay.k=o.ay.k) (q7:dL o.ay.l o'.ay.l):Nat.blt c nx=true/\(Nat.blt c pn=true->n=c)/\nP n s=true/\o.good nx=true /\
   ∃ o',h.get n=some o'/\o'.ay.ty=o.ay.ty/\o'.ay.k=o.ay.k/\dL (T.bQ ρ o.ay.l) o'.ay.l:=by
 rw[Bool.and_eq_true] at q4
 exact⟨q1,q2,q3,q4.1,o',q5,q6.1,q6.2,by rw[OV.wK q4.2 ρ]; exact q7⟩
theorem rM{L:List (List Int)}{l:List T}(h:dL (L.map Go.Ab.ints) l):dL (nN L).ay.l l:=by
 show dL (List.map Go.Ab.ints L++[]) l
 rw[List.append_nil]; exact h
def FC(f:Nat->List Int)(n i:Nat):List (List Int):=(List.range i).map f++List.replicate (n-i) []
theorem IB{f:Nat->List Int}{n:Nat}:FC f n 0=List.replicate n []:=by simp[FC]
theorem MO{f:Nat->List Int}{n:Nat}:FC f n n=(List.range n).map f:=by simp[FC]
theorem MP{f:Nat->List Int}{n i:Nat}(hi:i<=n):(FC f n i).length=n:=by simp[FC]; omega
theorem IC{f:Nat->List Int}{n i:Nat}(hi:i<n):(FC f n i).set i (f i)=FC f n (i+1):=by
 have e1:n-i=(n-(i+1))+1:=by omega
 unfold FC
 rw[e1,List.replicate_succ,List.set_append_right _ _ (by simp)]
 have:i-((List.range i).map f).length=0:=by simp
 rw[this,List.set_cons_zero,List.range_succ]; simp
def zU(p:aH)(q:Prop')(x:Nat):List Int:=bif Dj (pz p q) x then [0,1,2] else [0]
def xG(p:aH)(q:Prop'):List (List Int):=(List.range p.states.length).map (zU p q)
def fiE(p:aH)(q:Prop'):List Elem:=qI (lF 0 (xG p q))
theorem ru{f:Nat->List Int}(hf: ∀ i,(f i).length<=3)(n:Nat):zT ((List.range n).map f):=by
 intro i
 rw[List.getD_eq_getElem?_getD,List.getElem?_map]
 cases hg:(List.range n)[i]? with
 |none=>simp
 |some j=>exact hf j
theorem MQ(p:aH)(q:Prop')(i:Nat):(zU p q i).length<=3:=by
 unfold zU; cases Dj (pz p q) i<;>simp
theorem JX{v:Int}{N:List (List Int)}(hN:zT N)(h6:N.length<=6):(lF v N).length<=729:=Nat.le_trans MG (QW hN h6)
theorem AX{v:Int}{N:List (List Int)}{e:Elem}(h:e∈lF v N):e.value=v/\e.counts.length=N.length/\e.counts∈oW N N.length/\0<xQ e:=by
 unfold lF Dk at h
 obtain⟨h1,h2⟩:=List.mem_filter.1 h
 obtain⟨c,hc,rfl⟩:=List.mem_map.1 h1
 exact⟨rfl,JU hc,hc,of_decide_eq_true h2⟩
theorem Tm{v:Int}{N:List (List Int)}(h6:N.length<=6):eU (lF v N):=fun e he=>by have:=(AX he).2.1; omega
set_option maxHeartbeats 1000000 in
theorem S.oG(p:aH)(q:Prop')(hp:gq p)(hq:jO q)(hv:kY p q=0):au Tryz.prog 47 [.dat (.mJ p),.dat (.prop q)] (.row 3 false (.elems (fiE p q))):=by
 have hst:=(oC (FD hv)).states
 have hpos:=(oC (FD hv)).pos
 refine au.of Bd.oG (by simp) rfl rfl ?_
 conv=>whnf
 refine ah.pure (S.kK p q hp hq hv) rfl ?_
 conv=>whnf
 rw[AV hpos]
 conv=>whnf
 refine .mk (by omega) ?_
 conv=>whnf
 refine aP.xE 19 [5,20] (fun i:Nat=>[(21,.int i),(7,.own 14)]) (fun i=>[(14,nN (FC (zU p q) p.states.length i))]) (fun i=>i<=p.states.length) (fun i=>p.states.length-i) 0 [14] rfl (by decide) (fun _=>rfl) (Nat.zero_le _) ?_ ?_ ?_
 ·exact(sR rfl)
 ·refine⟨okS rfl nofun rfl rfl rfl ⟨rfl,rfl⟩ (rM ?_),trivial⟩
  rw[IB]
  exact MK p.states.length
 conv=>whnf
 refine⟨(sR rfl),rfl,?_⟩
 rintro i hi
 have hSl:=MP (f:=zU p q) hi
 have hsl:=Tn hp hq
 conv=>whnf
 refine⟨fun h1=>?_,fun h1=>?_⟩
 ·have hi':i<p.states.length:=by simpa using h1
  have hstep:=IC (f:=zU p q) hi'
  conv=>whnf
  repeat(refine VC.mk (by simp only[Rw.rng,Int.toNat_natCast]; omega) ?_; conv=>whnf)
  refine ah.pure (S.slices_Contains_int (pz p q) i false (by omega)) rfl ?_
  conv=>whnf
  refine⟨fun h2=>?_,fun h2=>?_⟩
  ·have hn:zU p q i=[0,1,2]:=by rw[zU,h2]; rfl
   rw[hn] at hstep
   conv=>whnf
   repeat(refine VC.mk (by first|(simp only[List.length_set,Rw.VO,Rw.len,Int.toNat_natCast]; omega)|(simp only[okI] at *; first|omega|(simp_all; done)|(simp_all; omega))) ?_; conv=>whnf)
   refine⟨i+1,[14],by omega,by omega,(sR rfl),(sR rfl),okS rfl nofun rfl rfl rfl ⟨rfl,rfl⟩ (rM ?_),trivial⟩
   rw[<- hstep]
   exact ML _ _ _ _
  ·have hn:zU p q i=[0]:=by rw[zU,h2]; rfl
   rw[hn] at hstep
   conv=>whnf
   refine .mk (by simp only[okI] at *; first|omega|(simp_all; done)|(simp_all; omega)) ?_
   conv=>whnf
   refine⟨i+1,[14],by omega,by omega,(sR rfl),(sR rfl),okS rfl nofun rfl rfl rfl ⟨rfl,rfl⟩ (rM ?_),trivial⟩
   rw[<- hstep]
   exact JW _ _ _
 ·have hi':i=p.states.length:=by
   have: ¬ i<p.states.length:=by simpa using h1
   omega
  subst hi'
  rw[MO]
  conv=>whnf
  refine ah.VL (args':=[.int 0,.row 0 false (.iR (xG p q))]) (h2:=[]) (fun i=>i=14) trivial ⟨aB _,VG rfl rfl,trivial⟩ (S.lV 0 (xG p q) false (by simp[xG]; omega) (ru (MQ p q) _)) ?_
  conv=>whnf
  have h6:(xG p q).length<=6:=by simp[xG]; omega
  have hcl:=JX (v:=0) (ru (MQ p q) p.states.length) h6
  refine ah.VK rfl rfl (Nat.lt_of_le_of_lt hcl (by decide)) (Tm h6) ?_ (fun m=>?_)
  ·conv=>whnf
   exact aG.abh rfl
  ·conv=>whnf
   exact aG.abj rfl
theorem D8{a b:List Int}{j:Nat}(h:j<a.length):(a++b).getD j 0=a.getD j 0:=by
 simp[List.getD_eq_getElem?_getD,List.getElem?_append_left h]
theorem MR{a:List Int}{n:Int}:(a++[n]).getD a.length 0=n:=by
 simp[List.getD_eq_getElem?_getD]
theorem QY{N:List (List Int)}: ∀ {i:Nat} {c:List Int},c∈oW N i↔c.length=i/\ ∀ j,j<i->c.getD j 0∈N.getD j []:=by
 intro i
 induction i with
 |zero =>
  intro c
  simp only[oW,List.mem_singleton]
  constructor
  ·rintro rfl; exact⟨rfl,fun j hj=>by omega⟩
  ·rintro⟨h,_⟩; exact List.eq_nil_of_length_eq_zero h
 |succ i ih =>
  intro c
  simp only[oW,List.mem_flatMap,List.mem_map]
  constructor
  ·rintro⟨x,hx,n,hn,rfl⟩
   obtain⟨h1,h2⟩:=ih.1 hx
   refine⟨by rw[List.length_append,h1]; rfl,fun j hj=>?_⟩
   by_cases e:j=i
   ·subst e; rw[<- h1,MR,h1]; exact hn
   ·rw[D8 (by omega)]; exact h2 j (by omega)
  ·rintro⟨h1,h2⟩
   have hne:c≠[]:=by intro e; rw[e] at h1; cases h1
   have hc:c=c.dropLast++[c.getD i 0]:=by
    have e1:=(List.dropLast_concat_getLast hne).symm
    have e2:c.getLast hne=c.getD i 0:=by
     rw[List.getLast_eq_getElem,List.getD_eq_getElem?_getD,List.getElem?_eq_getElem (by omega),Option.getD_some]
     congr 1; omega
    rw[e2] at e1; exact e1
   have hl:c.dropLast.length=i:=by rw[List.length_dropLast]; omega
   refine⟨c.dropLast,ih.2 ⟨hl,fun j hj=>?_⟩,c.getD i 0,h2 i (by omega),hc.symm⟩
   have:=h2 j (by omega)
   rw[hc,D8 (by omega)] at this
   exact this
def AY(c:List Int)(x:Nat):List Int:=bif c.getD x 0==2 then [2,3,4] else [c.getD x 0]
def iK(c:List Int):List (List Int):=(List.range c.length).map (AY c)
theorem MS(c:List Int)(i:Nat):(AY c i).length<=3:=by
 unfold AY; cases c.getD i 0==2<;>simp
theorem IE{c:List Int}{j:Nat}(hj:j<c.length):(iK c).getD j []=AY c j:=by
 unfold iK
 simp[List.getD_eq_getElem?_getD,hj]
theorem lX(c:List Int):(iK c).length=c.length:=by simp[iK]
theorem MV{c:List Int}(_hc:EJ c){d:List Int}:d∈oW (iK c) c.length↔d.length=c.length/\ ∀ j,j<c.length->d.getD j 0∈AY c j:=by
 rw[QY]
 constructor
 ·rintro⟨h1,h2⟩; exact⟨h1,fun j hj=>by rw[<- IE hj]; exact h2 j hj⟩
 ·rintro⟨h1,h2⟩; exact⟨h1,fun j hj=>by rw[IE hj]; exact h2 j hj⟩
theorem MW{c:List Int}{j:Nat}{x:Int}(h:x∈AY c j):x=c.getD j 0\/(c.getD j 0=2/\(x=3\/x=4)):=by
 unfold AY at h
 cases hb:(c.getD j 0==2) with
 |true =>
  rw[hb] at h
  have h2:c.getD j 0=2:=by simpa using hb
  simp at h
  omega
 |false=>rw[hb] at h; simp at h; left; simpa using h
theorem abk{d:List Int}(h: ∀ j,j<d.length->0<=d.getD j 0/\d.getD j 0<=1048576):EJ d:=fun x hx=>by
 obtain⟨j,hj,e⟩:=List.mem_iff_getElem.1 hx
 have:=h j hj
 rw[List.getD_eq_getElem?_getD,List.getElem?_eq_getElem hj,Option.getD_some,e] at this
 exact this
theorem YO{c d:List Int}(hc:EJ c)(h:d∈oW (iK c) c.length):EJ d:=by
 obtain⟨h1,h2⟩:=(MV hc).1 h
 refine abk fun j hj=>?_
 have a:=MW (h2 j (by omega))
 have b:=hc.get (show j<c.length by omega)
 omega
def D9(r:Rule)(e:Elem):Option Elem:=(iC r e).map Vx
def uj(r:Rule)(l:List Elem):List Elem:=l.filterMap (D9 r)
def jL(r:Rule)(a:Elem):List Elem:=qI (uj r (lF a.value (iK a.counts)))
theorem Po{r:Rule}{l:List Elem}{j:Nat}(hj:j<l.length):uj r (l.take (j+1))=uj r (l.take j)++(D9 r (l.getD j default)).toList:=by
 unfold uj
 have ht:l.take (j+1)=l.take j++[l.getD j default]:=by rw[List.take_add_one]; simp[hj]
 rw[ht,List.filterMap_append]
 simp only[List.filterMap_cons,List.filterMap_nil]
 cases D9 r (l.getD j default)<;>rfl
theorem Dn{r:Rule}{l:List Elem}:(uj r l).length<=l.length:=List.length_filterMap_le _ _
theorem IG{r:Rule}{l:List Elem}{x:Elem}(h:x∈uj r l): ∃ e∈l,∃ y,iC r e=some y/\x=Vx y:=by
 obtain⟨e,he,h⟩:=List.mem_filterMap.1 h
 unfold D9 at h
 obtain⟨y,hy,rfl⟩:=Option.map_eq_some_iff.1 h
 exact⟨e,he,y,hy,rfl⟩
theorem Ea{r:Rule}{l:List Elem}{n:Nat}(hl: ∀ e∈l,e.counts.length=n){x:Elem}(h:x∈uj r l):x.counts.length=n:=by
 obtain⟨e,he,y,hy,rfl⟩:=IG h
 show(uU y.counts).length=n
 rw[uU,List.length_map,yS hy,hl e he]
set_option maxHeartbeats 1000000 in
theorem S.pF(r:Rule)(a:Elem)(hr:wI r)(hp:zQ a.counts.length r)(hc:EJ a.counts)(h0:0<a.counts.length)(hl:a.counts.length<=6):au Tryz.prog 48 [.dat (.rule r),.dat (.elem a)] (.row 3 false (.elems (jL r a))):=by
 refine au.of Bd.pF (by simp) rfl rfl ?_
 conv=>whnf
 rw[AV h0]
 conv=>whnf
 refine .mk (by omega) ?_
 conv=>whnf
 refine aP.acS 5 4 4 (.agg [.int 2,.int 3,.int 4]) rfl rfl rfl rfl (by decide) ?_
 refine aP.xE 15 [2,3,5,20,21] (fun i:Nat=>[(22,.int i),(6,.own 9)]) (fun i=>[(0,.box 85 19 (.dat (.rule r))),(1,.box 54 3 (.dat (.elem a))),(9,nN (FC (AY a.counts) a.counts.length i))]) (fun i=>i<=a.counts.length) (fun i=>a.counts.length-i) 0 [0,1,9] rfl (by decide) (fun _=>rfl) (Nat.zero_le _) ?_ ?_ ?_
 ·exact(sR rfl)
 ·refine⟨cu rfl rfl,cu rfl rfl,okS rfl nofun rfl rfl rfl ⟨rfl,rfl⟩ (rM ?_),trivial⟩
  rw[IB]
  exact MK a.counts.length
 conv=>whnf
 refine⟨(sR rfl),rfl,?_⟩
 rintro i hi
 have hSl:=MP (f:=AY a.counts) hi
 conv=>whnf
 refine⟨fun h1=>?_,fun h1=>?_⟩
 ·have hi':i<a.counts.length:=by simpa using h1
  have hstep:=IC (f:=AY a.counts) hi'
  conv=>whnf
  repeat(refine VC.mk (by simp only[Rw.rng,Int.toNat_natCast]; omega) ?_; conv=>whnf)
  refine⟨fun h2=>?_,fun h2=>?_⟩
  ·have hn:AY a.counts i=[2,3,4]:=by rw[AY,show(a.counts.getD i 0==2)=true from h2]; rfl
   rw[hn] at hstep
   conv=>whnf
   repeat(refine VC.mk (by first|(simp only[List.length_set,Rw.VO,Rw.len,Int.toNat_natCast]; omega)|(simp only[okI] at *; first|omega|(simp_all; done)|(simp_all; omega))) ?_; conv=>whnf)
   refine⟨i+1,[0,1,9],by omega,by omega,(sR rfl),(sR rfl),cu rfl rfl,cu rfl rfl,okS rfl nofun rfl rfl rfl ⟨rfl,rfl⟩ (rM ?_),trivial⟩
   rw[<- hstep]
   exact ML _ _ _ _
  ·have hn:AY a.counts i=[a.counts.getD i 0]:=by rw[AY,show(a.counts.getD i 0==2)=false from h2]; rfl
   rw[hn] at hstep
   conv=>whnf
   refine .mk (by simp only[okI] at *; first|omega|(simp_all; done)|(simp_all; omega)) ?_
   conv=>whnf
   refine⟨i+1,[0,1,9],by omega,by omega,(sR rfl),(sR rfl),cu rfl rfl,cu rfl rfl,okS rfl nofun rfl rfl rfl ⟨rfl,rfl⟩ (rM ?_),trivial⟩
   rw[<- hstep]
   exact JW _ _ _
 ·have hi':i=a.counts.length:=by
   have: ¬ i<a.counts.length:=by simpa using h1
   omega
  subst hi'
  rw[MO]
  conv=>whnf
  have h6:(iK a.counts).length<=6:=by rw[lX]; exact hl
  have hs3:=ru (MS a.counts) a.counts.length
  have hcl:(lF a.value (iK a.counts)).length<=729:=JX (v:=a.value) hs3 h6
  refine ah.VL (args':=[.int a.value,.row 0 false (.iR (iK a.counts))]) (h2:=[(0,some (.box 85 19 (.dat (.rule r)))),(1,some (.box 54 3 (.dat (.elem a))))]) (fun i=>i=9) ⟨xX (Z:=fun i=>i=9) rfl (by decide),xX (Z:=fun i=>i=9) rfl (by decide),trivial⟩ ⟨aB _,VG rfl rfl,trivial⟩ (S.lV a.value (iK a.counts) false h6 hs3) ?_
  conv=>whnf
  refine aP.nil 9 54 3 (by rfl) rfl rfl rfl ?_
  refine aP.xE 24 [2,42,43] (fun j:Nat=>[(44,.int j),(9,.own 23)]) (fun j=>[(0,.box 85 19 (.dat (.rule r))),(20,iW (lF a.value (iK a.counts))),(23,iW (uj r ((lF a.value (iK a.counts)).take j)))]) (fun j=>j<=(lF a.value (iK a.counts)).length) (fun j=>(lF a.value (iK a.counts)).length-j) 0 [0,20,23] rfl (by decide) (fun _=>rfl) (Nat.zero_le _) ?_ ?_ ?_
  ·exact(sR rfl)
  ·exact⟨cu rfl rfl,cu rfl rfl,cu rfl rfl,trivial⟩
  conv=>whnf
  refine⟨(sR rfl),rfl,?_⟩
  rintro j hj
  have hkl:=Dn (r:=r) (l:=(lF a.value (iK a.counts)).take j)
  rw[List.length_take] at hkl
  conv=>whnf
  refine⟨fun h2=>?_,fun h2=>?_⟩
  ·have hj':j<(lF a.value (iK a.counts)).length:=by simpa using h2
   have hstep:=Po (r:=r) hj'
   have hmem:(lF a.value (iK a.counts)).getD j default∈lF a.value (iK a.counts):=eY hj'
   obtain⟨_,g1,g2,_⟩:=AX hmem
   rw[lX] at g1 g2
   conv=>whnf
   repeat(refine VC.mk (by simp only[Rw.rng] at *; first|omega|(simp_all; done)|(simp_all; omega)) ?_; conv=>whnf)
   refine ah.pure (au.II (S.rH r ((lF a.value (iK a.counts)).getD j default) hr (by rw[g1]; exact hp) (YO hc g2) (by omega))) rfl ?_
   conv=>whnf
   refine⟨fun h3=>?_,fun h3=>?_⟩
   ·obtain⟨x,hx⟩:=Option.isSome_iff_exists.1 h3
    replace hx:iC r ((lF a.value (iK a.counts)).getD j default)=some x:=hx
    have hxl:=yS hx
    rw[D9,hx] at hstep
    rw[show iC r ((lF a.value (iK a.counts)).getD (j:Int).toNat default)=some x from hx]
    conv=>whnf
    refine ah.pure (S.mM x (by rw[hxl]; omega) (by rw[hxl]; omega)) rfl ?_
    conv=>whnf
    repeat(refine VC.mk (by first|(show((uj r ((lF a.value (iK a.counts)).take j)).length+(0+1))*32<=140737488355328/\(uj r ((lF a.value (iK a.counts)).take j)).length+(0+1)<=1152921504606846976; omega)|(simp only[okI] at *; first|omega|(simp_all; done)|(simp_all; omega))) ?_; conv=>whnf)
    refine⟨j+1,[0,20,43],by omega,by omega,(sR rfl),(sR rfl),cu rfl rfl,cu rfl rfl,okF rfl nofun rfl rfl rfl ⟨rfl,rfl⟩ ?_,trivial⟩
    rw[hstep]
    show List.map gV (uj r ((lF a.value (iK a.counts)).take j)++[Vx x])++[]=List.map gV (uj r ((lF a.value (iK a.counts)).take j))++[gV (Vx x)]
    simp
   ·replace h3:(iC r ((lF a.value (iK a.counts)).getD j default)).isSome=false:=h3
    rw[Option.isSome_eq_false_iff,Option.isNone_iff_eq_none] at h3
    rw[D9,h3] at hstep
    conv=>whnf
    refine .mk (by simp only[okI] at *; first|omega|(simp_all; done)|(simp_all; omega)) ?_
    conv=>whnf
    refine⟨j+1,[0,20,23],by omega,by omega,(sR rfl),(sR rfl),cu rfl rfl,cu rfl rfl,okF rfl nofun rfl rfl rfl ⟨rfl,rfl⟩ (by rw[hstep]; simp),trivial⟩
  ·have hj':(lF a.value (iK a.counts)).length<=j:=by simpa using h2
   rw[List.take_of_length_le hj']
   conv=>whnf
   have hsm:eU (uj r (lF a.value (iK a.counts))):=fun x hx=>by
    rw[Ea (n:=a.counts.length) (fun e he=>by rw[(AX he).2.1,lX]) hx]; omega
   have hpl:=Dn (r:=r) (l:=lF a.value (iK a.counts))
   refine ah.VK rfl rfl (Nat.lt_of_le_of_lt hpl (Nat.lt_of_le_of_lt hcl (by decide))) hsm ?_ (fun m=>?_)
   ·conv=>whnf
    exact aG.abh rfl
   ·conv=>whnf
    exact aG.abj rfl
def allM(m:Nat):Nat->List (List Int)
 |0=>[[]]
 |n+1=>(List.range (m+1)).flatMap fun(k:Nat)=>(allM m n).map fun c=>(k:Int)::c
theorem sG{m:Nat}: ∀ {n:Nat},(allM m n).length=(m+1)^n:=by
 intro n
 induction n with
 |zero=>rfl
 |succ n ih =>
  unfold allM
  rw[List.length_flatMap]
  have:(List.range (m+1)).map (fun(a:Nat)=>((allM m n).map fun c=>(a:Int)::c).length)=List.replicate (m+1) ((m+1)^n):=by
   rw[List.eq_replicate_iff]
   refine⟨by simp,fun b hb=>?_⟩
   obtain⟨a,_,rfl⟩:=List.mem_map.1 hb
   rw[List.length_map,ih]
  rw[this,List.sum_replicate_nat,Nat.pow_succ,Nat.mul_comm]
theorem FH{m:Nat}: ∀ {n:Nat} {c:List Int},c∈allM m n↔c.length=n/\ ∀ x∈c,0<=x/\x<=m:=by
 intro n
 induction n with
 |zero =>
  intro c
  simp only[allM,List.mem_singleton]
  constructor
  ·rintro rfl; exact⟨rfl,fun x hx=>by cases hx⟩
  ·rintro⟨h,_⟩; exact List.eq_nil_of_length_eq_zero h
 |succ n ih =>
  intro c
  simp only[allM,List.mem_flatMap,List.mem_range,List.mem_map]
  constructor
  ·rintro⟨k,hk,d,hd,rfl⟩
   obtain⟨h1,h2⟩:=ih.1 hd
   refine⟨by rw[List.length_cons,h1],fun x hx=>?_⟩
   rcases List.mem_cons.1 hx with rfl|hx
   ·omega
   ·exact h2 x hx
  ·rintro⟨h1,h2⟩
   cases c with
   |nil=>cases h1
   |cons x d =>
    have hx:=h2 x (by simp)
    refine⟨x.toNat,by omega,d,ih.2 ⟨by simpa using h1,fun y hy=>h2 y (by simp[hy])⟩,?_⟩
    rw[Int.toNat_of_nonneg hx.1]
def YP(p:aH)(q:Prop')(c:List Int):Bool:=decide (0<xQ ⟨0,c⟩)&& !(JY c (pz p q))
def initK(p:aH)(q:Prop')(l:List (List Int)):List Elem:=(l.filter (YP p q)).map fun c=>(⟨0,c⟩:Elem)
def qY(p:aH)(q:Prop'):List Elem:=initK p q (allM 2 p.states.length)
theorem AZ{x y:Int}{a b:List Int}(h:x<y\/(x=y/\cmpL a b<0)):cmpL (x::a) (y::b)<0:=by
 rw[cmpL]
 rcases h with h|⟨rfl,h⟩
 ·rw[if_pos h]; decide
 ·rw[if_neg (Int.lt_irrefl _),if_neg (Int.lt_irrefl _)]; exact h
theorem Tq{R:List Int->List Int->Prop}{f:Nat->List (List Int)}: ∀ {n:Nat},(∀ k,k<n->(f k).Pairwise R)->(∀ j k,j<k->k<n-> ∀ a∈f j,∀ b∈f k,R a b)->((List.range n).flatMap f).Pairwise R:=by
 intro n
 induction n with
 |zero=>intro _ _; exact List.Pairwise.nil
 |succ n ih =>
  intro h1 h2
  rw[List.range_succ,List.flatMap_append,List.pairwise_append]
  refine⟨ih (fun k hk=>h1 k (by omega)) (fun j k a b=>h2 j k a (by omega)),by simpa using h1 n (by omega),fun a ha b hb=>?_⟩
  obtain⟨j,hj,ha⟩:=List.mem_flatMap.1 ha
  have hb':b∈f n:=by simpa using hb
  exact h2 j n (List.mem_range.1 hj) (by omega) a ha b hb'
theorem MX{m:Nat}: ∀ {n:Nat},(allM m n).Pairwise fun a b=>cmpL a b<0:=by
 intro n
 induction n with
 |zero=>exact List.pairwise_singleton _ _
 |succ n ih =>
  unfold allM
  refine Tq (fun k _=>?_) (fun j k hjk _ a ha b hb=>?_)
  ·rw[List.pairwise_map]
   exact ih.imp fun h=>AZ (.inr ⟨rfl,h⟩)
  ·obtain⟨c,_,rfl⟩:=List.mem_map.1 ha
   obtain⟨d,_,rfl⟩:=List.mem_map.1 hb
   exact AZ (.inl (by omega))
theorem VP(p:aH)(q:Prop'):SS (qY p q):=by
 unfold SS qY initK
 rw[List.pairwise_map]
 refine(MX.filter _).imp fun h=>?_
 unfold gW
 rw[if_neg (Int.lt_irrefl _),if_neg (Int.lt_irrefl _)]; exact h
theorem abl{c l:List Int}:JY c l=false↔ ∀ i,i<c.length->0<c.getD i 0->Dj l i=true:=by
 constructor
 ·intro h i hi hp
  cases hb:Dj l i with
  |true=>rfl
  |false =>
   have:JY c l=true:=uZ.2 ⟨i,hi,by rw[hb]; simpa using hp⟩
   rw[this] at h; cases h
 ·intro h
  cases hb:JY c l with
  |false=>rfl
  |true =>
   obtain⟨i,hi,h2⟩:=uZ.1 hb
   simp at h2
   rw[h i hi (by simpa using h2.1)] at h2; cases h2.2
theorem IJ{p:aH}{q:Prop'}{j:Nat}(hj:j<p.states.length):(xG p q).getD j []=zU p q j:=by
 unfold xG; simp[List.getD_eq_getElem?_getD,hj]
theorem abm(p:aH)(q:Prop'):fiE p q=qY p q:=by
 refine IK (qJ _) (VP p q) fun x=>?_
 rw[fiE,rO]
 have hN:(xG p q).length=p.states.length:=by simp[xG]
 have key: ∀ c:List Int,c∈oW (xG p q) (xG p q).length↔(c∈allM 2 p.states.length/\JY c (pz p q)=false):=by
  intro c
  rw[QY,hN,FH,abl]
  constructor
  ·rintro⟨h1,h2⟩
   have h3: ∀ j,j<p.states.length->c.getD j 0∈zU p q j:=fun j hj=>by rw[<- IJ hj]; exact h2 j hj
   refine⟨⟨h1,fun x hx=>?_⟩,fun i hi hp=>?_⟩
   ·obtain⟨j,hj,e⟩:=List.mem_iff_getElem.1 hx
    have:=h3 j (by omega)
    rw[List.getD_eq_getElem?_getD,List.getElem?_eq_getElem hj,Option.getD_some,e] at this
    unfold zU at this
    cases hb:Dj (pz p q) j<;>rw[hb] at this<;>simp at this<;>omega
   ·have:=h3 i (by omega)
    unfold zU at this
    cases hb:Dj (pz p q) i with
    |true=>rfl
    |false=>rw[hb] at this; simp at this; rw[List.getD_eq_getElem?_getD] at hp; omega
  ·rintro⟨⟨h1,h2⟩,h3⟩
   refine⟨h1,fun j hj=>?_⟩
   rw[IJ hj]
   have hm:c.getD j 0∈c:=by
    rw[List.getD_eq_getElem?_getD,List.getElem?_eq_getElem (by omega)]; exact List.getElem_mem _
   have hr:=h2 _ hm
   have hs:=h3 j (by omega)
   unfold zU
   cases hb:Dj (pz p q) j with
   |true=>simp only[cond_true,List.mem_cons,List.not_mem_nil,or_false]; omega
   |false =>
    simp only[cond_false,List.mem_singleton]
    by_cases h0:0<c.getD j 0
    ·rw[hs h0] at hb; cases hb
    ·omega
 unfold lF Dk qY initK YP
 simp only[List.mem_filter,List.mem_map,Bool.and_eq_true,decide_eq_true_eq,Bool.not_eq_true']
 constructor
 ·rintro⟨⟨c,hc,rfl⟩,ht⟩
  have:=(key c).1 hc
  exact⟨c,⟨this.1,ht,this.2⟩,rfl⟩
 ·rintro⟨c,⟨h1,h2,h3⟩,rfl⟩
  exact⟨⟨c,(key c).2 ⟨h1,h3⟩,rfl⟩,h2⟩
theorem A8{p:aH}{q:Prop'}(h:uI p q=0):kY p q=0:=by
 unfold uI at h
 by_cases h0:kY p q=0
 ·exact h0
 ·rw[show(kY p q !=0)=true by simpa using h0] at h; exact absurd h h0
theorem wL{p:aH}{q:Prop'}(h:uI p q=0):CX p=0:=by
 have h0:=A8 h
 unfold uI at h
 rw[h0] at h; exact h
end Go.Proofs.YtajmbgljnaljiaaGreatDoor
namespace Go.Proofs.YtajmbgljnaljiaaGreatDoor
open Go.Ab Go.Proofs
set_option maxRecDepth 100000
theorem EM{d:List Int}(h:EJ d):d.all Iy=true:=List.all_eq_true.2 fun x hx=>QZ.2 (h x hx)
structure Tt(a:Elem):Prop where
 ok:EJ a.counts
 two:a.counts.all Vu=true
 len:a.counts.length<=6
 tot:0<xQ a
theorem Tt.pos{a:Elem}(h:Tt a):0<a.counts.length:=by
 have:=h.tot
 rcases Nat.eq_zero_or_pos a.counts.length with h0|h0
 ·rw[JQ h.len (EM h.ok),List.eq_nil_of_length_eq_zero h0] at this; simp at this
 ·exact h0
theorem abn{p:aH}{a:Elem}(hc:CX p=0)(h:Hu p a=0):Tt a/\a.counts.length=p.states.length:=by
 have hst:=(oC (iV (ou hc)).1).states
 unfold Hu at h
 cases hb:cvB p a with
 |true=>rw[hb] at h; cases h
 |false =>
  rw[hb] at h
  rw[aa6 hc] at hb
  obtain⟨h1,h2⟩:=abb hb
  unfold Vw at hb
  rw[Bool.or_eq_false_iff] at hb
  have h3:xQ a≠0:=by simpa using hb.2
  have h4:=aa4 a
  cases ha:a.counts.all Vu with
  |false=>rw[ha] at h; cases h
  |true=>exact⟨⟨h2,ha,by omega,by omega⟩,h1⟩
theorem abo{p:aH}{r:Int}{a:Elem}(h:Fg p r a=0):QV p r=0/\Hu p a=0:=by
 unfold Fg at h
 by_cases h0:QV p r=0
 ·rw[h0] at h; exact⟨h0,h⟩
 ·rw[show(QV p r !=0)=true by simpa using h0] at h; exact absurd h h0
theorem YQ{p:aH}{r:Int}{a:Elem}(h:Fg p r a=0):Tt a/\zQ a.counts.length (p.rules.getD r.toNat default)/\(0<=r/\r<p.rules.length)/\CX p=0:=by
 obtain⟨h1,h2⟩:=abo h
 have hc:=acQ h1
 obtain⟨g1,g2⟩:=abn hc h2
 obtain⟨r1,r2,r3⟩:=acP hc h1
 exact⟨g1,by rw[g2]; exact(wtR hc r2).place,⟨r1,r3⟩,hc⟩
def VQ(p:aH)(r:Int)(a:Elem):List Elem:=bif Fg p r a==0 then jL (p.rules.getD r.toNat default) a else []
theorem S.vg(p:aH)(r:Int)(a:Elem)(hp:gq p)(ha:a.counts.length<2^30):au Tryz.prog 31 [.dat (.mJ p),.int r,.dat (.elem a)] (.fU [.row 3 false (.elems (VQ p r a)),.int (Fg p r a)]):=by
 refine au.of Bd.vg (by simp) rfl rfl ?_
 conv=>whnf
 refine ah.pure (S.lD p r hp) rfl ?_
 conv=>whnf
 refine⟨fun h1=>?_,fun h1=>?_⟩
 ·conv=>whnf
  have e:Fg p r a=QV p r:=by rw[Fg,h1]; rfl
  rw[VQ,e,show(QV p r==0)=false by simpa using h1]
  exact aG.aaM
 have e:Fg p r a=Hu p a:=by rw[Fg,h1]; rfl
 conv=>whnf
 refine ah.pure (S.kH p a hp ha) rfl ?_
 conv=>whnf
 refine⟨fun h2=>?_,fun h2=>?_⟩
 ·conv=>whnf
  rw[VQ,e,show(Hu p a==0)=false by simpa using h2]
  exact aG.aaM
 have h0:Fg p r a=0:=by rw[e]; simpa using h2
 obtain⟨hA,hpl,JZ,_⟩:=YQ h0
 conv=>whnf
 refine .mk (by simp only[Rw.rng]; omega) ?_
 conv=>whnf
 refine ah.pure (S.pF (p.rules.getD r.toNat default) a (hp.rule _) hpl hA.ok hA.pos hA.len) rfl ?_
 rw[VQ,h0]
 conv=>whnf
 exact aG.eqv rfl
end Go.Proofs.YtajmbgljnaljiaaGreatDoor
