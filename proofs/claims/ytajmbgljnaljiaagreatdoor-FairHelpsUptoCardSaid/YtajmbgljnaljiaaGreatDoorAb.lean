/-
 fair: a step with a rule. No condition.
-/
import Derived.Test.YtajmbgljnaljiaaGreatDoorAa
import Derived.Test.YtajmbgljnaljiaaGreatDoorLg
import Derived.Test.YtajmbgljnaljiaaGreatDoorKa
import Derived.Test.YtajmbgljnaljiaaGreatDoorFa
namespace Go.Proofs.YtajmbgljnaljiaaGreatDoor
open Go.Ab Go.Proofs
set_option maxRecDepth 100000
theorem S.Uy(l:List Int)(f:Bool)(h0:0<l.length)(hl:l.length<2^30)(n:Nat):aV Tryz.prog 92 (V.aS [.row 0 f (.ints l)]) (Hz.au []) n (fun t hp=>t= .own n/\hp=Hz.au [(n,some (mg l))]):=by
 refine pJ.of (nx:=0) Bd.ku (by simp) ⟨_,_,rfl,rfl⟩ rfl rfl ?_
 conv=>whnf
 refine ZR.mk (fun hz=>absurd hz (by show ¬ l.length=0; omega)) ?_
 conv=>whnf
 refine Fork.mk (fun q=>absurd (q.symm.trans ((rfl:false=false))).symm Bool.false_ne_true) (fun _=>?_)
 conv=>whnf
 refine .mk (by simp only[nY,o9,Rw.len]; omega) ?_
 conv=>whnf
 repeat(refine VC.mk (by simp only[nY,o9,Rw.len]; omega) ?_; conv=>whnf)
 exact nP.one (c:=n) (o:=mg l) (t:=.own n) rfl rfl rfl nofun (.inr rfl) rfl (.eq rfl) ⟨rfl,rfl⟩
theorem S.Uz(l:List Int)(f:Bool)(h0:0<l.length)(hl:l.length<2^30):wC Tryz.prog 92 [.sl 0 f (l.map T.int)] (fun n=>.own n) (some ⟨3,0,l.map T.int⟩):=by
 refine⟨rfl,fun n=>rfl,fun ob h=>?_,fun ob h=>?_,fun n=>?_⟩
 ·cases h
  show T.dK (l.map T.int)=true
  rw[dR]; intro t ht; obtain⟨x,_,rfl⟩:=List.mem_map.1 ht; rfl
 ·cases h; exact show(0:Nat)≠fQ by decide
 ·have:=S.Uy l f h0 hl n
  have e1:Hz.au [(n,some (mg l))]=iq no n (some ⟨3,0,l.map T.int⟩):=by
   rw[bG]; simp[iq,OV.ay,Rw.aS,V.aS]; rfl
  rw[e1] at this
  exact this
theorem acy{c:List Int}(hc: ∀ i,0<=c.getD i 0)(i:Nat):decide (0<c.getD i 0)= !(c.getD i 0==0):=by
 rw[Bool.eq_iff_iff]; simp only[decide_eq_true_eq,Bool.not_eq_true',beq_eq_false_iff_ne,ne_eq]
 have:=hc i; omega
theorem S.uy(r:Rule)(c:List Int)(f:Bool)(hr:yt r)(hc:c.length<2^40)(hpos: ∀ i,0<=c.getD i 0):aj Tryz.prog 93 [.dat (.rule r),.row 0 f (.ints c)] (.bool (rG r c)):=by
 have g1:=hr.ex; have g2:=hr.all
 refine aj.of Bd.uy (by simp) rfl rfl ?_
 conv=>whnf
 refine aB.same [2,12,13] (fun i:Nat=>[(14,.int i),(5,.bool (wG r.ex c i))]) (fun i=>i<=c.length/\zS r.all c i=false) (fun i=>c.length-i) 0 rfl (by decide) rfl (fun _=>rfl) ⟨by omega,rfl⟩ ⟨⟨_,rfl,rfl⟩,⟨_,rfl,?_⟩,trivial⟩ ?_
 ·show(V.bool (wG r.ex c 0)).aI=(V.bool ((r.ex.length:Int)==0)).aI
  rw[wG]; simp
 conv=>whnf
 refine⟨rfl,?_⟩
 rintro i ⟨hi,hall⟩
 conv=>whnf
 refine⟨fun h3=>?_,fun h3=>?_⟩
 ·have hi':i<c.length:=by simpa using h3
  have hp:=acy hpos i
  conv=>whnf
  repeat(refine VC.mk (by first|exact id|exact fun h=>⟨h,h⟩|(simp only[Rw.rng] at *; first|omega|(simp_all; done)|(simp_all; omega))) ?_; conv=>whnf)
  refine ah.dL (fun _=>S.slices_Contains_int r.ex i false (by omega)) rfl ?_
  conv=>whnf
  refine VC.mk id ?_
  conv=>whnf
  refine⟨fun h4=>?_,fun h4=>?_⟩
  ·replace h4:(decide (0<c.getD i 0)&&Ei r.ex i)=true:=h4
   rw[hp] at h4
   conv=>whnf
   repeat(refine VC.mk (by first|exact id|exact fun h=>⟨h,h⟩) ?_; conv=>whnf)
   refine ah.dL (fun _=>S.slices_Contains_int r.all i false (by omega)) rfl ?_
   conv=>whnf
   repeat(refine VC.mk id ?_; conv=>whnf)
   refine⟨fun h5=>?_,fun h5=>?_⟩
   ·replace h5:(decide (0<c.getD i 0)&&decide (0<(r.all.length:Int))&& !(Ei r.all i))=true:=h5
    rw[hp,Bool.and_assoc,Bool.and_eq_true] at h5
    conv=>whnf
    exact ak.bool (by rw[rG,QA hi' (by simpa using h5.1) h5.2]; rfl)
   ·replace h5:(decide (0<c.getD i 0)&&decide (0<(r.all.length:Int))&& !(Ei r.all i))=false:=h5
    rw[hp,Bool.and_assoc] at h5
    conv=>whnf
    refine .mk (by simp only[okI] at *; first|omega|(simp_all; done)|(simp_all; omega)) ?_
    conv=>whnf
    refine⟨i+1,⟨by omega,by rw[JE,hall]; exact h5⟩,by omega,⟨⟨_,rfl,rfl⟩,⟨_,rfl,?_⟩,trivial⟩,?_,rfl⟩
    ·rw[JF,h4]; simp[V.aI,rH]
    ·repeat' (first|exact trivial|exact⟨_,rfl,rfl⟩|constructor)
  ·replace h4:(decide (0<c.getD i 0)&&Ei r.ex i)=false:=h4
   rw[hp] at h4
   conv=>whnf
   repeat(refine VC.mk (by first|exact id|exact fun h=>⟨h,h⟩) ?_; conv=>whnf)
   refine ah.dL (fun _=>S.slices_Contains_int r.all i false (by omega)) rfl ?_
   conv=>whnf
   repeat(refine VC.mk id ?_; conv=>whnf)
   refine⟨fun h5=>?_,fun h5=>?_⟩
   ·replace h5:(decide (0<c.getD i 0)&&decide (0<(r.all.length:Int))&& !(Ei r.all i))=true:=h5
    rw[hp,Bool.and_assoc,Bool.and_eq_true] at h5
    conv=>whnf
    exact ak.bool (by rw[rG,QA hi' (by simpa using h5.1) h5.2]; rfl)
   ·replace h5:(decide (0<c.getD i 0)&&decide (0<(r.all.length:Int))&& !(Ei r.all i))=false:=h5
    rw[hp,Bool.and_assoc] at h5
    conv=>whnf
    refine .mk (by simp only[okI] at *; first|omega|(simp_all; done)|(simp_all; omega)) ?_
    conv=>whnf
    refine⟨i+1,⟨by omega,by rw[JE,hall]; exact h5⟩,by omega,⟨⟨_,rfl,rfl⟩,⟨_,rfl,?_⟩,trivial⟩,?_,rfl⟩
    ·rw[JF,h4]; simp[V.aI]
    ·repeat' (first|exact trivial|exact⟨_,rfl,rfl⟩|constructor)
 ·have hi':c.length<=i:=by simpa using h3
  have e:i=c.length:=Nat.le_antisymm hi hi'
  subst e
  conv=>whnf
  exact ak.bool (by rw[rG,hall]; rfl)
set_option maxHeartbeats 1000000 in
theorem S.vM(r:Rule)(e:Elem)(hr:yt r)(hp:sZ e.counts.length r)(hc:E8 e.counts)(hl:e.counts.length<=6):aj Tryz.prog 58 [.dat (.rule r),.dat (.elem e)] (iw r e):=by
 obtain⟨f1,f2⟩:=hp.src
 obtain⟨d1,d2⟩:=hp.dst
 obtain⟨p1,p2⟩:=hp.XR
 obtain⟨q1,q2⟩:=hp.XT
 have hfr:=hc.get (i:=r.fr.toNat) (by omega)
 refine aj.of Bd.vM (by simp) rfl (JG r e) ?_
 conv=>whnf
 repeat(refine VC.mk (by first|exact id|exact fun h=>⟨h,h⟩|(intro h; rw[h]; rfl)|(intro h; (repeat' apply And.intro)<;>first|exact h|omega|(simp only[Rw.nO]; omega)|(simp only[Rw.rng]; omega))) ?_; conv=>whnf)
 refine⟨fun h1=>?_,fun h1=>?_⟩
 ·have h1':(decide (0<=r.read)&&e.value !=r.read||e.counts.getD r.fr.toNat 0==0)=true:=by rw[bne_comm]; exact h1
  conv=>whnf
  refine ak.eqv ?_
  rw[iw,eP,h1']; rfl
 have h1':(decide (0<=r.read)&&e.value !=r.read||e.counts.getD r.fr.toNat 0==0)=false:=by rw[bne_comm]; exact h1
 conv=>whnf
 refine Ij.row (r:=.ints e.counts) (S.Uz e.counts false (by omega) (by omega)) ?_
 have hl1:(aU e.counts r.fr).length=e.counts.length:=by simp[aU]
 conv=>whnf
 repeat(refine VC.mk (by first|(simp only[Rw.rng]; omega)|(simp only[okI,aU] at *; omega)) ?_; conv=>whnf)
 have hpos: ∀ i,0<=(aU e.counts r.fr).getD i 0:=Wh hc h1'
 have hB:=hc.b.dec (by omega) r.fr
 refine⟨fun h2=>?_,fun h2=>?_⟩
 ·replace h2:(r.kind==1)=true:=h2
  have hBt:=hB.get (by omega) r.to.toNat
  conv=>whnf
  refine ah.lend (S.uy r (aU e.counts r.fr) false hr (by omega) hpos) (And.intro (aG _) (And.intro (D5 trivial rfl) trivial)) rfl rfl ?_
  conv=>whnf
  refine⟨fun h5=>?_,fun h5=>?_⟩
  ·replace h5:(!(rG r (aU e.counts r.fr)))=true:=h5
   conv=>whnf
   refine ak.eqv ?_
   rw[iw,eP,h1',h2,h5]; rfl
  replace h5:(!(rG r (aU e.counts r.fr)))=false:=h5
  conv=>whnf
  repeat(refine VC.mk (by first|(simp only[Rw.rng,List.length_set]; omega)|(simp only[okI,aU] at *; omega)) ?_; conv=>whnf)
  refine⟨fun h4=>?_,fun h4=>?_⟩
  ·replace h4:decide (r.write>=0)=true:=h4
   have hS:iw r e= .fZ [.dat (.elem ⟨r.write,ig (aU e.counts r.fr) r.to 1⟩),.bool true]:=by rw[iw,eP,h1',h2,h5,h4]; rfl
   conv=>whnf
   rw[hS]
   exact ak.xO rfl
  ·replace h4:decide (r.write>=0)=false:=h4
   have hS:iw r e= .fZ [.dat (.elem ⟨e.value,ig (aU e.counts r.fr) r.to 1⟩),.bool true]:=by rw[iw,eP,h1',h2,h5,h4]; rfl
   conv=>whnf
   rw[hS]
   exact ak.xO rfl
 replace h2:(r.kind==1)=false:=h2
 conv=>whnf
 refine⟨fun h3=>?_,fun h3=>?_⟩
 ·replace h3:(r.kind==2)=true:=h3
  have hB1:=hB.get (by omega) r.fP.toNat
  have hB2:=hB.dec (by omega) r.fP
  have hB3:=hB2.get (by omega) r.Bh.toNat
  have hB4:=hB2.add (by omega) r.Bh 1 (k:=1) ⟨by omega,by omega⟩
  have hB5:=hB4.get (by omega) r.to.toNat
  conv=>whnf
  repeat(refine VC.mk (by first|(simp only[Rw.rng,List.length_set]; omega)|(simp only[aU,ig] at *; omega)) ?_; conv=>whnf)
  refine⟨fun h6=>?_,fun h6=>?_⟩
  ·replace h6:((aU e.counts r.fr).getD r.fP.toNat 0==0)=true:=h6
   conv=>whnf
   refine ak.eqv ?_
   rw[iw,eP,h1',h2,h3,h6]; rfl
  replace h6:((aU e.counts r.fr).getD r.fP.toNat 0==0)=false:=h6
  conv=>whnf
  repeat(refine VC.mk (by first|(simp only[Rw.rng,List.length_set]; omega)|(simp only[okI,aU,ig] at *; omega)) ?_; conv=>whnf)
  refine⟨fun h4=>?_,fun h4=>?_⟩
  ·replace h4:decide (r.write>=0)=true:=h4
   have hS:iw r e= .fZ [.dat (.elem ⟨r.write,ig (ig (aU (aU e.counts r.fr) r.fP) r.Bh 1) r.to 1⟩),.bool true]:=by rw[iw,eP,h1',h2,h3,h6,h4]; rfl
   conv=>whnf
   rw[hS]
   exact ak.xO rfl
  ·replace h4:decide (r.write>=0)=false:=h4
   have hS:iw r e= .fZ [.dat (.elem ⟨e.value,ig (ig (aU (aU e.counts r.fr) r.fP) r.Bh 1) r.to 1⟩),.bool true]:=by rw[iw,eP,h1',h2,h3,h6,h4]; rfl
   conv=>whnf
   rw[hS]
   exact ak.xO rfl
 replace h3:(r.kind==2)=false:=h3
 conv=>whnf
 refine⟨fun h6=>?_,fun h6=>?_⟩
 ·replace h6:(r.kind==3)=true:=h6
  obtain⟨rs1,rs2⟩:=hp.rsp (beq_iff_eq.1 h6)
  conv=>whnf
  have hm:=Bj (n:=(aU e.counts r.fr).length) (by omega)
  simp only[aU] at hm
  rw[hm]
  conv=>whnf
  refine .mk (by simp only[List.length_set]; omega) ?_
  conv=>whnf
  refine aB.nH 100 [2,4,6,83,84] (fun i:Nat=>[(85,.int i)]) (fun i=>[(0,.box 85 19 (.dat (.rule r))),(1,.box 54 3 (.dat (.elem e))),(2,.box 54 3 (.agg [.int 0,.row 0 true .nil])),(27,mg (aU e.counts r.fr)),(29,.box 54 3 (.agg [.int e.value,.own 52])),(52,mg (pI r (aU e.counts r.fr) i))]) (fun i=>i<=(aU e.counts r.fr).length) (fun i=>(aU e.counts r.fr).length-i) 0 [0,1,2,27,29,52] rfl (by decide) (fun _=>rfl) (Nat.zero_le _) ?_ ?_ ?_
  ·exact(sR rfl)
  ·exact⟨aT rfl rfl,aT rfl rfl,aT rfl rfl,aT rfl rfl,kW rfl rfl rfl ⟨rfl,rfl⟩ (bD.of_eq rfl),aT rfl rfl,trivial⟩
  conv=>whnf
  refine⟨(sR rfl),rfl,?_⟩
  rintro i hi
  have hn6:(i:Int)*1048577<=6*1048577:=Int.mul_le_mul_of_nonneg_right (by omega) (by omega)
  have hn0:0<=(i:Int)*1048577:=Int.mul_nonneg (by omega) (by omega)
  have hRB:=ZT hB (by omega) (r:=r) i
  have hRl:(pI r (aU e.counts r.fr) i).length=e.counts.length:=by rw[rF,hl1]
  conv=>whnf
  refine⟨fun g1=>?_,fun g1=>?_⟩
  ·have hi':i<(aU e.counts r.fr).length:=by
    have:(i:Int)<((aU e.counts r.fr).length:Int):=of_decide_eq_true g1
    omega
   have hir:i<r.response.length:=by omega
   obtain⟨q3,q4⟩:0<=r.response.getD i 0/\r.response.getD i 0<e.counts.length:=by
    rw[show r.response.getD i 0=r.response[i] by simp[hir]]; exact rs2 _ (List.getElem_mem hir)
   have hR1:=hRB.get hn0 (r.response.getD i 0).toNat
   have hR2:=hB.get (by omega) i
   conv=>whnf
   repeat(refine VC.mk (by first|(first|(simp only[Rw.rng,rF]; omega)|(simp only[okI,aU,Int.toNat_natCast] at *; omega))|(simp only[Rw.rng] at *; first|omega|(simp_all; done)|(simp_all; omega))) ?_; conv=>whnf)
   refine⟨i+1,[0,1,2,27,29,52],by omega,by omega,(sR rfl),(sR rfl),aT rfl rfl,aT rfl rfl,aT rfl rfl,aT rfl rfl,kW rfl rfl rfl ⟨rfl,rfl⟩ (bD.of_eq rfl),okF rfl nofun rfl rfl rfl ?_ ?_,trivial⟩
   ·exact⟨rfl,rfl⟩
   ·rw[vK]; rfl
  have hi':i=(aU e.counts r.fr).length:=by
   have: ¬ ((i:Int)<((aU e.counts r.fr).length:Int)):=of_decide_eq_false g1
   omega
  subst hi'
  have hR1:=hRB.get hn0 r.to.toNat
  conv=>whnf
  repeat(refine VC.mk (by first|(simp only[Rw.rng,rF]; omega)|(simp only[okI,aU,Int.toNat_natCast] at *; omega)) ?_; conv=>whnf)
  refine⟨fun h4=>?_,fun h4=>?_⟩
  ·replace h4:decide (r.write>=0)=true:=h4
   have hS:iw r e= .fZ [.dat (.elem ⟨r.write,ig (pI r (aU e.counts r.fr) (aU e.counts r.fr).length) r.to 1⟩),.bool true]:=by rw[iw,eP,h1',h2,h3,h6,h4]; rfl
   conv=>whnf
   rw[hS]
   exact ak.xO rfl
  ·replace h4:decide (r.write>=0)=false:=h4
   have hS:iw r e= .fZ [.dat (.elem ⟨e.value,ig (pI r (aU e.counts r.fr) (aU e.counts r.fr).length) r.to 1⟩),.bool true]:=by rw[iw,eP,h1',h2,h3,h6,h4]; rfl
   conv=>whnf
   rw[hS]
   exact ak.xO rfl
 replace h6:(r.kind==3)=false:=h6
 have hBt:=hB.get (by omega) r.to.toNat
 conv=>whnf
 repeat(refine VC.mk (by first|(simp only[Rw.rng,List.length_set]; omega)|(simp only[okI,aU] at *; omega)) ?_; conv=>whnf)
 refine⟨fun h4=>?_,fun h4=>?_⟩
 ·replace h4:decide (r.write>=0)=true:=h4
  have hS:iw r e= .fZ [.dat (.elem ⟨r.write,ig (aU e.counts r.fr) r.to 1⟩),.bool true]:=by rw[iw,eP,h1',h2,h3,h6,h4]; rfl
  conv=>whnf
  rw[hS]
  exact ak.xO rfl
 ·replace h4:decide (r.write>=0)=false:=h4
  have hS:iw r e= .fZ [.dat (.elem ⟨e.value,ig (aU e.counts r.fr) r.to 1⟩),.bool true]:=by rw[iw,eP,h1',h2,h3,h6,h4]; rfl
  conv=>whnf
  rw[hS]
  exact ak.xO rfl
abbrev iC(l:List (List Int)):OV:=.row 24 0 (.gu l) []
theorem MW(l:List (List Int)):T.dK (l.map Go.Ab.ints)=true:=by
 rw[dR]; intro t ht; obtain⟨x,_,rfl⟩:=List.mem_map.1 ht; rfl
theorem OI{h:Hz}{j:Nat}{Z:Nat->Prop}{l:List (List Int)}(hz:Z j)(q:h.get j=some (iC l)):T.sub Z h.au (V.row 0 false (.gu l)).aI (V.own j).aI:=by
 show T.sub Z h.au (.sl 0 false (l.map Go.Ab.ints)) (.own j)
 simp only[T.sub]
 refine⟨trivial,hz,MW l,by decide,24,?_⟩
 have:=aO q; simpa [OV.ay,Rw.aS,V.aS] using this
theorem ak.agq{h:Hz}{j:Nat}{l:List (List Int)}(q:h.get j=some (iC l)):ak (.row 0 false (.gu l)) (.own j) h:=⟨OI trivial q⟩
theorem Di{Z:Nat->Prop}{h:Hz}{i j:Nat}{r:Rw}{l:List (List Int)}{c:List Int}(q:h.get i=some (.row 24 0 r [.own j]))(hr:r.aS=l.map Go.Ab.ints)(hi: ¬ Z i)(hz:Z j)(qj:h.get j=some (mg c)) :
  ∃ o',h.get i=some o'/\ ¬ Z i/\o'.ay.ty=(iC (l++[c])).ay.ty/\o'.ay.k=(iC (l++[c])).ay.k/\T.dP Z h.au (iC (l++[c])).ay.l o'.ay.l/\(iC (l++[c])).ay.l.map T.kd=o'.ay.l.map T.kd/\(iC (l++[c])).ay.l.map fV=o'.ay.l.map fV:=by
 have e1:(iC (l++[c])).ay.l=r.aS++[Go.Ab.ints c]:=by rw[hr]; simp[OV.ay,Rw.aS,V.aS]
 refine⟨_,q,hi,rfl,rfl,?_,?_,?_⟩
 ·rw[e1]
  exact nZ (aP _) ⟨D5 hz qj,trivial⟩
 ·rw[e1]; show _=List.map T.kd (r.aS++[.own j])
  rw[List.map_append,List.map_append]; rfl
 ·rw[e1]; show _=List.map fV (r.aS++[.own j])
  rw[List.map_append,List.map_append]; rfl
theorem dF{α:Type}{l:List α}{i:Nat}{d:α}(h:i<l.length):l.getD i d∈l:=by
 rw[List.getD_eq_getElem?_getD,List.getElem?_eq_getElem h]; exact List.getElem_mem h
def qX(N:List (List Int)):Nat->List (List Int)
 |0=>[[]]
 |i+1=>(qX N i).flatMap fun h=>(N.getD i []).map fun n=>h++[n]
def OJ(N:List (List Int))(i a:Nat):List (List Int):=((qX N i).take a).flatMap fun h=>(N.getD i []).map fun n=>h++[n]
def IW(N:List (List Int))(i a b:Nat):List (List Int):=OJ N i a++((N.getD i []).take b).map fun n=>(qX N i).getD a []++[n]
theorem XY{N:List (List Int)}{i a:Nat}(ha:a<(qX N i).length):OJ N i (a+1)=IW N i a (N.getD i []).length:=by
 unfold OJ IW
 have ht:(qX N i).take (a+1)=(qX N i).take a++[(qX N i).getD a []]:=by rw[List.take_add_one]; simp[ha]
 rw[ht,List.flatMap_append,List.take_length]; simp[OJ]
theorem QB{N:List (List Int)}{i:Nat}:OJ N i (qX N i).length=qX N (i+1):=by
 unfold OJ; rw[List.take_length]; rfl
theorem XZ{N:List (List Int)}{i a b:Nat}(hb:b<(N.getD i []).length):IW N i a (b+1)=IW N i a b++[(qX N i).getD a []++[(N.getD i []).getD b 0]]:=by
 unfold IW
 revert hb
 generalize N.getD i []=L
 intro hb
 have ht:L.take (b+1)=L.take b++[L.getD b 0]:=by rw[List.take_add_one]; simp[hb]
 rw[ht,List.map_append,<- List.append_assoc]; rfl
theorem Fg{α β:Type}{f:α->List β}{k:Nat}: ∀ {l:List α},(∀ x∈l,(f x).length<=k)->(l.flatMap f).length<=l.length*k:=by
 intro l
 induction l with
 |nil=>intro _; simp
 |cons x r ih =>
  intro h
  rw[List.flatMap_cons,List.length_append,List.length_cons,Nat.succ_mul]
  have:=h x (by simp); have:=ih fun y hy=>h y (by simp[hy]); omega
def Ej(N:List (List Int)):Prop:= ∀ i,(N.getD i []).length<=3
theorem QC{N:List (List Int)}(hN:Ej N){i a:Nat}(ha:a<=(qX N i).length):(OJ N i a).length<=a*3:=by
 have:=Fg (l:=(qX N i).take a) (f:=fun h=>(N.getD i []).map fun n=>h++[n]) (k:=3) (fun x _=>by rw[List.length_map]; exact hN i)
 rw[List.length_take,Nat.min_eq_left ha] at this
 exact this
theorem acz{N:List (List Int)}(hN:Ej N): ∀ {i:Nat},(qX N i).length<=3^i:=by
 intro i
 induction i with
 |zero=>exact Nat.le_refl _
 |succ i ih =>
  have:=QC hN (Nat.le_refl (qX N i).length)
  rw[QB] at this
  rw[Nat.pow_succ]; omega
theorem OL{N:List (List Int)}: ∀ {i:Nat} {c:List Int},c∈qX N i->c.length=i:=by
 intro i
 induction i with
 |zero=>intro c h; simp[qX] at h; rw[h]; rfl
 |succ i ih =>
  intro c h
  simp only[qX,List.mem_flatMap,List.mem_map] at h
  obtain⟨x,hx,n,_,rfl⟩:=h
  rw[List.length_append,ih hx]; rfl
theorem Wi{N:List (List Int)}(hN:Ej N){i:Nat}(hi:i<=6):(qX N i).length<=729:=by
 have h1:=acz hN (i:=i)
 have h2:3^i<=3^6:=Nat.pow_le_pow_right (by decide) hi
 have h3:3^6=729:=by decide
 omega
def Fh(v:Int)(l:List (List Int)):List Elem:=(l.map fun c=>(⟨v,c⟩:Elem)).filter fun e=>decide (0<xJ e)
def mD(v:Int)(N:List (List Int)):List Elem:=Fh v (qX N N.length)
theorem X0{v:Int}{l:List (List Int)}{a:Nat}(ha:a<l.length):Fh v (l.take (a+1))=Fh v (l.take a)++(if decide (0<xJ ⟨v,l.getD a []⟩)=true then [⟨v,l.getD a []⟩] else []):=by
 unfold Fh
 have ht:l.take (a+1)=l.take a++[l.getD a []]:=by rw[List.take_add_one]; simp[ha]
 rw[ht,List.map_append,List.filter_append]
 by_cases h:decide (0<xJ ⟨v,l.getD a []⟩)=true
 ·rw[if_pos h]; simp only[List.map_cons,List.map_nil,List.filter_cons,h,if_true,List.filter_nil]
 ·rw[if_neg h]; simp only[List.map_cons,List.map_nil,List.filter_cons,h,Bool.false_eq_true,if_false,List.filter_nil]
theorem QD{v:Int}{l:List (List Int)}:(Fh v l).length<=l.length:=by
 unfold Fh
 have:=List.length_filter_le (fun e=>decide (0<xJ e)) (l.map fun c=>(⟨v,c⟩:Elem))
 rwa [List.length_map] at this
theorem acA:bD [T.sl 0 false []] [T.sl 0 true []]:=by
 intro Z h; simp[T.dP,T.sub]
set_option maxHeartbeats 1000000 in
theorem S.LX(v:Int)(N:List (List Int))(f:Bool)(hN6:N.length<=6)(hN:Ej N)(n:Nat):aV Tryz.prog 76 (V.aS [.int v,.row 0 f (.gu N)]) (Hz.au []) n (fun t hp=>t= .own n/\hp=Hz.au [(n,some (eH (mD v N)))]):=by
 refine pJ.of (nx:=0) Bd.oL (by simp) ⟨_,_,rfl,rfl⟩ rfl rfl ?_
 conv=>whnf
 refine aB.nH 1 [0,18,19] (fun i:Nat=>[(20,.int i),(5,.own 0)]) (fun i=>[(0,iC (qX N i))]) (fun i=>i<=N.length) (fun i=>N.length-i) 0 [1] rfl (by decide) (fun _=>rfl) (Nat.zero_le _) ?_ ?_ ?_
 ·exact(sR rfl)
 ·exact⟨kW rfl rfl rfl ⟨rfl,rfl⟩ acA,trivial⟩
 conv=>whnf
 refine⟨(sR rfl),rfl,?_⟩
 rintro i hi
 have hcap:=Wi hN (i:=i) (by omega)
 have h3:=hN i
 conv=>whnf
 refine⟨fun h1=>?_,fun h1=>?_⟩
 ·have hi':i<N.length:=by simpa using h1
  conv=>whnf
  refine .mk (by simp only[Rw.rng] at *; first|omega|(simp_all; done)|(simp_all; omega)) ?_
  conv=>whnf
  refine aB.nil 8 24 0 (by rfl) rfl rfl rfl ?_
  refine aB.nH 2 [0,7,18,19,20,24,25] (fun a:Nat=>[(26,.int a),(8,.own 1)]) (fun a=>[(0,iC (qX N i)),(1,iC (OJ N i a))]) (fun a=>a<=(qX N i).length) (fun a=>(qX N i).length-a) 0 [0,9] rfl (by decide) (fun _=>rfl) (Nat.zero_le _) ?_ ?_ ?_
  ·exact(sR rfl)
  ·exact⟨aT rfl rfl,aT rfl rfl,trivial⟩
  conv=>whnf
  refine⟨(sR rfl),rfl,?_⟩
  rintro a ha
  have hA:=QC hN ha
  conv=>whnf
  refine⟨fun h2=>?_,fun h2=>?_⟩
  ·have ha':a<(qX N i).length:=by simpa using h2
   have hcl:((qX N i).getD a []).length=i:=OL (dF ha')
   conv=>whnf
   repeat(refine VC.mk (by simp only[Rw.rng] at *; first|omega|(simp_all; done)|(simp_all; omega)) ?_; conv=>whnf)
   refine aB.Wj 2 [0,7,10,18,19,20,24,25,26,30,31] (fun b:Nat=>[(32,.int b),(8,.own 1)]) (fun b=>[(0,iC (qX N i)),(1,iC (IW N i a b))]) (fun b=>b<=(N.getD i []).length) (fun b=>(N.getD i []).length-b) 0 [0,1] [(0,some (iC (qX N i))),(1,some (iC (OJ N i a)))] rfl (by decide) (fun _=>rfl) (Nat.zero_le _) ?_ ?_ ?_ ?_
   ·exact(sR rfl)
   ·exact⟨fun _=>False,mF (Z:=fun _=>False) rfl (fun q=>q),mF (Z:=fun _=>False) rfl (fun q=>q),trivial⟩
   ·exact⟨aT rfl rfl,okF rfl nofun rfl rfl rfl ⟨rfl,rfl⟩ (by simp[IW]),trivial⟩
   conv=>whnf
   refine⟨(sR rfl),rfl,?_⟩
   rintro b hb
   have hB:(IW N i a b).length<=729*3+3:=by
    unfold IW; rw[List.length_append,List.length_map,List.length_take]; omega
   conv=>whnf
   refine⟨fun h4=>?_,fun h4=>?_⟩
   ·have hb':b<(N.getD i []).length:=by simpa using h4
    conv=>whnf
    repeat(refine VC.mk (by first|(simp only[Rw.rng,Int.toNat_natCast]; omega)|(simp only[Rw.nO]; omega)) ?_; conv=>whnf)
    rw[show decide (((((qX N i).getD (a:Int).toNat []).length:Int))=(((qX N i).getD (a:Int).toNat []).length:Int))=true from decide_eq_true rfl]
    conv=>whnf
    refine acB.one ⟨.inr (Nat.zero_lt_succ _),?_⟩ ?_
    ·show(Rw.len (Rw.take _ _)+1)*8<=140737488355328/\Rw.len (Rw.take _ _)+1<=1152921504606846976
     rw[Rw.ZU]; simp only[Rw.len,Int.toNat_natCast]; omega
    conv=>whnf
    repeat(refine VC.mk (by first|(show((IW N i a b).length+(0+1))*24<=140737488355328/\(IW N i a b).length+(0+1)<=1152921504606846976; omega)|(simp only[okI] at *; first|omega|(simp_all; done)|(simp_all; omega))) ?_; conv=>whnf)
    refine⟨[(0,some (iC (qX N i))),(17,some (iC (IW N i a b++[((qX N i).getD a []).take ((((qX N i).getD a []).length:Int).toNat)++[(N.getD i []).getD b 0]])))],b+1,[0,17],⟨fun i=>i=15,mF (Z:=fun i=>i=15) (i:=0) rfl (by decide),Di (Z:=fun i=>i=15) (i:=17) (j:=15) rfl rfl (by decide) rfl rfl,trivial⟩,by omega,by omega,(sR rfl),(sR rfl),aT rfl rfl,okF rfl nofun rfl rfl rfl ⟨rfl,rfl⟩ ?_,trivial⟩
    rw[XZ hb',Int.toNat_natCast,List.take_length]
   ·have hb':b=(N.getD i []).length:=by
     have: ¬ ((b:Int)<((N.getD i []).length:Int)):=of_decide_eq_false h4
     omega
    subst hb'
    rw[<- XY ha']
    conv=>whnf
    refine .mk (by simp only[okI] at *; first|omega|(simp_all; done)|(simp_all; omega)) ?_
    conv=>whnf
    refine⟨a+1,[0,1],by omega,by omega,(sR rfl),(sR rfl),aT rfl rfl,aT rfl rfl,trivial⟩
  ·have ha':a=(qX N i).length:=by
    have: ¬ ((a:Int)<((qX N i).length:Int)):=of_decide_eq_false h2
    omega
   subst ha'
   rw[QB]
   conv=>whnf
   refine .mk (by simp only[okI] at *; first|omega|(simp_all; done)|(simp_all; omega)) ?_
   conv=>whnf
   refine⟨i+1,[1],by omega,by omega,(sR rfl),(sR rfl),aT rfl rfl,trivial⟩
 ·have hi':i=N.length:=by
   have: ¬ ((i:Int)<(N.length:Int)):=of_decide_eq_false h1
   omega
  subst hi'
  conv=>whnf
  refine aB.nil 13 54 3 (by rfl) rfl rfl rfl ?_
  refine aB.nH 2 [0,52,53] (fun a:Nat=>[(54,.int a),(13,.own 1)]) (fun a=>[(0,iC (qX N N.length)),(1,eH (Fh v ((qX N N.length).take a)))]) (fun a=>a<=(qX N N.length).length) (fun a=>(qX N N.length).length-a) 0 [0,6] rfl (by decide) (fun _=>rfl) (Nat.zero_le _) ?_ ?_ ?_
  ·exact(sR rfl)
  ·exact⟨aT rfl rfl,aT rfl rfl,trivial⟩
  conv=>whnf
  refine⟨(sR rfl),rfl,?_⟩
  rintro a ha
  have hkl:=QD (v:=v) (l:=(qX N N.length).take a)
  rw[List.length_take] at hkl
  conv=>whnf
  refine⟨fun h2=>?_,fun h2=>?_⟩
  ·have ha':a<(qX N N.length).length:=by simpa using h2
   have hcl:((qX N N.length).getD a []).length=N.length:=OL (dF ha')
   have hn:=X0 (v:=v) ha'
   conv=>whnf
   repeat(refine VC.mk (by simp only[Rw.rng] at *; first|omega|(simp_all; done)|(simp_all; omega)) ?_; conv=>whnf)
   refine ah.pure (S.qJ ⟨v,(qX N N.length).getD a []⟩ (by show((qX N N.length).getD a []).length<_; omega)) rfl ?_
   conv=>whnf
   refine⟨fun h3=>?_,fun h3=>?_⟩
   ·rw[if_pos h3] at hn
    conv=>whnf
    repeat(refine VC.mk (by first|(show((Fh v ((qX N N.length).take a)).length+(0+1))*32<=140737488355328/\(Fh v ((qX N N.length).take a)).length+(0+1)<=1152921504606846976; omega)|(simp only[okI] at *; first|omega|(simp_all; done)|(simp_all; omega))) ?_; conv=>whnf)
    refine⟨a+1,[0,17],by omega,by omega,(sR rfl),(sR rfl),aT rfl rfl,okF rfl nofun rfl rfl rfl ⟨rfl,rfl⟩ ?_,trivial⟩
    rw[hn]
    show List.map fD (Fh v (List.take a (qX N N.length))++[⟨v,(qX N N.length).getD a []⟩])++[]=List.map fD (Fh v (List.take a (qX N N.length)))++[fD ⟨v,(qX N N.length).getD a []⟩]
    simp
   ·rw[if_neg (by rw[h3]; decide),List.append_nil] at hn
    conv=>whnf
    refine .mk (by simp only[okI] at *; first|omega|(simp_all; done)|(simp_all; omega)) ?_
    conv=>whnf
    refine⟨a+1,[0,1],by omega,by omega,(sR rfl),(sR rfl),aT rfl rfl,okF rfl nofun rfl rfl rfl ⟨rfl,rfl⟩ (by rw[hn]),trivial⟩
  ·have ha':(qX N N.length).length<=a:=by simpa using h2
   rw[List.take_of_length_le ha']
   conv=>whnf
   exact nP.one (c:=n) (j:=1) (o:=eH (mD v N)) (t:=.own n) rfl rfl rfl nofun (.inr rfl) rfl (.eq rfl) ⟨rfl,rfl⟩
theorem S.oL(v:Int)(N:List (List Int))(f:Bool)(hN6:N.length<=6)(hN:Ej N):wC Tryz.prog 76 (V.aS [.int v,.row 0 f (.gu N)]) (fun n=>.own n) (some ⟨54,3,(Rw.elems (mD v N)).aS⟩):=by
 refine⟨rfl,fun n=>rfl,fun ob h=>?_,fun ob h=>?_,fun n=>?_⟩
 ·cases h; exact wH _
 ·cases h; exact show(3:Nat)≠fQ by decide
 ·have:=S.LX v N f hN6 hN n
  have e1:Hz.au [(n,some (eH (mD v N)))]=iq no n (some ⟨54,3,(Rw.elems (mD v N)).aS⟩):=by
   rw[bG]; simp[iq,OV.ay,V.aS]; rfl
  rw[e1] at this
  exact this
theorem S.oM(a b:Elem)(ha:a.counts.length<2^40)(hb:b.counts.length<2^40):aj Tryz.prog 80 [.dat (.elem a),.dat (.elem b)] (.bool (decide (a=b))):=by
 refine aj.of Bd.oM (by simp) rfl rfl ?_
 conv=>whnf
 refine ah.pure (S.iH a b ha hb) rfl ?_
 conv=>whnf
 refine ak.bool ?_
 rw[Bool.eq_iff_iff]; simp only[decide_eq_true_eq,beq_iff_eq]
 exact iY.symm
theorem S.ZV(l:List Elem)(n:Nat)(hl:l.length<2^30)(hs:eF l) :
  aV Tryz.prog 79 (V.aS [.own 0,.fn 80 []]) (h1 l).au n
   (fun t hp=>(sS l=l/\t= .own 0/\hp=(h1 l).au)\/(∃ m,t= .qM 0 0 (sS l).length/\hp=Hz.au [(0,some (.row 54 3 (.elems (sS l)) (List.replicate m zeroV)))])):=by
 refine pJ.of (nx:=1) Bd.dA (by simp) ⟨_,_,.inr ⟨0,rfl,rfl⟩⟩ rfl rfl ?_
 conv=>whnf
 refine⟨fun h1=>?_,fun h1=>?_⟩
 ·conv=>whnf
  have hc:sS l=l:=by
   have h2:l.length<2:=by simp at h1; omega
   rw[sS,JH (Nat.le_refl _) (fun i h3 h4=>by omega),List.take_length]
  exact nP.one (c:=0) (j:=0) (o:=eH l) (t:=.own 0) rfl rfl rfl (fun _=>rfl) (.inl rfl) rfl (.eq rfl) (.inl ⟨hc,rfl,rfl⟩)
 ·have h2:2<=l.length:=by simp at h1; omega
  conv=>whnf
  refine aB.same [0,1] (fun i:Nat=>[(5,.int i)]) (fun i=>1<=i/\i<=l.length/\ ∀ k,0<k->k<i->l.getD k default≠l.getD (k-1) default) (fun i=>l.length-i) 1 rfl (by decide) rfl (fun _=>rfl) ⟨by omega,by omega,fun k h3 h4=>by omega⟩ ⟨⟨_,rfl,rfl⟩,trivial⟩ ?_
  conv=>whnf
  refine⟨rfl,?_⟩
  rintro k ⟨hk0,hk,hne⟩
  have e1:((k:Int)-1).toNat=k-1:=by omega
  conv=>whnf
  refine⟨fun h3=>?_,fun h3=>?_⟩
  ·have hk':k<l.length:=by simpa using h3
   conv=>whnf
   repeat(refine VC.mk (by simp only[okI,Rw.rng]; omega) ?_; conv=>whnf)
   refine ah.pure (S.oM _ _ (hs.get _) (hs.get _)) rfl ?_
   conv=>whnf
   refine⟨fun h4=>?_,fun h4=>?_⟩
   ·have heq:l.getD k default=l.getD (k-1) default:=by
     rw[e1] at h4; simpa using h4
    have hdk:uT l k=l.take k:=JH hk hne
    have aeM:uT l (k+1)=l.take k:=by rw[QE (by omega) heq,hdk]
    conv=>whnf
    refine .mk (by simp only[Rw.nO]; omega) ?_
    conv=>whnf
    refine aB.objs 1 [0,1,6] (fun j:Nat=>[(7,.int j),(5,.int (uT l (k+j)).length)]) (fun j=>[(0,eH (mid l (k+j)))]) (fun j=>1<=j/\k+j<=l.length/\(uT l (k+j)).length+1<=k+j) (fun j=>l.length-j) 1 [0] rfl (by decide) (fun _=>rfl) ⟨by omega,by omega,?_⟩ ?_ ?_ ?_
    ·rw[aeM]; simp; omega
    ·refine⟨⟨_,rfl,.eq rfl⟩,⟨_,rfl,.eq ?_⟩,trivial⟩
     rw[aeM]
     show T.int (((l.take k).length:Nat):Int)=T.int (k:Int)
     simp[Nat.min_eq_left hk]
    ·refine⟨⟨rfl,(fun _=>rfl),rfl,rfl,rfl,_,rfl,rfl,rfl,bD.of_eq ?_⟩,trivial⟩
     have:mid l (k+1)=l:=by unfold mid; rw[aeM]; simp[Nat.min_eq_left hk]
     rw[this]
    conv=>whnf
    refine⟨(sR rfl),rfl,?_⟩
    rintro j ⟨hj0,hj,hdl⟩
    have hml:=acC hj
    have e2:((j:Int)-1).toNat=j-1:=by omega
    have hsm:eF (mid l (k+j)):=fun x hx=>by
     unfold mid at hx
     rcases List.mem_append.1 hx with hx|hx
     ·exact hs x (acD hx hj)
     ·exact hs x (List.mem_of_mem_drop hx)
    conv=>whnf
    refine⟨fun h5=>?_,fun h5=>?_⟩
    ·have hj':k+j<l.length:=by
      have h6:j<l.length-k:=by
       have:(j:Int)<(((Rw.elems l).len-k:Nat):Int):=by simpa using h5
       have e3:(Rw.elems l).len=l.length:=rfl
       rw[e3] at this
       omega
      omega
     have g1:=Wn (l:=l) (j:=k+j) (i:=k+j) (by omega)
     have g2:=Wn (l:=l) (j:=k+j) (i:=k+(j-1)) (by omega)
     conv=>whnf
     repeat(refine VC.mk (by first|(simp only[okI]; omega)|(show _/\_<(((l.length-k:Nat)):Int); omega)|(simp only[Rw.rng,hml,Int.toNat_natCast,e2]; omega)|(show(0:Int)<=_/\_<((mid l (k+j)).length:Int); rw[hml]; simp only[Int.toNat_natCast,e2]; omega)) ?_; conv=>whnf)
     refine ah.pure (S.oM _ _ (hsm.get _) (hsm.get _)) rfl ?_
     simp only[Int.toNat_natCast,e2,g1,g2]
     conv=>whnf
     have e4:k+(j-1)=k+j-1:=by omega
     refine⟨fun h6=>?_,fun h6=>?_⟩
     ·have hne':l.getD (k+j) default≠l.getD (k+j-1) default:=by
       rw[e4] at h6; simpa using h6
      have hst:=acE hj' (.inr hne')
      have hd1:uT l (k+j+1)=uT l (k+j)++[l.getD (k+j) default]:=by simp only[uT]; rw[if_pos (.inr hne')]
      conv=>whnf
      repeat(refine VC.mk (by first|(simp only[okI]; omega)|(show _/\_<(((l.length-k:Nat)):Int); omega)|(simp only[Rw.rng,hml,Int.toNat_natCast]; omega)|(show(0:Int)<=_/\_<((mid l (k+j)).length:Int); rw[hml]; simp only[Int.toNat_natCast]; omega)) ?_; conv=>whnf)
      refine⟨j+1,[0],⟨by omega,by omega,?_⟩,by omega,⟨⟨_,rfl,.eq rfl⟩,⟨_,rfl,.eq ?_⟩,trivial⟩,(sR rfl),⟨rfl,(fun _=>rfl),rfl,rfl,rfl,_,rfl,rfl,rfl,bD.of_eq ?_⟩,trivial⟩
      ·show(uT l (k+j+1)).length+1<=k+(j+1)
       rw[hd1]; simp; omega
      ·show T.int (((uT l (k+j+1)).length:Nat):Int)=T.int (((uT l (k+j)).length:Int)+1)
       rw[hd1]; simp
      ·show(eH (mid l (k+j+1))).ay.l=(OV.row 54 3 (.elems ((mid l (k+j)).set (((uT l (k+j)).length:Int)).toNat ((mid l (k+j)).getD ((k:Int).toNat+(j:Int).toNat) default))) []).ay.l
       simp only[Int.toNat_natCast,g1,hst]
     ·have heq':l.getD (k+j) default=l.getD (k+j-1) default:=by
       rw[e4] at h6; simpa using h6
      have hd1:uT l (k+j+1)=uT l (k+j):=QE (by omega) heq'
      conv=>whnf
      refine .mk (by simp only[okI] at *; first|omega|(simp_all; done)|(simp_all; omega)) ?_
      conv=>whnf
      refine⟨j+1,[0],⟨by omega,by omega,?_⟩,by omega,⟨⟨_,rfl,.eq rfl⟩,⟨_,rfl,.eq ?_⟩,trivial⟩,(sR rfl),⟨rfl,(fun _=>rfl),rfl,rfl,rfl,_,rfl,rfl,rfl,bD.of_eq ?_⟩,trivial⟩
      ·show(uT l (k+j+1)).length+1<=k+(j+1)
       rw[hd1]; omega
      ·show T.int (((uT l (k+j+1)).length:Nat):Int)=T.int ((uT l (k+j)).length:Int)
       rw[hd1]
      ·show(eH (mid l (k+j+1))).ay.l=(eH (mid l (k+j))).ay.l
       unfold mid; rw[hd1]
    ·have hj':k+j=l.length:=by
      have h6: ¬ (j:Int)<(((Rw.elems l).len-k:Nat):Int):=by simpa using h5
      have e3:(Rw.elems l).len=l.length:=rfl
      rw[e3] at h6
      omega
     have air:(uT l (k+j)).length<=l.length:=by have:=Ja l (k+j); omega
     conv=>whnf
     repeat(refine VC.mk (by first|(simp only[Rw.nO,hml]; omega)|(refine⟨?_,rfl⟩; show((uT l (k+j)).length:Int).toNat<=(mid l (k+j)).length; rw[hml,Int.toNat_natCast]; omega)|(show(0:Int)<=((uT l (k+j)).length:Int)/\((uT l (k+j)).length:Int)<=(((mid l (k+j)).take ((uT l (k+j)).length:Int).toNat).length:Int); rw[List.length_take,hml,Int.toNat_natCast]; omega)|(show _<=(mid l (k+j)).length/\(mid l (k+j)).length=(mid l (k+j)).length; rw[hml]; simp only[Int.toNat_natCast]; omega)|(show(0:Int)<=_/\_<=(((mid l (k+j)).take _).length:Int); rw[List.length_take,hml]; simp only[Int.toNat_natCast]; omega)) ?_; conv=>whnf)
     have htk:(mid l (k+j)).take ((uT l (k+j)).length:Int).toNat=sS l:=by
      rw[Int.toNat_natCast]; unfold mid; rw[List.take_left,hj']; rfl
     have hcl:((uT l (k+j)).length:Int).toNat=(sS l).length:=by rw[Int.toNat_natCast,hj']; rfl
     refine nP.one (c:=0) (j:=0) (o:=.row 54 3 (.elems (sS l)) (List.replicate ((mid l (k+j)).length-((uT l (k+j)).length:Int).toNat) zeroV)) (t:=.qM 0 0 (sS l).length) ?_ (QF _ _ _) (OM _ _) (fun _=>rfl) (.inl rfl) rfl (.eq ?_) (.inr ⟨_,rfl,rfl⟩)
     ·rw[<- htk]; rfl
     ·rw[<- hcl]; rfl
   ·conv=>whnf
    refine .mk (by simp only[okI] at *; first|omega|(simp_all; done)|(simp_all; omega)) ?_
    conv=>whnf
    refine⟨k+1,⟨by omega,by omega,fun i h5 h6=>?_⟩,by omega,⟨⟨_,rfl,rfl⟩,trivial⟩,?_,rfl⟩
    ·by_cases e:i=k
     ·subst e; rw[e1] at h4; simpa using h4
     ·exact hne i h5 (by omega)
    ·repeat' (first|exact trivial|exact⟨_,rfl,rfl⟩|constructor)
  ·conv=>whnf
   have hk':l.length<=k:=by simpa using h3
   have hc:sS l=l:=by
    rw[sS,JH (Nat.le_refl _) (fun i h3 h4=>hne i h3 (by omega)),List.take_length]
   exact nP.one (c:=0) (j:=0) (o:=eH l) (t:=.own 0) rfl rfl rfl (fun _=>rfl) (.inl rfl) rfl (.eq rfl) (.inl ⟨hc,rfl,rfl⟩)
theorem S.vN(l:List Elem)(n:Nat)(hl:l.length<2^30)(hs:eF l) :
  aV Tryz.prog 49 (V.aS [.own 0]) (h1 l).au n
   (fun t hp=>(t= .own 0/\hp=(h1 (uz l)).au)\/(∃ m,t= .qM 0 0 (uz l).length/\hp=Hz.au [(0,some (.row 54 3 (.elems (uz l)) (List.replicate m zeroV)))])):=by
 refine pJ.of (nx:=1) Bd.vN (by simp) ⟨_,_,.inl ⟨rfl,rfl⟩⟩ rfl rfl ?_
 conv=>whnf
 refine ah.heap (S.SortFunc l _ hl hs) ?_
 rintro t hp ⟨rfl,rfl⟩
 refine⟨.fZ [],h1 (rJ l),rfl,rfl,?_⟩
 conv=>whnf
 refine ah.heap (S.ZV (rJ l) _ (by rw[G5]; exact hl) (QG hs)) ?_
 rintro t hp (⟨hc,rfl,rfl⟩|⟨m,rfl,rfl⟩)
 ·refine⟨.own 0,h1 (rJ l),rfl,rfl,?_⟩
  conv=>whnf
  refine nP.one (c:=0) (j:=0) (o:=eH (rJ l)) (t:=.own 0) rfl rfl rfl (fun _=>rfl) (.inl rfl) rfl (.eq rfl) (.inl ⟨rfl,?_⟩)
  rw[uz,hc]
 ·refine⟨.qM 0 0 (sS (rJ l)).length,[(0,some (.row 54 3 (.elems (sS (rJ l))) (List.replicate m zeroV)))],rfl,rfl,?_⟩
  conv=>whnf
  exact nP.one (c:=0) (j:=0) (o:=.row 54 3 (.elems (sS (rJ l))) (List.replicate m zeroV)) (t:=.qM 0 0 (sS (rJ l)).length) rfl (QF _ _ _) (OM _ _) (fun _=>rfl) (.inl rfl) rfl (.eq rfl) (.inr ⟨m,rfl,rfl⟩)
theorem ah.ZW{h:Hz}{i n:Nat}{l:List Elem}{K:V->Hz->Prop}{KW:Nat->V->Hz->Prop}(hi:h.get i=some (eH l))(hn:h.get n=none)(hl:l.length<2^30)(hs:eF l)
  (h1:K (.own i) ((i,some (eH (uz l)))::h)) (h2: ∀ m,K (.qM i 0 (uz l).length) ((i,some (.row 54 3 (.elems (uz l)) (List.replicate m zeroV)))::h)):ah Tryz.prog false none 49 [.own i] h n K KW:=by
 refine ah.ZX (ts:=[.own 0]) (S.vN l 1 hl hs) rfl rfl rfl rfl hi hn ?_
 rintro t hp (⟨rfl,rfl⟩|⟨m,rfl,rfl⟩)
 ·exact .inl ⟨.own i,eH (uz l),rfl,rfl,rfl,h1⟩
 ·exact .inl ⟨.qM i 0 _,.row 54 3 (.elems (uz l)) (List.replicate m zeroV),rfl,OM _ _,rfl,h2 m⟩
theorem ah.ZY{P:Program}{f:FuncId}{args args':List V}{h h2:Hz}{n ty k:Nat}{r:Rw}{K:V->Hz->Prop}{KW:Nat->V->Hz->Prop}(Z:Nat->Prop)(F:UA Z h h2)(hs:T.dP Z h.au (V.aS args') (V.aS args))
  (H:wC P f (V.aS args') (fun n=>.own n) (some ⟨ty,k,r.aS⟩)) (hK:K (.own n) ((n,some (.row ty k r []))::h2)):ah P false none f args h n K KW:=by
 refine⟨.inl ?_⟩
 refine aV.frz Z (ts2:=V.aS args') (h2:=h2.au) (aV.mono (wC.frame H h2.au n) ?_) hs fun i ob hi=>?_
 ·rintro t hp ⟨rfl,rfl⟩
  exact⟨.own n,_,rfl,by rw[bG]; simp[iq,OV.ay,V.aS],(fun e=>by cases e),hK⟩
 ·simp only[Hz.au,Option.map_eq_some_iff] at hi
  obtain⟨o,e1,rfl⟩:=hi
  obtain⟨o',a1,a2,a3,a4,a5,a6,a7⟩:=Fj F e1
  exact⟨o'.ay,aO a1,a2,a3,a4,a5,a6,a7⟩
theorem Z4{Z:Nat->Prop}{h:Hp}{t u:T}(hs:T.sub Z h t u): ∀ {a b:List T} {i:Nat},T.dP Z h a b->T.dP Z h (a.set i t) (b.set i u):=by
 intro a
 induction a with
 |nil=>intro b i q; cases b with
  |nil=>exact trivial
  |cons _ _=>exact q.elim
 |cons x r ih =>
  intro b i q
  cases b with
  |nil=>exact q.elim
  |cons y s =>
   cases i with
   |zero=>exact⟨hs,q.2⟩
   |succ i=>exact⟨q.1,ih q.2⟩
theorem QH(n:Nat):bD ((List.replicate n ([]:List Int)).map Go.Ab.ints) (V.aS (List.replicate n (vw .nil))):=by
 intro Z h
 rw[bJ,List.map_replicate,List.map_replicate]
 have:T.sub Z h (Go.Ab.ints []) (vw .nil).aI:=by simp[Go.Ab.ints,vw,V.aI,T.sub,Rw.aS]
 induction n with
 |zero=>trivial
 |succ n ih=>exact⟨this,ih⟩
theorem X3{Z:Nat->Prop}{h:Hp}(c:List Int):T.sub Z h (Go.Ab.ints c) (V.row 0 true (.ints c)).aI:=by simp[Go.Ab.ints,V.aI,Rw.aS,T.sub]
theorem OO(L:List (List Int))(i:Nat)(c:List Int):bD ((L.set i c).map Go.Ab.ints) (V.aS ((Rw.vs (.gu L)).set i (.row 0 true (.ints c)))):=by
 intro Z h
 rw[bJ,List.map_set,List.map_set,<- bJ,Rw.UC]
 exact Z4 (X3 c) (aP _)
theorem QI(L:List (List Int))(i:Nat)(b c:List Int):bD ((L.set i c).map Go.Ab.ints) (V.aS (((Rw.vs (.gu L)).set i (.row 0 true (.ints b))).set i (.row 0 true (.ints c)))):=by
 rw[List.set_set]; exact OO L i c
theorem yK{n:Nat}(h:0<n):(bif isZero (.int n) then some Rw.nil else LY (n:Int).toNat .nil)=none:=by
 cases n with
 |zero=>omega
 |succ n=>rfl
theorem okS{ρ:Nat->Nat}{nx pn c n:Nat}{h:Hz}{s:List Nat}{o o':OV}(q1:Nat.blt c nx=true)(q2:Nat.blt c pn=true->n=c)(q3:pK n s=true)(q4:(o.good nx&&o.Ik)=true)(q5:h.get n=some o')
  (q6:o'.ay.ty=o.ay.ty/\o'.ay.k=o.ay.k) (q7:bD o.ay.l o'.ay.l):Nat.blt c nx=true/\(Nat.blt c pn=true->n=c)/\pK n s=true/\o.good nx=true /\
   ∃ o',h.get n=some o'/\o'.ay.ty=o.ay.ty/\o'.ay.k=o.ay.k/\bD (T.bU ρ o.ay.l) o'.ay.l:=by
 rw[Bool.and_eq_true] at q4
 exact⟨q1,q2,q3,q4.1,o',q5,q6.1,q6.2,by rw[OV.zT q4.2 ρ]; exact q7⟩
theorem vO{L:List (List Int)}{l:List T}(h:bD (L.map Go.Ab.ints) l):bD (iC L).ay.l l:=by
 show bD (List.map Go.Ab.ints L++[]) l
 rw[List.append_nil]; exact h
def JI(f:Nat->List Int)(n i:Nat):List (List Int):=(List.range i).map f++List.replicate (n-i) []
theorem MX{f:Nat->List Int}{n:Nat}:JI f n 0=List.replicate n []:=by simp[JI]
theorem QJ{f:Nat->List Int}{n:Nat}:JI f n n=(List.range n).map f:=by simp[JI]
theorem QK{f:Nat->List Int}{n i:Nat}(hi:i<=n):(JI f n i).length=n:=by simp[JI]; omega
theorem MZ{f:Nat->List Int}{n i:Nat}(hi:i<n):(JI f n i).set i (f i)=JI f n (i+1):=by
 have e1:n-i=(n-(i+1))+1:=by omega
 unfold JI
 rw[e1,List.replicate_succ,List.set_append_right _ _ (by simp)]
 have:i-((List.range i).map f).length=0:=by simp
 rw[this,List.set_cons_zero,List.range_succ]; simp
def Em(p:aC)(q:Prop')(x:Nat):List Int:=bif Ei (ng p q) x then [0,1,2] else [0]
def AP(p:aC)(q:Prop'):List (List Int):=(List.range p.states.length).map (Em p q)
def fiE(p:aC)(q:Prop'):List Elem:=uz (mD 0 (AP p q))
theorem vC{f:Nat->List Int}(hf: ∀ i,(f i).length<=3)(n:Nat):Ej ((List.range n).map f):=by
 intro i
 rw[List.getD_eq_getElem?_getD,List.getElem?_map]
 cases hg:(List.range n)[i]? with
 |none=>simp
 |some j=>exact hf j
theorem QL(p:aC)(q:Prop')(i:Nat):(Em p q i).length<=3:=by
 unfold Em; cases Ei (ng p q) i<;>simp
theorem OQ{v:Int}{N:List (List Int)}(hN:Ej N)(h6:N.length<=6):(mD v N).length<=729:=Nat.le_trans QD (Wi hN h6)
theorem Dj{v:Int}{N:List (List Int)}{e:Elem}(h:e∈mD v N):e.value=v/\e.counts.length=N.length/\e.counts∈qX N N.length/\0<xJ e:=by
 unfold mD Fh at h
 obtain⟨h1,h2⟩:=List.mem_filter.1 h
 obtain⟨c,hc,rfl⟩:=List.mem_map.1 h1
 exact⟨rfl,OL hc,hc,of_decide_eq_true h2⟩
theorem X4{v:Int}{N:List (List Int)}(h6:N.length<=6):eF (mD v N):=fun e he=>by have:=(Dj he).2.1; omega
set_option maxHeartbeats 1000000 in
theorem S.rM(p:aC)(q:Prop')(hp:dJ p)(hq:gG q)(hv:jy p q=0):aj Tryz.prog 47 [.dat (.gW p),.dat (.prop q)] (.row 3 false (.elems (fiE p q))):=by
 have hst:=(lT (zU hv)).states
 have hpos:=(lT (zU hv)).pos
 refine aj.of Bd.rM (by simp) rfl rfl ?_
 conv=>whnf
 refine ah.pure (S.mG p q hp hq hv) rfl ?_
 conv=>whnf
 rw[yK hpos]
 conv=>whnf
 refine .mk (by omega) ?_
 conv=>whnf
 refine aB.nH 19 [5,20] (fun i:Nat=>[(21,.int i),(7,.own 14)]) (fun i=>[(14,iC (JI (Em p q) p.states.length i))]) (fun i=>i<=p.states.length) (fun i=>p.states.length-i) 0 [14] rfl (by decide) (fun _=>rfl) (Nat.zero_le _) ?_ ?_ ?_
 ·exact(sR rfl)
 ·refine⟨okS rfl nofun rfl rfl rfl ⟨rfl,rfl⟩ (vO ?_),trivial⟩
  rw[MX]
  exact QH p.states.length
 conv=>whnf
 refine⟨(sR rfl),rfl,?_⟩
 rintro i hi
 have hSl:=QK (f:=Em p q) hi
 have hsl:=Na hp hq
 conv=>whnf
 refine⟨fun h1=>?_,fun h1=>?_⟩
 ·have hi':i<p.states.length:=by simpa using h1
  have hstep:=MZ (f:=Em p q) hi'
  conv=>whnf
  repeat(refine VC.mk (by simp only[Rw.rng,Int.toNat_natCast]; omega) ?_; conv=>whnf)
  refine ah.pure (S.slices_Contains_int (ng p q) i false (by omega)) rfl ?_
  conv=>whnf
  refine⟨fun h2=>?_,fun h2=>?_⟩
  ·have hn:Em p q i=[0,1,2]:=by rw[Em,h2]; rfl
   rw[hn] at hstep
   conv=>whnf
   repeat(refine VC.mk (by first|(simp only[List.length_set,Rw.Z5,Rw.len,Int.toNat_natCast]; omega)|(simp only[okI] at *; first|omega|(simp_all; done)|(simp_all; omega))) ?_; conv=>whnf)
   refine⟨i+1,[14],by omega,by omega,(sR rfl),(sR rfl),okS rfl nofun rfl rfl rfl ⟨rfl,rfl⟩ (vO ?_),trivial⟩
   rw[<- hstep]
   exact QI _ _ _ _
  ·have hn:Em p q i=[0]:=by rw[Em,h2]; rfl
   rw[hn] at hstep
   conv=>whnf
   refine .mk (by simp only[okI] at *; first|omega|(simp_all; done)|(simp_all; omega)) ?_
   conv=>whnf
   refine⟨i+1,[14],by omega,by omega,(sR rfl),(sR rfl),okS rfl nofun rfl rfl rfl ⟨rfl,rfl⟩ (vO ?_),trivial⟩
   rw[<- hstep]
   exact OO _ _ _
 ·have hi':i=p.states.length:=by
   have: ¬ i<p.states.length:=by simpa using h1
   omega
  subst hi'
  rw[QJ]
  conv=>whnf
  refine ah.ZY (args':=[.int 0,.row 0 false (.gu (AP p q))]) (h2:=[]) (fun i=>i=14) trivial ⟨aG _,OI rfl rfl,trivial⟩ (S.oL 0 (AP p q) false (by simp[AP]; omega) (vC (QL p q) _)) ?_
  conv=>whnf
  have h6:(AP p q).length<=6:=by simp[AP]; omega
  have hcl:=OQ (v:=0) (vC (QL p q) p.states.length) h6
  refine ah.ZW rfl rfl (Nat.lt_of_le_of_lt hcl (by decide)) (X4 h6) ?_ (fun m=>?_)
  ·conv=>whnf
   exact ak.X5 rfl
  ·conv=>whnf
   exact ak.aeN rfl
theorem Il{a b:List Int}{j:Nat}(h:j<a.length):(a++b).getD j 0=a.getD j 0:=by
 simp[List.getD_eq_getElem?_getD,List.getElem?_append_left h]
theorem QM{a:List Int}{n:Int}:(a++[n]).getD a.length 0=n:=by
 simp[List.getD_eq_getElem?_getD]
theorem Wp{N:List (List Int)}: ∀ {i:Nat} {c:List Int},c∈qX N i↔c.length=i/\ ∀ j,j<i->c.getD j 0∈N.getD j []:=by
 intro i
 induction i with
 |zero =>
  intro c
  simp only[qX,List.mem_singleton]
  constructor
  ·rintro rfl; exact⟨rfl,fun j hj=>by omega⟩
  ·rintro⟨h,_⟩; exact List.eq_nil_of_length_eq_zero h
 |succ i ih =>
  intro c
  simp only[qX,List.mem_flatMap,List.mem_map]
  constructor
  ·rintro⟨x,hx,n,hn,rfl⟩
   obtain⟨h1,h2⟩:=ih.1 hx
   refine⟨by rw[List.length_append,h1]; rfl,fun j hj=>?_⟩
   by_cases e:j=i
   ·subst e; rw[<- h1,QM,h1]; exact hn
   ·rw[Il (by omega)]; exact h2 j (by omega)
  ·rintro⟨h1,h2⟩
   have hne:c≠[]:=by intro e; rw[e] at h1; cases h1
   have hc:c=c.dropLast++[c.getD i 0]:=by
    have e1:=(List.dropLast_concat_getLast hne).symm
    have e2:c.getLast hne=c.getD i 0:=by
     rw[List.getLast_eq_getElem,List.getD_eq_getElem?_getD,List.getElem?_eq_getElem (by omega),Option.getD_some]
     congr 1; omega
    rw[e2] at e1; exact e1
   have hl:c.dropLast.length=i:=by rw[List.length_dropLast]; omega
   refine⟨c.dropLast,ih.2 ⟨hl,fun j hj=>?_⟩,c.getD i 0,h2 i (by omega),hc.symm⟩
   have:=h2 j (by omega)
   rw[hc,Il (by omega)] at this
   exact this
def DR(c:List Int)(x:Nat):List Int:=bif c.getD x 0==2 then [2,3,4] else [c.getD x 0]
def iI(c:List Int):List (List Int):=(List.range c.length).map (DR c)
theorem QN(c:List Int)(i:Nat):(DR c i).length<=3:=by
 unfold DR; cases c.getD i 0==2<;>simp
theorem Nb{c:List Int}{j:Nat}(hj:j<c.length):(iI c).getD j []=DR c j:=by
 unfold iI
 simp[List.getD_eq_getElem?_getD,hj]
theorem kN(c:List Int):(iI c).length=c.length:=by simp[iI]
theorem yL{c:List Int}(_hc:E8 c){d:List Int}:d∈qX (iI c) c.length↔d.length=c.length/\ ∀ j,j<c.length->d.getD j 0∈DR c j:=by
 rw[Wp]
 constructor
 ·rintro⟨h1,h2⟩; exact⟨h1,fun j hj=>by rw[<- Nb hj]; exact h2 j hj⟩
 ·rintro⟨h1,h2⟩; exact⟨h1,fun j hj=>by rw[Nb hj]; exact h2 j hj⟩
theorem yM{c:List Int}{j:Nat}{x:Int}(h:x∈DR c j):x=c.getD j 0\/(c.getD j 0=2/\(x=3\/x=4)):=by
 unfold DR at h
 cases hb:(c.getD j 0==2) with
 |true =>
  rw[hb] at h
  have h2:c.getD j 0=2:=by simpa using hb
  simp at h
  omega
 |false=>rw[hb] at h; simp at h; left; simpa using h
theorem aeO{d:List Int}(h: ∀ j,j<d.length->0<=d.getD j 0/\d.getD j 0<=1048576):E8 d:=fun x hx=>by
 obtain⟨j,hj,e⟩:=List.mem_iff_getElem.1 hx
 have:=h j hj
 rw[List.getD_eq_getElem?_getD,List.getElem?_eq_getElem hj,Option.getD_some,e] at this
 exact this
theorem OT{c d:List Int}(hc:E8 c)(h:d∈qX (iI c) c.length):E8 d:=by
 obtain⟨h1,h2⟩:=(yL hc).1 h
 refine aeO fun j hj=>?_
 have a:=yM (h2 j (by omega))
 have b:=hc.get (show j<c.length by omega)
 omega
def yN(r:Rule)(e:Elem):Option Elem:=(eP r e).map Qu
def lM(r:Rule)(l:List Elem):List Elem:=l.filterMap (yN r)
def gI(r:Rule)(a:Elem):List Elem:=uz (lM r (mD a.value (iI a.counts)))
theorem JJ{r:Rule}{l:List Elem}{j:Nat}(hj:j<l.length):lM r (l.take (j+1))=lM r (l.take j)++(yN r (l.getD j default)).toList:=by
 unfold lM
 have ht:l.take (j+1)=l.take j++[l.getD j default]:=by rw[List.take_add_one]; simp[hj]
 rw[ht,List.filterMap_append]
 simp only[List.filterMap_cons,List.filterMap_nil]
 cases yN r (l.getD j default)<;>rfl
theorem Dk{r:Rule}{l:List Elem}:(lM r l).length<=l.length:=List.length_filterMap_le _ _
theorem G6{r:Rule}{l:List Elem}{x:Elem}(h:x∈lM r l): ∃ e∈l,∃ y,eP r e=some y/\x=Qu y:=by
 obtain⟨e,he,h⟩:=List.mem_filterMap.1 h
 unfold yN at h
 obtain⟨y,hy,rfl⟩:=Option.map_eq_some_iff.1 h
 exact⟨e,he,y,hy,rfl⟩
theorem Bo{r:Rule}{l:List Elem}{n:Nat}(hl: ∀ e∈l,e.counts.length=n){x:Elem}(h:x∈lM r l):x.counts.length=n:=by
 obtain⟨e,he,y,hy,rfl⟩:=G6 h
 show(qW y.counts).length=n
 rw[qW,List.length_map,yJ hy,hl e he]
set_option maxHeartbeats 1000000 in
theorem S.tq(r:Rule)(a:Elem)(hr:yt r)(hp:sZ a.counts.length r)(hc:E8 a.counts)(h0:0<a.counts.length)(hl:a.counts.length<=6):aj Tryz.prog 48 [.dat (.rule r),.dat (.elem a)] (.row 3 false (.elems (gI r a))):=by
 refine aj.of Bd.tq (by simp) rfl rfl ?_
 conv=>whnf
 rw[yK h0]
 conv=>whnf
 refine .mk (by omega) ?_
 conv=>whnf
 refine aB.agr 5 4 4 (.agg [.int 2,.int 3,.int 4]) rfl rfl rfl rfl (by decide) ?_
 refine aB.nH 15 [2,3,5,20,21] (fun i:Nat=>[(22,.int i),(6,.own 9)]) (fun i=>[(0,.box 85 19 (.dat (.rule r))),(1,.box 54 3 (.dat (.elem a))),(9,iC (JI (DR a.counts) a.counts.length i))]) (fun i=>i<=a.counts.length) (fun i=>a.counts.length-i) 0 [0,1,9] rfl (by decide) (fun _=>rfl) (Nat.zero_le _) ?_ ?_ ?_
 ·exact(sR rfl)
 ·refine⟨aT rfl rfl,aT rfl rfl,okS rfl nofun rfl rfl rfl ⟨rfl,rfl⟩ (vO ?_),trivial⟩
  rw[MX]
  exact QH a.counts.length
 conv=>whnf
 refine⟨(sR rfl),rfl,?_⟩
 rintro i hi
 have hSl:=QK (f:=DR a.counts) hi
 conv=>whnf
 refine⟨fun h1=>?_,fun h1=>?_⟩
 ·have hi':i<a.counts.length:=by simpa using h1
  have hstep:=MZ (f:=DR a.counts) hi'
  conv=>whnf
  repeat(refine VC.mk (by simp only[Rw.rng,Int.toNat_natCast]; omega) ?_; conv=>whnf)
  refine⟨fun h2=>?_,fun h2=>?_⟩
  ·have hn:DR a.counts i=[2,3,4]:=by rw[DR,show(a.counts.getD i 0==2)=true from h2]; rfl
   rw[hn] at hstep
   conv=>whnf
   repeat(refine VC.mk (by first|(simp only[List.length_set,Rw.Z5,Rw.len,Int.toNat_natCast]; omega)|(simp only[okI] at *; first|omega|(simp_all; done)|(simp_all; omega))) ?_; conv=>whnf)
   refine⟨i+1,[0,1,9],by omega,by omega,(sR rfl),(sR rfl),aT rfl rfl,aT rfl rfl,okS rfl nofun rfl rfl rfl ⟨rfl,rfl⟩ (vO ?_),trivial⟩
   rw[<- hstep]
   exact QI _ _ _ _
  ·have hn:DR a.counts i=[a.counts.getD i 0]:=by rw[DR,show(a.counts.getD i 0==2)=false from h2]; rfl
   rw[hn] at hstep
   conv=>whnf
   refine .mk (by simp only[okI] at *; first|omega|(simp_all; done)|(simp_all; omega)) ?_
   conv=>whnf
   refine⟨i+1,[0,1,9],by omega,by omega,(sR rfl),(sR rfl),aT rfl rfl,aT rfl rfl,okS rfl nofun rfl rfl rfl ⟨rfl,rfl⟩ (vO ?_),trivial⟩
   rw[<- hstep]
   exact OO _ _ _
 ·have hi':i=a.counts.length:=by
   have: ¬ i<a.counts.length:=by simpa using h1
   omega
  subst hi'
  rw[QJ]
  conv=>whnf
  have h6:(iI a.counts).length<=6:=by rw[kN]; exact hl
  have hs3:=vC (QN a.counts) a.counts.length
  have hcl:(mD a.value (iI a.counts)).length<=729:=OQ (v:=a.value) hs3 h6
  refine ah.ZY (args':=[.int a.value,.row 0 false (.gu (iI a.counts))]) (h2:=[(0,some (.box 85 19 (.dat (.rule r)))),(1,some (.box 54 3 (.dat (.elem a))))]) (fun i=>i=9) ⟨mF (Z:=fun i=>i=9) rfl (by decide),mF (Z:=fun i=>i=9) rfl (by decide),trivial⟩ ⟨aG _,OI rfl rfl,trivial⟩ (S.oL a.value (iI a.counts) false h6 hs3) ?_
  conv=>whnf
  refine aB.nil 9 54 3 (by rfl) rfl rfl rfl ?_
  refine aB.nH 24 [2,42,43] (fun j:Nat=>[(44,.int j),(9,.own 23)]) (fun j=>[(0,.box 85 19 (.dat (.rule r))),(20,eH (mD a.value (iI a.counts))),(23,eH (lM r ((mD a.value (iI a.counts)).take j)))]) (fun j=>j<=(mD a.value (iI a.counts)).length) (fun j=>(mD a.value (iI a.counts)).length-j) 0 [0,20,23] rfl (by decide) (fun _=>rfl) (Nat.zero_le _) ?_ ?_ ?_
  ·exact(sR rfl)
  ·exact⟨aT rfl rfl,aT rfl rfl,aT rfl rfl,trivial⟩
  conv=>whnf
  refine⟨(sR rfl),rfl,?_⟩
  rintro j hj
  have hkl:=Dk (r:=r) (l:=(mD a.value (iI a.counts)).take j)
  rw[List.length_take] at hkl
  conv=>whnf
  refine⟨fun h2=>?_,fun h2=>?_⟩
  ·have hj':j<(mD a.value (iI a.counts)).length:=by simpa using h2
   have hstep:=JJ (r:=r) hj'
   have hmem:(mD a.value (iI a.counts)).getD j default∈mD a.value (iI a.counts):=dF hj'
   obtain⟨_,g1,g2,_⟩:=Dj hmem
   rw[kN] at g1 g2
   conv=>whnf
   repeat(refine VC.mk (by simp only[Rw.rng] at *; first|omega|(simp_all; done)|(simp_all; omega)) ?_; conv=>whnf)
   refine ah.pure (aj.JK (S.vM r ((mD a.value (iI a.counts)).getD j default) hr (by rw[g1]; exact hp) (OT hc g2) (by omega))) rfl ?_
   conv=>whnf
   refine⟨fun h3=>?_,fun h3=>?_⟩
   ·obtain⟨x,hx⟩:=Option.isSome_iff_exists.1 h3
    replace hx:eP r ((mD a.value (iI a.counts)).getD j default)=some x:=hx
    have hxl:=yJ hx
    rw[yN,hx] at hstep
    rw[show eP r ((mD a.value (iI a.counts)).getD (j:Int).toNat default)=some x from hx]
    conv=>whnf
    refine ah.pure (S.pG x (by rw[hxl]; omega) (by rw[hxl]; omega)) rfl ?_
    conv=>whnf
    repeat(refine VC.mk (by first|(show((lM r ((mD a.value (iI a.counts)).take j)).length+(0+1))*32<=140737488355328/\(lM r ((mD a.value (iI a.counts)).take j)).length+(0+1)<=1152921504606846976; omega)|(simp only[okI] at *; first|omega|(simp_all; done)|(simp_all; omega))) ?_; conv=>whnf)
    refine⟨j+1,[0,20,43],by omega,by omega,(sR rfl),(sR rfl),aT rfl rfl,aT rfl rfl,okF rfl nofun rfl rfl rfl ⟨rfl,rfl⟩ ?_,trivial⟩
    rw[hstep]
    show List.map fD (lM r ((mD a.value (iI a.counts)).take j)++[Qu x])++[]=List.map fD (lM r ((mD a.value (iI a.counts)).take j))++[fD (Qu x)]
    simp
   ·replace h3:(eP r ((mD a.value (iI a.counts)).getD j default)).isSome=false:=h3
    rw[Option.isSome_eq_false_iff,Option.isNone_iff_eq_none] at h3
    rw[yN,h3] at hstep
    conv=>whnf
    refine .mk (by simp only[okI] at *; first|omega|(simp_all; done)|(simp_all; omega)) ?_
    conv=>whnf
    refine⟨j+1,[0,20,23],by omega,by omega,(sR rfl),(sR rfl),aT rfl rfl,aT rfl rfl,okF rfl nofun rfl rfl rfl ⟨rfl,rfl⟩ (by rw[hstep]; simp),trivial⟩
  ·have hj':(mD a.value (iI a.counts)).length<=j:=by simpa using h2
   rw[List.take_of_length_le hj']
   conv=>whnf
   have hsm:eF (lM r (mD a.value (iI a.counts))):=fun x hx=>by
    rw[Bo (n:=a.counts.length) (fun e he=>by rw[(Dj he).2.1,kN]) hx]; omega
   have hpl:=Dk (r:=r) (l:=mD a.value (iI a.counts))
   refine ah.ZW rfl rfl (Nat.lt_of_le_of_lt hpl (Nat.lt_of_le_of_lt hcl (by decide))) hsm ?_ (fun m=>?_)
   ·conv=>whnf
    exact ak.X5 rfl
   ·conv=>whnf
    exact ak.aeN rfl
def allM(m:Nat):Nat->List (List Int)
 |0=>[[]]
 |n+1=>(List.range (m+1)).flatMap fun(k:Nat)=>(allM m n).map fun c=>(k:Int)::c
def jO(m n j:Nat):List (List Int):=(allM m (n-j)).map fun c=>List.replicate j 0++c
def xP(m n j k:Nat):List (List Int):=(List.range k).flatMap fun(k:Nat)=>(jO m n (j+1)).map fun c=>c.set j (k:Int)
theorem JL{m n j k:Nat}:xP m n j (k+1)=xP m n j k++(jO m n (j+1)).map fun c=>c.set j (k:Int):=by
 unfold xP
 rw[List.range_succ,List.flatMap_append]; simp
theorem rO{m:Nat}: ∀ {n:Nat},(allM m n).length=(m+1)^n:=by
 intro n
 induction n with
 |zero=>rfl
 |succ n ih =>
  unfold allM
  rw[List.length_flatMap]
  have:(List.range (m+1)).map (fun(a:Nat)=>((allM m n).map fun c=>(a:Int)::c).length)=List.replicate (m+1) ((m+1)^n):=by
   rw[List.eq_replicate_iff]
   refine⟨by simp,fun b hb=>?_⟩
   obtain⟨a,_,rfl⟩:=List.mem_map.1 hb
   rw[List.length_map,ih]
  rw[this,List.sum_replicate_nat,Nat.pow_succ,Nat.mul_comm]
theorem Bq{m:Nat}: ∀ {n:Nat} {c:List Int},c∈allM m n↔c.length=n/\ ∀ x∈c,0<=x/\x<=m:=by
 intro n
 induction n with
 |zero =>
  intro c
  simp only[allM,List.mem_singleton]
  constructor
  ·rintro rfl; exact⟨rfl,fun x hx=>by cases hx⟩
  ·rintro⟨h,_⟩; exact List.eq_nil_of_length_eq_zero h
 |succ n ih =>
  intro c
  simp only[allM,List.mem_flatMap,List.mem_range,List.mem_map]
  constructor
  ·rintro⟨k,hk,d,hd,rfl⟩
   obtain⟨h1,h2⟩:=ih.1 hd
   refine⟨by rw[List.length_cons,h1],fun x hx=>?_⟩
   rcases List.mem_cons.1 hx with rfl|hx
   ·omega
   ·exact h2 x hx
  ·rintro⟨h1,h2⟩
   cases c with
   |nil=>cases h1
   |cons x d =>
    have hx:=h2 x (by simp)
    refine⟨x.toNat,by omega,d,ih.2 ⟨by simpa using h1,fun y hy=>h2 y (by simp[hy])⟩,?_⟩
    rw[Int.toNat_of_nonneg hx.1]
theorem Nc{m n j:Nat}(hn:n<=6)(hm:m<=3):(jO m n j).length<=4096:=by
 unfold jO
 rw[List.length_map,rO]
 have h1:(m+1)^(n-j)<=4^(n-j):=Nat.pow_le_pow_left (by omega) _
 have h2:4^(n-j)<=4^6:=Nat.pow_le_pow_right (by decide) (by omega)
 have h3:4^6=4096:=by decide
 omega
theorem X6{m n j k:Nat}(hn:n<=6)(hm:m<=3):(xP m n j k).length<=k*4096:=by
 induction k with
 |zero=>simp[xP]
 |succ k ih =>
  rw[JL,List.length_append,List.length_map,Nat.succ_mul]
  have:=@Nc m n (j+1) hn hm
  omega
theorem acF{j:Nat}{k:Int}{c:List Int}:(List.replicate (j+1) (0:Int)++c).set j k=List.replicate j 0++(k::c):=by
 rw[List.replicate_succ',List.append_assoc,List.set_append_right _ _ (by simp)]
 simp
theorem UD{m n j:Nat}(hj:j<n):xP m n j (m+1)=jO m n j:=by
 have e:n-j=(n-(j+1))+1:=by omega
 unfold xP jO
 rw[e,allM,List.map_flatMap]
 refine congrArg List.flatten (List.map_congr_left fun k _=>?_)
 rw[List.map_map,List.map_map]
 exact List.map_congr_left fun c _=>acF
theorem X7{m n:Nat}:jO m n 0=allM m n:=by simp[jO]
theorem X8{m n j:Nat}(hj:j<=n){c:List Int}(h:c∈jO m n j):c.length=n:=by
 obtain⟨d,hd,rfl⟩:=List.mem_map.1 h
 have:=(Bq.1 hd).1
 rw[List.length_append,List.length_replicate,this]; omega
set_option maxHeartbeats 1000000 in
theorem S.Z7(m n:Nat)(hn0:0<n)(hn6:n<=6)(hm3:m<=3):aj Tryz.prog 40 [.int n,.int m] (.row 0 false (.gu (allM m n))):=by
 refine aj.of Bd.OU (by simp) rfl rfl ?_
 conv=>whnf
 have hmk:=Bj (n:=n) hn0
 rw[hmk]
 conv=>whnf
 repeat(refine VC.mk (by first|(omega)|(simp only[okI] at *; first|omega|(simp_all; done)|(simp_all; omega))) ?_; conv=>whnf)
 refine aB.Wj 1 [0,1] (fun j:Nat=>[(6,.int ((j:Int)-1)),(5,.own 0)]) (fun j=>[(0,iC (jO m n j))]) (fun j=>j<=n) (fun j=>j) n [3] [(3,some (iC ([]++[List.replicate n 0])))] rfl (by decide) (fun _=>rfl) (Nat.le_refl _) ?_ ?_ ?_ ?_
 ·exact(sR rfl)
 ·exact⟨fun i=>i=2,Di (Z:=fun i=>i=2) (i:=3) (j:=2) rfl rfl (by decide) rfl rfl,trivial⟩
 ·exact⟨okF rfl nofun rfl rfl rfl ⟨rfl,rfl⟩ (by simp[jO,allM]),trivial⟩
 conv=>whnf
 refine⟨(sR rfl),rfl,?_⟩
 rintro j hj
 conv=>whnf
 refine⟨fun h3=>?_,fun h3=>?_⟩
 ·obtain⟨j,rfl⟩: ∃ i,j=i+1:=⟨j-1,by have:=of_decide_eq_true h3; omega⟩
  have ej:(((j+1:Nat):Int)-1)=(j:Int):=by omega
  rw[ej]
  conv=>whnf
  refine aB.nil 7 24 0 (by rfl) rfl rfl rfl ?_
  refine aB.objs 2 [0,1,5,6] (fun k:Nat=>[(8,.int k),(7,.own 1)]) (fun k=>[(0,iC (jO m n (j+1))),(1,iC (xP m n j k))]) (fun k=>k<=m+1) (fun k=>m+1-k) 0 [0,5] rfl (by decide) (fun _=>rfl) (Nat.zero_le _) ?_ ?_ ?_
  ·exact(sR rfl)
  ·exact⟨⟨rfl,nofun,rfl,rfl,rfl,_,rfl,rfl,rfl,bD.of_eq rfl⟩,⟨rfl,nofun,rfl,rfl,rfl,_,rfl,rfl,rfl,bD.of_eq rfl⟩,trivial⟩
  conv=>whnf
  refine⟨(sR rfl),rfl,?_⟩
  rintro k hk
  have hkl:=@X6 m n j k hn6 hm3
  have hol:=@Nc m n (j+1) hn6 hm3
  conv=>whnf
  refine⟨fun h4=>?_,fun h4=>?_⟩
  ·have hk3:k<=m:=by have:=of_decide_eq_true h4; omega
   conv=>whnf
   refine aB.Wj 2 [0,1,5,6,8] (fun i:Nat=>[(9,.int i),(7,.own 1)]) (fun i=>[(0,iC (jO m n (j+1))),(1,iC (xP m n j k++((jO m n (j+1)).take i).map fun c=>c.set j (k:Int)))]) (fun i=>i<=(jO m n (j+1)).length) (fun i=>(jO m n (j+1)).length-i) 0 [0,1] [(0,some (iC (jO m n (j+1)))),(1,some (iC (xP m n j k)))] rfl (by decide) (fun _=>rfl) (Nat.zero_le _) ?_ ?_ ?_ ?_
   ·exact(sR rfl)
   ·exact⟨fun _=>False,mF (Z:=fun _=>False) rfl (fun q=>q),mF (Z:=fun _=>False) rfl (fun q=>q),trivial⟩
   ·exact⟨aT rfl rfl,okF rfl nofun rfl rfl rfl ⟨rfl,rfl⟩ (by simp),trivial⟩
   conv=>whnf
   refine⟨(sR rfl),rfl,?_⟩
   rintro i hi
   have hal:(xP m n j k++((jO m n (j+1)).take i).map fun c=>c.set j (k:Int)).length<=6*4096:=by
    rw[List.length_append,List.length_map,List.length_take]; omega
   conv=>whnf
   refine⟨fun h5=>?_,fun h5=>?_⟩
   ·have hi':i<(jO m n (j+1)).length:=by simpa using h5
    have hcl:((jO m n (j+1)).getD i []).length=n:=X8 hj (dF hi')
    conv=>whnf
    repeat(refine VC.mk (by first|(first|(simp only[nY,o9,Rw.len,Int.toNat_natCast,hcl]; omega)|(simp only[Rw.rng,Int.toNat_natCast,hcl]; omega)|(show((xP m n j k++((jO m n (j+1)).take i).map fun c=>c.set j (k:Int)).length+(0+1))*24<=140737488355328/\(xP m n j k++((jO m n (j+1)).take i).map fun c=>c.set j (k:Int)).length+(0+1)<=1152921504606846976; omega))|(simp only[okI] at *; first|omega|(simp_all; done)|(simp_all; omega))) ?_; conv=>whnf)
    refine⟨[(0,some (iC (jO m n (j+1)))),(21,some (iC ((xP m n j k++((jO m n (j+1)).take i).map fun c=>c.set j (k:Int))++[((jO m n (j+1)).getD i []).set j (k:Int)])))],i+1,[0,21],⟨fun i=>i=11,mF (Z:=fun i=>i=11) (i:=0) rfl (by decide),Di (Z:=fun i=>i=11) (i:=21) (j:=11) rfl rfl (by decide) rfl rfl,trivial⟩,by omega,by omega,(sR rfl),(sR rfl),aT rfl rfl,okF rfl nofun rfl rfl rfl ⟨rfl,rfl⟩ ?_,trivial⟩
    have ht:(jO m n (j+1)).take (i+1)=(jO m n (j+1)).take i++[(jO m n (j+1)).getD i []]:=by rw[List.take_add_one]; simp[hi']
    rw[ht,List.map_append,<- List.append_assoc]; rfl
   ·have hi':i=(jO m n (j+1)).length:=by
     have: ¬ ((i:Int)<((jO m n (j+1)).length:Int)):=of_decide_eq_false h5
     omega
    subst hi'
    rw[List.take_length,<- JL]
    conv=>whnf
    refine .mk (by first|(simp only[okI]; omega)|omega) ?_
    conv=>whnf
    refine⟨k+1,[0,1],by omega,by omega,(sR rfl),(sR rfl),⟨rfl,nofun,rfl,rfl,rfl,_,rfl,rfl,rfl,bD.of_eq rfl⟩,⟨rfl,nofun,rfl,rfl,rfl,_,rfl,rfl,rfl,bD.of_eq rfl⟩,trivial⟩
  ·have hk4:k=m+1:=by have:=of_decide_eq_false h4; omega
   subst hk4
   rw[UD (by omega)]
   conv=>whnf
   refine .mk (by first|(simp only[okI]; omega)|omega) ?_
   conv=>whnf
   refine⟨[(1,some (iC (jO m n j)))],j,[1],⟨fun _=>False,mF (Z:=fun _=>False) rfl (fun q=>q),trivial⟩,by omega,by omega,(sR rfl),(sR rfl),aT rfl rfl,trivial⟩
 ·have hj0:j=0:=by have:=of_decide_eq_false h3; omega
  subst hj0
  rw[X7]
  conv=>whnf
  exact ak.agq rfl
theorem S.JM(l:List Int)(s:Int)(f:Bool)(hl:l.length<2^40):aj Tryz.prog 118 [.row 0 f (.ints l),.int s] (.bool (Ei l s)):=by
 refine aj.of Bd.JM (by simp) rfl rfl ?_
 conv=>whnf
 refine aB.same [0,1] (fun i:Nat=>[(5,.int i)]) (fun i=>i<=l.length/\(l.take i).any (fun x=>s==x)=false) (fun i=>l.length-i) 0 rfl (by decide) rfl (fun _=>rfl) ⟨by omega,by simp⟩ ⟨⟨_,rfl,rfl⟩,trivial⟩ ?_
 conv=>whnf
 refine⟨rfl,?_⟩
 rintro i ⟨hi,hall⟩
 conv=>whnf
 refine⟨fun h3=>?_,fun h3=>?_⟩
 ·have hi':i<l.length:=by simpa using h3
  conv=>whnf
  refine .mk (by simp only[Rw.rng] at *; first|omega|(simp_all; done)|(simp_all; omega)) ?_
  conv=>whnf
  refine⟨fun h4=>?_,fun h4=>?_⟩
  ·have h4':(s==l.getD i 0)=true:=by rw[show(s==l.getD i 0)=(l.getD i 0==s) from Bool.beq_comm]; exact h4
   conv=>whnf
   exact ak.bool (iV (d:=0) hi' h4')
  ·have h4':(s==l.getD i 0)=false:=by rw[show(s==l.getD i 0)=(l.getD i 0==s) from Bool.beq_comm]; exact h4
   conv=>whnf
   refine .mk (by simp only[okI] at *; first|omega|(simp_all; done)|(simp_all; omega)) ?_
   conv=>whnf
   refine⟨i+1,⟨by omega,?_⟩,by omega,⟨⟨_,rfl,rfl⟩,trivial⟩,?_,rfl⟩
   ·rw[kP (d:=0) hi' hall]; exact h4'
   ·repeat' (first|exact trivial|exact⟨_,rfl,rfl⟩|constructor)
 ·have hi':l.length<=i:=by simpa using h3
  rw[List.take_of_length_le hi'] at hall
  conv=>whnf
  exact ak.bool hall
theorem S.tu(l c:List Int)(f g:Bool)(hl:l.length<2^40)(hc:c.length<2^40):aj Tryz.prog 85 [.row 0 f (.ints l),.row 0 g (.ints c)] (.bool (!(Bv c l))):=by
 refine aj.of Bd.tu (by simp) rfl rfl ?_
 conv=>whnf
 refine aB.same [0,1] (fun i:Nat=>[(5,.int i)]) (fun i=>i<=c.length/\(List.range i).any (fun i=>decide (c.getD i 0>0)&& !(Ei l i))=false) (fun i=>c.length-i) 0 rfl (by decide) rfl (fun _=>rfl) ⟨by omega,by simp⟩ ⟨⟨_,rfl,rfl⟩,trivial⟩ ?_
 conv=>whnf
 refine⟨rfl,?_⟩
 rintro i ⟨hi,hall⟩
 conv=>whnf
 refine⟨fun h3=>?_,fun h3=>?_⟩
 ·have hi':i<c.length:=by simpa using h3
  conv=>whnf
  repeat(refine VC.mk (by first|exact fun h=>⟨h,h⟩|(simp only[Rw.rng] at *; first|omega|(simp_all; done)|(simp_all; omega))) ?_; conv=>whnf)
  refine ah.dL (fun _=>S.JM l i f hl) rfl ?_
  conv=>whnf
  repeat(refine VC.mk id ?_; conv=>whnf)
  refine⟨fun h4=>?_,fun h4=>?_⟩
  ·conv=>whnf
   exact ak.bool (by rw[show Bv c l=true from oN.2 ⟨i,hi',h4⟩]; rfl)
  ·conv=>whnf
   refine .mk (by simp only[okI] at *; first|omega|(simp_all; done)|(simp_all; omega)) ?_
   conv=>whnf
   refine⟨i+1,⟨by omega,?_⟩,by omega,⟨⟨_,rfl,rfl⟩,trivial⟩,?_,rfl⟩
   ·rw[List.range_succ,List.any_append,hall]
    simp only[List.any_cons,List.any_nil,Bool.or_false,Bool.false_or]; exact h4
   ·repeat' (first|exact trivial|exact⟨_,rfl,rfl⟩|constructor)
 ·have hi':c.length<=i:=by simpa using h3
  have e:i=c.length:=Nat.le_antisymm hi hi'
  subst e
  conv=>whnf
  exact ak.bool (by rw[show Bv c l=false from hall]; rfl)
def QO(p:aC)(q:Prop')(c:List Int):Bool:=decide (0<xJ ⟨0,c⟩)&& !(Bv c (ng p q))
def initK(p:aC)(q:Prop')(l:List (List Int)):List Elem:=(l.filter (QO p q)).map fun c=>(⟨0,c⟩:Elem)
def nI(p:aC)(q:Prop'):List Elem:=initK p q (allM 2 p.states.length)
theorem UE{p:aC}{q:Prop'}{l:List (List Int)}{a:Nat}(ha:a<l.length):initK p q (l.take (a+1))=initK p q (l.take a)++(if QO p q (l.getD a [])=true then [⟨0,l.getD a []⟩] else []):=by
 unfold initK
 have ht:l.take (a+1)=l.take a++[l.getD a []]:=by rw[List.take_add_one]; simp[ha]
 rw[ht,List.filter_append,List.map_append]
 by_cases h:QO p q (l.getD a [])=true
 ·rw[if_pos h]; simp only[List.filter_cons,h,if_true,List.filter_nil,List.map_cons,List.map_nil]
 ·rw[if_neg h]; simp only[List.filter_cons,h,Bool.false_eq_true,if_false,List.filter_nil,List.map_nil]
theorem X9{p:aC}{q:Prop'}{l:List (List Int)}:(initK p q l).length<=l.length:=by
 unfold initK; rw[List.length_map]; exact List.length_filter_le _ _
theorem Fp{x y:Int}{a b:List Int}(h:x<y\/(x=y/\cmpL a b<0)):cmpL (x::a) (y::b)<0:=by
 rw[cmpL]
 rcases h with h|⟨rfl,h⟩
 ·rw[if_pos h]; decide
 ·rw[if_neg (Int.lt_irrefl _),if_neg (Int.lt_irrefl _)]; exact h
theorem Ya{R:List Int->List Int->Prop}{f:Nat->List (List Int)}: ∀ {n:Nat},(∀ k,k<n->(f k).Pairwise R)->(∀ j k,j<k->k<n-> ∀ a∈f j,∀ b∈f k,R a b)->((List.range n).flatMap f).Pairwise R:=by
 intro n
 induction n with
 |zero=>intro _ _; exact List.Pairwise.nil
 |succ n ih =>
  intro h1 h2
  rw[List.range_succ,List.flatMap_append,List.pairwise_append]
  refine⟨ih (fun k hk=>h1 k (by omega)) (fun j k a b=>h2 j k a (by omega)),by simpa using h1 n (by omega),fun a ha b hb=>?_⟩
  obtain⟨j,hj,ha⟩:=List.mem_flatMap.1 ha
  have hb':b∈f n:=by simpa using hb
  exact h2 j n (List.mem_range.1 hj) (by omega) a ha b hb'
theorem QS{m:Nat}: ∀ {n:Nat},(allM m n).Pairwise fun a b=>cmpL a b<0:=by
 intro n
 induction n with
 |zero=>exact List.pairwise_singleton _ _
 |succ n ih =>
  unfold allM
  refine Ya (fun k _=>?_) (fun j k hjk _ a ha b hb=>?_)
  ·rw[List.pairwise_map]
   exact ih.imp fun h=>Fp (.inr ⟨rfl,h⟩)
  ·obtain⟨c,_,rfl⟩:=List.mem_map.1 ha
   obtain⟨d,_,rfl⟩:=List.mem_map.1 hb
   exact Fp (.inl (by omega))
theorem Z8(p:aC)(q:Prop'):SS (nI p q):=by
 unfold SS nI initK
 rw[List.pairwise_map]
 refine(QS.filter _).imp fun h=>?_
 unfold fE
 rw[if_neg (Int.lt_irrefl _),if_neg (Int.lt_irrefl _)]; exact h
theorem aeP{c l:List Int}:Bv c l=false↔ ∀ i,i<c.length->0<c.getD i 0->Ei l i=true:=by
 constructor
 ·intro h i hi hp
  cases hb:Ei l i with
  |true=>rfl
  |false =>
   have:Bv c l=true:=oN.2 ⟨i,hi,by rw[hb]; simpa using hp⟩
   rw[this] at h; cases h
 ·intro h
  cases hb:Bv c l with
  |false=>rfl
  |true =>
   obtain⟨i,hi,h2⟩:=oN.1 hb
   simp at h2
   rw[h i hi (by simpa using h2.1)] at h2; cases h2.2
theorem Nh{p:aC}{q:Prop'}{j:Nat}(hj:j<p.states.length):(AP p q).getD j []=Em p q j:=by
 unfold AP; simp[List.getD_eq_getElem?_getD,hj]
theorem aeQ(p:aC)(q:Prop'):fiE p q=nI p q:=by
 refine G7 (uD _) (Z8 p q) fun x=>?_
 rw[fiE,oO]
 have hN:(AP p q).length=p.states.length:=by simp[AP]
 have key: ∀ c:List Int,c∈qX (AP p q) (AP p q).length↔(c∈allM 2 p.states.length/\Bv c (ng p q)=false):=by
  intro c
  rw[Wp,hN,Bq,aeP]
  constructor
  ·rintro⟨h1,h2⟩
   have h3: ∀ j,j<p.states.length->c.getD j 0∈Em p q j:=fun j hj=>by rw[<- Nh hj]; exact h2 j hj
   refine⟨⟨h1,fun x hx=>?_⟩,fun i hi hp=>?_⟩
   ·obtain⟨j,hj,e⟩:=List.mem_iff_getElem.1 hx
    have:=h3 j (by omega)
    rw[List.getD_eq_getElem?_getD,List.getElem?_eq_getElem hj,Option.getD_some,e] at this
    unfold Em at this
    cases hb:Ei (ng p q) j<;>rw[hb] at this<;>simp at this<;>omega
   ·have:=h3 i (by omega)
    unfold Em at this
    cases hb:Ei (ng p q) i with
    |true=>rfl
    |false=>rw[hb] at this; simp at this; rw[List.getD_eq_getElem?_getD] at hp; omega
  ·rintro⟨⟨h1,h2⟩,h3⟩
   refine⟨h1,fun j hj=>?_⟩
   rw[Nh hj]
   have hm:c.getD j 0∈c:=by
    rw[List.getD_eq_getElem?_getD,List.getElem?_eq_getElem (by omega)]; exact List.getElem_mem _
   have hr:=h2 _ hm
   have hs:=h3 j (by omega)
   unfold Em
   cases hb:Ei (ng p q) j with
   |true=>simp only[cond_true,List.mem_cons,List.not_mem_nil,or_false]; omega
   |false =>
    simp only[cond_false,List.mem_singleton]
    by_cases h0:0<c.getD j 0
    ·rw[hs h0] at hb; cases hb
    ·omega
 unfold mD Fh nI initK QO
 simp only[List.mem_filter,List.mem_map,Bool.and_eq_true,decide_eq_true_eq,Bool.not_eq_true']
 constructor
 ·rintro⟨⟨c,hc,rfl⟩,ht⟩
  have:=(key c).1 hc
  exact⟨c,⟨this.1,ht,this.2⟩,rfl⟩
 ·rintro⟨c,⟨h1,h2,h3⟩,rfl⟩
  exact⟨⟨c,(key c).2 ⟨h1,h3⟩,rfl⟩,h2⟩
theorem JO{p:aC}{q:Prop'}(h:uU p q=0):jy p q=0:=by
 unfold uU at h
 by_cases h0:jy p q=0
 ·exact h0
 ·rw[show(jy p q !=0)=true by simpa using h0] at h; exact absurd h h0
theorem zV{p:aC}{q:Prop'}(h:uU p q=0):AZ p=0:=by
 have h0:=JO h
 unfold uU at h
 rw[h0] at h; exact h
theorem ahF{Z:Nat->Prop}{h:Hz}{j:Nat}{v:Int}{l:List Int}(hz:Z j)(q:h.get j=some (mg l)):T.sub Z h.au (fD ⟨v,l⟩) (.agg [.int v,.own j]):=by
 have:=D5 hz q
 show T.sub Z h.au (.agg [.int v,.sl 0 false (l.map T.int)]) (.agg [.int v,.own j])
 replace this:T.sub Z h.au (.sl 0 false (l.map T.int)) (.own j):=this
 simp only[T.sub] at this
 simp only[T.sub,T.dP]
 exact⟨trivial,this,trivial⟩
theorem Z9{Z:Nat->Prop}{h:Hz}{i j:Nat}{l:List Elem}{e:Elem}(q:h.get i=some (.row 54 3 (.elems l) [.agg [.int e.value,.own j]]))(hi: ¬ Z i)(hz:Z j)(qj:h.get j=some (mg e.counts)) :
  ∃ o',h.get i=some o'/\ ¬ Z i/\o'.ay.ty=(eH (l++[e])).ay.ty/\o'.ay.k=(eH (l++[e])).ay.k/\T.dP Z h.au (eH (l++[e])).ay.l o'.ay.l/\(eH (l++[e])).ay.l.map T.kd=o'.ay.l.map T.kd/\(eH (l++[e])).ay.l.map fV=o'.ay.l.map fV:=by
 have e1:(eH (l++[e])).ay.l=l.map fD++[fD e]:=by simp[OV.ay,Rw.aS,V.aS]
 refine⟨_,q,hi,rfl,rfl,?_,?_,?_⟩
 ·rw[e1]
  exact nZ (aP _) ⟨ahF hz qj,trivial⟩
 ·rw[e1]; show _=List.map T.kd (l.map fD++[.agg [.int e.value,.own j]])
  rw[List.map_append,List.map_append]; rfl
 ·rw[e1]; show _=List.map fV (l.map fD++[.agg [.int e.value,.own j]])
  rw[List.map_append,List.map_append]; rfl
def gq(c:List Int):Nat->List (List Int)
 |0=>[c]
 |x+1=>if c.getD x 0<2 then gq c x else gq c x++(gq c x).flatMap fun d=>[d.set x 3,d.set x 4]
def G8(c:List Int)(x i:Nat):List (List Int):=gq c x++((gq c x).take i).flatMap fun d=>[d.set x 3,d.set x 4]
def Bz(c:List Int)(x i b:Nat):List (List Int):=G8 c x i++((List.range b).map fun(k:Nat)=>((gq c x).getD i []).set x (3+(k:Int)))
def jP(a:Elem)(l:List (List Int)):List Elem:=l.map fun d=>(⟨a.value,d⟩:Elem)
theorem Yb{c:List Int}{x i:Nat}(hi:i<(gq c x).length):G8 c x (i+1)=Bz c x i 2:=by
 unfold G8 Bz G8
 have ht:(gq c x).take (i+1)=(gq c x).take i++[(gq c x).getD i []]:=by rw[List.take_add_one]; simp[hi]
 rw[ht,List.flatMap_append,<- List.append_assoc]; rfl
theorem aac{c:List Int}{x:Nat}(h: ¬ c.getD x 0<2):G8 c x (gq c x).length=gq c (x+1):=by
 unfold G8; rw[List.take_length,gq,if_neg h]
theorem Yc{c:List Int}{x i b:Nat}:Bz c x i (b+1)=Bz c x i b++[((gq c x).getD i []).set x (3+(b:Int))]:=by
 unfold Bz
 rw[List.range_succ,List.map_append,<- List.append_assoc]; rfl
theorem QT{c:List Int}: ∀ {x:Nat},(gq c x).length<=3^x:=by
 intro x
 induction x with
 |zero=>exact Nat.le_refl _
 |succ x ih =>
  rw[gq]
  split
  ·rw[Nat.pow_succ]; omega
  ·have:=Fg (l:=gq c x) (f:=fun d=>[d.set x 3,d.set x 4]) (k:=2) (fun _ _=>Nat.le_refl _)
   rw[List.length_append,Nat.pow_succ]; omega
theorem QU{c:List Int}: ∀ {x:Nat} {d:List Int},x<=c.length->(d∈gq c x↔d.length=c.length/\ ∀ j,j<c.length->d.getD j 0=c.getD j 0\/(j<x/\2<=c.getD j 0/\(d.getD j 0=3\/d.getD j 0=4))):=by
 intro x
 induction x with
 |zero =>
  intro d _
  simp only[gq,List.mem_singleton]
  constructor
  ·rintro rfl; exact⟨rfl,fun j _=>.inl rfl⟩
  ·rintro⟨h1,h2⟩
   refine List.ext_getElem h1 fun j g1 g2=>?_
   have:=h2 j g2
   rcases this with h|⟨h,_⟩
   ·rw[List.getD_eq_getElem?_getD,List.getD_eq_getElem?_getD,List.getElem?_eq_getElem g1,List.getElem?_eq_getElem g2] at h; exact h
   ·omega
 |succ x ih =>
  intro d hx
  have ih:=fun {d}=>@ih d (by omega)
  rw[gq]
  split
  ·rename_i h2
   rw[ih]
   constructor
   ·rintro⟨g1,g2⟩
    exact⟨g1,fun j hj=>(g2 j hj).imp id fun⟨a,b⟩=>⟨by omega,b⟩⟩
   ·rintro⟨g1,g2⟩
    refine⟨g1,fun j hj=>(g2 j hj).imp id fun⟨a,b,c'⟩=>⟨?_,b,c'⟩⟩
    by_cases e:j=x
    ·subst e; omega
    ·omega
  ·rename_i h2
   rw[List.mem_append,List.mem_flatMap]
   have hset: ∀ {d:List Int} {k:Int},d.length=c.length-> ∀ j,(d.set x k).getD j 0=if j=x then k else d.getD j 0:=fun hd j=>JA (by omega)
   constructor
   ·rintro(h|⟨e,he,h⟩)
    ·obtain⟨g1,g2⟩:=ih.1 h
     exact⟨g1,fun j hj=>(g2 j hj).imp id fun⟨a,b⟩=>⟨by omega,b⟩⟩
    ·obtain⟨g1,g2⟩:=ih.1 he
     have h34: ∃ k:Int,(k=3\/k=4)/\d=e.set x k:=by
      simp only[List.mem_cons,List.not_mem_nil,or_false] at h
      rcases h with rfl|rfl
      ·exact⟨3,.inl rfl,rfl⟩
      ·exact⟨4,.inr rfl,rfl⟩
     obtain⟨k,hk,rfl⟩:=h34
     refine⟨by rw[List.length_set]; exact g1,fun j hj=>?_⟩
     rw[hset g1]
     by_cases ej:j=x
     ·subst ej; rw[if_pos rfl]; exact .inr ⟨by omega,by omega,hk⟩
     ·rw[if_neg ej]; exact(g2 j hj).imp id fun⟨a,b⟩=>⟨by omega,b⟩
   ·rintro⟨g1,g2⟩
    rcases g2 x (by omega) with hxx|⟨_,hx2,hxx⟩
    ·refine .inl (ih.2 ⟨g1,fun j hj=>?_⟩)
     by_cases ej:j=x
     ·subst ej; exact .inl hxx
     ·exact(g2 j hj).imp id fun⟨a,b⟩=>⟨by omega,b⟩
    ·refine .inr ⟨d.set x (c.getD x 0),ih.2 ⟨by rw[List.length_set]; exact g1,fun j hj=>?_⟩,?_⟩
     ·rw[hset g1]
      by_cases ej:j=x
      ·subst ej; rw[if_pos rfl]; exact .inl rfl
      ·rw[if_neg ej]; exact(g2 j hj).imp id fun⟨a,b⟩=>⟨by omega,b⟩
     ·have hd: ∀ k:Int,d.getD x 0=k->d=(d.set x (c.getD x 0)).set x k:=fun k hk=>by
       rw[List.set_set]
       refine List.ext_getElem (by rw[List.length_set]) fun j q1 q2=>?_
       rw[List.getElem_set]
       split
       ·rename_i e; subst e
        rw[<- hk,List.getD_eq_getElem?_getD,List.getElem?_eq_getElem q1]; rfl
       ·rfl
      simp only[List.mem_cons,List.not_mem_nil,or_false]
      rcases hxx with h|h
      ·exact .inl (hd 3 h)
      ·exact .inr (hd 4 h)
theorem QV{c d:List Int}{x:Nat}(hx:x<=c.length)(h:d∈gq c x):d.length=c.length:=((QU hx).1 h).1
theorem acG{a:Elem}{x i b:Nat}(hi:i<(gq a.counts x).length):(jP a (Bz a.counts x i b)).getD i default=⟨a.value,(gq a.counts x).getD i []⟩:=by
 unfold jP Bz G8
 rw[List.append_assoc,List.map_append,List.getD_eq_getElem?_getD,List.getElem?_append_left (by rw[List.length_map]; exact hi),List.getElem?_map,List.getElem?_eq_getElem hi]
 simp[hi]
set_option maxHeartbeats 1000000 in
theorem S.yO(a:Elem)(hl:a.counts.length<=6):aj Tryz.prog 86 [.dat (.elem a)] (.row 3 false (.elems (jP a (gq a.counts a.counts.length)))):=by
 refine aj.of Bd.yO (by simp) rfl rfl ?_
 conv=>whnf
 refine ah.pure (S.uF a (by omega)) rfl ?_
 conv=>whnf
 refine aB.nH 7 [1] (fun i:Nat=>[(4,.int i),(3,.own 4)]) (fun i=>[(0,.box 54 3 (.dat (.elem a))),(4,eH (jP a (gq a.counts i)))]) (fun i=>i<=a.counts.length) (fun i=>a.counts.length-i) 0 [0,4] rfl (by decide) (fun _=>rfl) (Nat.zero_le _) ?_ ?_ ?_
 ·exact(sR rfl)
 ·exact⟨aT rfl rfl,aT rfl rfl,trivial⟩
 conv=>whnf
 refine⟨(sR rfl),rfl,?_⟩
 rintro x hx
 have hcap:=@QT a.counts x
 have h3x:3^x<=3^6:=Nat.pow_le_pow_right (by decide) (by omega)
 have h36:3^6=729:=by decide
 conv=>whnf
 refine⟨fun h1=>?_,fun h1=>?_⟩
 ·have hx':x<a.counts.length:=by simpa using h1
  conv=>whnf
  refine .mk (by simp only[Rw.rng]; omega) ?_
  conv=>whnf
  refine⟨fun h2=>?_,fun h2=>?_⟩
  ·have h2':a.counts.getD x 0<2:=of_decide_eq_true h2
   conv=>whnf
   refine .mk (by simp only[okI] at *; first|omega|(simp_all; done)|(simp_all; omega)) ?_
   conv=>whnf
   refine⟨x+1,[0,4],by omega,by omega,(sR rfl),(sR rfl),aT rfl rfl,okF rfl nofun rfl rfl rfl ⟨rfl,rfl⟩ (by rw[gq,if_pos h2']),trivial⟩
  have h2': ¬ a.counts.getD x 0<2:=of_decide_eq_false h2
  conv=>whnf
  refine aB.nH 7 [1,4,5] (fun i:Nat=>[(6,.int i),(3,.own 4)]) (fun i=>[(0,.box 54 3 (.dat (.elem a))),(4,eH (jP a (G8 a.counts x i)))]) (fun i=>i<=(gq a.counts x).length) (fun i=>(gq a.counts x).length-i) 0 [0,4] rfl (by decide) (fun _=>rfl) (Nat.zero_le _) ?_ ?_ ?_
  ·exact(sR rfl)
  ·exact⟨aT rfl rfl,okF rfl nofun rfl rfl rfl ⟨rfl,rfl⟩ (by simp[G8]),trivial⟩
  conv=>whnf
  refine⟨(sR rfl),rfl,?_⟩
  rintro i hi
  have hA:(G8 a.counts x i).length<=729*3:=by
   unfold G8
   have:=Fg (l:=(gq a.counts x).take i) (f:=fun d=>[d.set x 3,d.set x 4]) (k:=2) (fun _ _=>Nat.le_refl _)
   rw[List.length_take] at this
   rw[List.length_append]; omega
  conv=>whnf
  refine⟨fun h3=>?_,fun h3=>?_⟩
  ·have hi':i<(gq a.counts x).length:=by
    have hml:(jP a (gq a.counts x)).length=(gq a.counts x).length:=by simp[jP]
    have:(i:Int)<((jP a (gq a.counts x)).length:Int):=of_decide_eq_true h3
    omega
   have hdl:((gq a.counts x).getD i []).length=a.counts.length:=QV hx (dF hi')
   conv=>whnf
   refine aB.Wj 7 [1,4,5,6] (fun b:Nat=>[(7,.int (3+(b:Int))),(3,.own 4)]) (fun b=>[(0,.box 54 3 (.dat (.elem a))),(4,eH (jP a (Bz a.counts x i b)))]) (fun b=>b<=2) (fun b=>2-b) 0 [0,4] [(0,some (.box 54 3 (.dat (.elem a)))),(4,some (eH (jP a (G8 a.counts x i))))] rfl (by decide) (fun _=>rfl) (Nat.zero_le _) ?_ ?_ ?_ ?_
   ·exact(sR rfl)
   ·exact⟨fun _=>False,mF (Z:=fun _=>False) rfl (fun q=>q),mF (Z:=fun _=>False) rfl (fun q=>q),trivial⟩
   ·exact⟨aT rfl rfl,okF rfl nofun rfl rfl rfl ⟨rfl,rfl⟩ (by simp[Bz]),trivial⟩
   conv=>whnf
   refine⟨(sR rfl),rfl,?_⟩
   rintro b hb
   have hB:(jP a (Bz a.counts x i b)).length<=729*3+2:=by
    unfold jP Bz; rw[List.length_map,List.length_append,List.length_map,List.length_range]; omega
   have hiB:i<(jP a (Bz a.counts x i b)).length:=by
    unfold jP Bz G8; rw[List.length_map,List.length_append,List.length_append]; omega
   have hget:=acG (a:=a) (b:=b) hi'
   conv=>whnf
   refine⟨fun h4=>?_,fun h4=>?_⟩
   ·have hb':b<2:=by have:=of_decide_eq_true h4; omega
    conv=>whnf
    repeat(refine VC.mk (by simp only[Rw.rng,Int.toNat_natCast]; omega) ?_; conv=>whnf)
    rw[show(jP a (Bz a.counts x i b)).getD (i:Int).toNat default=⟨a.value,(gq a.counts x).getD i []⟩ from hget]
    refine ah.heap (wC.frame (S.GX ⟨a.value,(gq a.counts x).getD i []⟩ (by show((gq a.counts x).getD i []).length<_; omega)) _ _) ?_
    rintro t hp' ⟨rfl,rfl⟩
    refine⟨.agg [.int a.value,.own 13],(13,some (mg ((gq a.counts x).getD i [])))::_,rfl,OE,?_⟩
    conv=>whnf
    repeat(refine VC.mk (by first|(first|(simp only[Rw.rng,Int.toNat_natCast]; omega)|(show((jP a (Bz a.counts x i b)).length+(0+1))*32<=140737488355328/\(jP a (Bz a.counts x i b)).length+(0+1)<=1152921504606846976; omega))|(simp only[okI] at *; first|omega|(simp_all; done)|(simp_all; omega))) ?_; conv=>whnf)
    refine⟨[(0,some (.box 54 3 (.dat (.elem a)))),(25,some (eH (jP a (Bz a.counts x i b)++[⟨a.value,((gq a.counts x).getD i []).set x (3+(b:Int))⟩])))],b+1,[0,25],⟨fun i=>i=13,mF (Z:=fun i=>i=13) (i:=0) rfl (by decide),Z9 (Z:=fun i=>i=13) (i:=25) (j:=13) (e:=⟨a.value,((gq a.counts x).getD i []).set x (3+(b:Int))⟩) rfl (by decide) rfl rfl,trivial⟩,by omega,by omega,⟨⟨_,rfl,.eq ?_⟩,⟨_,rfl,.eq rfl⟩,trivial⟩,(sR rfl),aT rfl rfl,okF rfl nofun rfl rfl rfl ⟨rfl,rfl⟩ ?_,trivial⟩
    ·show T.int (3+((b+1:Nat):Int))=T.int (3+(b:Int)+1)
     have:(3+((b+1:Nat):Int))=3+(b:Int)+1:=by omega
     rw[this]
    ·rw[Yc]; unfold jP; rw[List.map_append]; rfl
   ·have hb':b=2:=by have:=of_decide_eq_false h4; omega
    subst hb'
    rw[<- Yb hi']
    conv=>whnf
    refine .mk (by simp only[okI] at *; first|omega|(simp_all; done)|(simp_all; omega)) ?_
    conv=>whnf
    refine⟨i+1,[0,4],by omega,by omega,(sR rfl),(sR rfl),aT rfl rfl,aT rfl rfl,trivial⟩
  ·have hi':i=(gq a.counts x).length:=by
    have hml:(jP a (gq a.counts x)).length=(gq a.counts x).length:=by simp[jP]
    have: ¬ (i:Int)<((jP a (gq a.counts x)).length:Int):=of_decide_eq_false h3
    omega
   subst hi'
   rw[aac h2']
   conv=>whnf
   refine .mk (by simp only[okI] at *; first|omega|(simp_all; done)|(simp_all; omega)) ?_
   conv=>whnf
   refine⟨x+1,[0,4],by omega,by omega,(sR rfl),(sR rfl),aT rfl rfl,aT rfl rfl,trivial⟩
 ·have hx':x=a.counts.length:=by
   have: ¬ x<a.counts.length:=by simpa using h1
   omega
  subst hx'
  conv=>whnf
  exact ak.X5 rfl
theorem Nj{c d:List Int}(hc:E8 c)(h2:c.all XO=true):d∈gq c c.length↔d∈qX (iI c) c.length:=by
 rw[QU (Nat.le_refl _),yL hc]
 have hle: ∀ j,j<c.length->c.getD j 0<=2:=fun j hj=>by
  have:=List.all_eq_true.1 h2 (c.getD j 0) (dF hj)
  simpa [XO] using this
 refine and_congr_right fun _=>forall_congr' fun j=>forall_congr' fun hj=>?_
 have:=hle j hj
 constructor
 ·intro h
  unfold DR
  cases hb:(c.getD j 0==2) with
  |true =>
   have:c.getD j 0=2:=by simpa using hb
   simp only[cond_true,List.mem_cons,List.not_mem_nil,or_false]; omega
  |false =>
   have:c.getD j 0≠2:=by simpa using hb
   simp only[cond_false,List.mem_singleton]; omega
 ·intro h
  rcases yM h with h|⟨h,g⟩
  ·exact .inl h
  ·exact .inr ⟨hj,by omega,g⟩
theorem aeR: ∀ {c d:List Int},d.length=c.length->(∀ j,j<c.length->c.getD j 0<=d.getD j 0)->c.sum<=d.sum:=by
 intro c
 induction c with
 |nil=>intro d h _; rw[List.eq_nil_of_length_eq_zero h]; exact Int.le_refl _
 |cons x c ih =>
  intro d h hj
  cases d with
  |nil=>cases h
  |cons y d =>
   have h0:=hj 0 (by simp)
   have h1:=ih (d:=d) (by simpa using h) (fun j q=>by have:=hj (j+1) (by simpa using q); simpa using this)
   simp only[List.getD_cons_zero] at h0
   simp only[List.sum_cons]; omega
theorem Dl{d:List Int}(h:E8 d):d.all IV=true:=List.all_eq_true.2 fun x hx=>Wq.2 (h x hx)
theorem JQ{a:Elem}(hc:E8 a.counts)(hl:a.counts.length<=6)(h0:0<xJ a){e:Elem}:e∈mD a.value (iI a.counts)↔e.value=a.value/\e.counts∈qX (iI a.counts) a.counts.length:=by
 constructor
 ·intro h
  obtain⟨h1,h2,h3,_⟩:=Dj h
  rw[kN] at h3
  exact⟨h1,h3⟩
 ·rintro⟨h1,h2⟩
  obtain⟨v,d⟩:=e
  simp only at h1 h2
  subst h1
  unfold mD Fh
  rw[List.mem_filter,kN]
  refine⟨List.mem_map.2 ⟨d,h2,rfl⟩,decide_eq_true ?_⟩
  obtain⟨g1,g2⟩:=(yL hc).1 h2
  rw[Fe (by show d.length<=6; omega) (Dl (OT hc h2))]
  rw[Fe hl (Dl hc)] at h0
  have:=aeR g1 fun j hj=>by
   have:=yM (g2 j hj); omega
  show 0<d.sum
  omega
theorem QW{a e:Elem}{L:List (List Int)}:e∈jP a L↔e.value=a.value/\e.counts∈L:=by
 unfold jP
 rw[List.mem_map]
 constructor
 ·rintro⟨d,hd,rfl⟩; exact⟨rfl,hd⟩
 ·rintro⟨h1,h2⟩; exact⟨e.counts,h2,by rw[<- h1]⟩
structure G9(a:Elem):Prop where
 ok:E8 a.counts
 two:a.counts.all XO=true
 len:a.counts.length<=6
 tot:0<xJ a
theorem G9.cho{a:Elem}(h:G9 a){e:Elem}:e∈mD a.value (iI a.counts)↔e∈jP a (gq a.counts a.counts.length):=by
 rw[JQ h.ok h.len h.tot,QW,Nj h.ok h.two]
theorem G9.pos{a:Elem}(h:G9 a):0<a.counts.length:=by
 have:=h.tot
 rcases Nat.eq_zero_or_pos a.counts.length with h0|h0
 ·rw[Fe h.len (Dl h.ok),List.eq_nil_of_length_eq_zero h0] at this; simp at this
 ·exact h0
def aef(r:Rule)(a:Elem):List Elem:=(lM r (jP a (gq a.counts a.counts.length))).foldl nR []
theorem aad{r:Rule}{a:Elem}(h:G9 a):aef r a=gI r a:=by
 obtain⟨s1,s2⟩:=UF (lM r (jP a (gq a.counts a.counts.length))) [] (by simp[SS])
 refine G7 s1 (uD _) fun x=>?_
 unfold aef at *
 rw[s2,gI,oO]
 simp only[List.not_mem_nil,false_or]
 unfold lM
 rw[List.mem_filterMap,List.mem_filterMap]
 exact exists_congr fun e=>and_congr_left fun _=>h.cho.symm
theorem Yd{l:List Elem}{r:Rule}{j:Nat}(hj:j<l.length):(lM r (l.take (j+1))).foldl nR []=match yN r (l.getD j default) with|some x=>nR ((lM r (l.take j)).foldl nR []) x|none=>(lM r (l.take j)).foldl nR []:=by
 rw[JJ hj,List.foldl_append]
 cases yN r (l.getD j default)<;>rfl
theorem aae{a:Elem}(hl:a.counts.length<=6):(jP a (gq a.counts a.counts.length)).length<=729:=by
 have h:=@QT a.counts a.counts.length
 have h3x:3^a.counts.length<=3^6:=Nat.pow_le_pow_right (by decide) hl
 have h36:3^6=729:=by decide
 unfold jP; rw[List.length_map]; omega
theorem Ws{a e:Elem}(h:G9 a)(he:e∈jP a (gq a.counts a.counts.length)):e.counts.length=a.counts.length/\E8 e.counts:=by
 have h2:=(QW.1 he).2
 exact⟨QV (Nat.le_refl _) h2,OT h.ok ((Nj h.ok h.two).1 h2)⟩
set_option maxHeartbeats 1000000 in
theorem S.yP(p:aC)(r:Int)(a:Elem)(hp:dJ p)(hr:sZ a.counts.length (p.rules.getD r.toNat default))(Nk:0<=r/\r<p.rules.length)(h:G9 a):aj Tryz.prog 54 [.dat (.gW p),.int r,.dat (.elem a)] (.row 3 false (.elems (gI (p.rules.getD r.toNat default) a))):=by
 rw[<- aad h]
 have hml:=aae h.len
 have hlen:=h.len
 have hsr:=hp.rule r.toNat
 refine aj.of Bd.yP (by simp) rfl rfl ?_
 conv=>whnf
 refine ah.pure (S.yO a h.len) rfl ?_
 conv=>whnf
 refine aB.nil 8 54 3 (by rfl) rfl rfl rfl ?_
 refine aB.nH 20 [1,3,7] (fun j:Nat=>[(9,.int j),(8,.own 8)]) (fun j=>[(0,.box 27 11 (.dat (.gW p))),(8,eH ((lM (p.rules.getD r.toNat default) ((jP a (gq a.counts a.counts.length)).take j)).foldl nR []))]) (fun j=>j<=(jP a (gq a.counts a.counts.length)).length) (fun j=>(jP a (gq a.counts a.counts.length)).length-j) 0 [0,8] rfl (by decide) (fun _=>rfl) (Nat.zero_le _) ?_ ?_ ?_
 ·exact(sR rfl)
 ·exact⟨aT rfl rfl,aT rfl rfl,trivial⟩
 conv=>whnf
 refine⟨(sR rfl),rfl,?_⟩
 rintro j hj
 have hfl:((lM (p.rules.getD r.toNat default) ((jP a (gq a.counts a.counts.length)).take j)).foldl nR []).length<=729:=by
  have h1:=aaf (lM (p.rules.getD r.toNat default) ((jP a (gq a.counts a.counts.length)).take j)) []
  have h2:=Dk (r:=p.rules.getD r.toNat default) (l:=(jP a (gq a.counts a.counts.length)).take j)
  rw[List.length_take] at h2
  rw[List.length_nil,Nat.zero_add] at h1; omega
 have hsm:eF ((lM (p.rules.getD r.toNat default) ((jP a (gq a.counts a.counts.length)).take j)).foldl nR []):=fun x hx=>by
  rcases aag _ _ _ hx with hx|hx
  ·cases hx
  ·rw[Bo (n:=a.counts.length) (fun e he=>(Ws h (List.mem_of_mem_take he)).1) hx]; omega
 conv=>whnf
 refine⟨fun h2=>?_,fun h2=>?_⟩
 ·have hj':j<(jP a (gq a.counts a.counts.length)).length:=by simpa using h2
  have hstep:=Yd (r:=p.rules.getD r.toNat default) hj'
  have hmem:(jP a (gq a.counts a.counts.length)).getD j default∈jP a (gq a.counts a.counts.length):=dF hj'
  obtain⟨g1,g2⟩:=Ws h hmem
  conv=>whnf
  repeat(refine VC.mk (by simp only[Rw.rng]; omega) ?_; conv=>whnf)
  refine Ij.pure (aj.JK (S.BA (p.rules.getD r.toNat default) ((jP a (gq a.counts a.counts.length)).getD j default) hsr (by rw[g1]; exact hr) g2 (by omega))) rfl ?_
  conv=>whnf
  refine⟨fun h3=>?_,fun h3=>?_⟩
  ·obtain⟨x,hx⟩:=Option.isSome_iff_exists.1 h3
   replace hx:eP (p.rules.getD r.toNat default) ((jP a (gq a.counts a.counts.length)).getD j default)=some x:=hx
   have hxl:=yJ hx
   rw[yN,hx] at hstep
   rw[show eP (p.rules.getD r.toNat default) ((jP a (gq a.counts a.counts.length)).getD (j:Int).toNat default)=some x from hx]
   conv=>whnf
   refine ah.pure (S.wB x (by rw[hxl]; omega)) rfl ?_
   conv=>whnf
   refine ah.insert rfl rfl (by omega) hsm (by show(qW x.counts).length<_; rw[qW,List.length_map,hxl]; omega) (fun hf=>?_) (fun hf=>?_)
   ·have hins:nR ((lM (p.rules.getD r.toNat default) ((jP a (gq a.counts a.counts.length)).take j)).foldl nR []) (Qu x)=(lM (p.rules.getD r.toNat default) ((jP a (gq a.counts a.counts.length)).take j)).foldl nR []:=by rw[nR,if_pos hf]
    conv=>whnf
    refine .mk (by simp only[okI] at *; first|omega|(simp_all; done)|(simp_all; omega)) ?_
    conv=>whnf
    refine⟨j+1,[0,8],by omega,by omega,(sR rfl),(sR rfl),aT rfl rfl,okF rfl nofun rfl rfl rfl ⟨rfl,rfl⟩ (by rw[hstep]; simp only[Option.map_some]; rw[hins]),trivial⟩
   ·conv=>whnf
    refine .mk (by simp only[okI] at *; first|omega|(simp_all; done)|(simp_all; omega)) ?_
    conv=>whnf
    refine⟨j+1,[0,44],by omega,by omega,(sR rfl),(sR rfl),aT rfl rfl,okF rfl nofun rfl rfl rfl ⟨rfl,rfl⟩ (by rw[hstep]; rfl),trivial⟩
  ·replace h3:(eP (p.rules.getD r.toNat default) ((jP a (gq a.counts a.counts.length)).getD j default)).isSome=false:=h3
   rw[Option.isSome_eq_false_iff,Option.isNone_iff_eq_none] at h3
   rw[yN,h3] at hstep
   conv=>whnf
   refine .mk (by simp only[okI] at *; first|omega|(simp_all; done)|(simp_all; omega)) ?_
   conv=>whnf
   refine⟨j+1,[0,8],by omega,by omega,(sR rfl),(sR rfl),aT rfl rfl,okF rfl nofun rfl rfl rfl ⟨rfl,rfl⟩ (by rw[hstep]; rfl),trivial⟩
 ·have hj':(jP a (gq a.counts a.counts.length)).length<=j:=by simpa using h2
  rw[List.take_of_length_le hj']
  conv=>whnf
  exact ak.X5 rfl
theorem aeS{p:aC}{a:Elem}(hc:AZ p=0)(h:LW p a=0):G9 a/\a.counts.length=p.states.length:=by
 have hst:=(lT (iP (nV hc)).1).states
 unfold LW at h
 cases hb:cvB p a with
 |true=>rw[hb] at h; cases h
 |false =>
  rw[hb] at h
  rw[aeI hc] at hb
  obtain⟨h1,h2⟩:=aeK hb
  unfold ZH at hb
  rw[Bool.or_eq_false_iff] at hb
  have h3:xJ a≠0:=by simpa using hb.2
  have h4:=aeG a
  cases ha:a.counts.all XO with
  |false=>rw[ha] at h; cases h
  |true=>exact⟨⟨h2,ha,by omega,by omega⟩,h1⟩
theorem aeT{p:aC}{r:Int}{a:Elem}(h:Jz p r a=0):V8 p r=0/\LW p a=0:=by
 unfold Jz at h
 by_cases h0:V8 p r=0
 ·rw[h0] at h; exact⟨h0,h⟩
 ·rw[show(V8 p r !=0)=true by simpa using h0] at h; exact absurd h h0
theorem acH{p:aC}{r:Int}{a:Elem}(h:Jz p r a=0):G9 a/\sZ a.counts.length (p.rules.getD r.toNat default)/\(0<=r/\r<p.rules.length)/\AZ p=0:=by
 obtain⟨h1,h2⟩:=aeT h
 have hc:=agp h1
 obtain⟨g1,g2⟩:=aeS hc h2
 obtain⟨r1,r2,r3⟩:=agn hc h1
 exact⟨g1,by rw[g2]; exact(wtR hc r2).place,⟨r1,r3⟩,hc⟩
def aah(p:aC)(r:Int)(a:Elem):List Elem:=bif Jz p r a==0 then gI (p.rules.getD r.toNat default) a else []
theorem S.yQ(p:aC)(r:Int)(a:Elem)(hp:dJ p)(ha:a.counts.length<2^30):aj Tryz.prog 31 [.dat (.gW p),.int r,.dat (.elem a)] (.fZ [.row 3 false (.elems (aah p r a)),.int (Jz p r a)]):=by
 refine aj.of Bd.yQ (by simp) rfl rfl ?_
 conv=>whnf
 refine ah.pure (S.nU p r hp) rfl ?_
 conv=>whnf
 refine⟨fun h1=>?_,fun h1=>?_⟩
 ·conv=>whnf
  have e:Jz p r a=V8 p r:=by rw[Jz,h1]; rfl
  rw[aah,e,show(V8 p r==0)=false by simpa using h1]
  exact ak.aeg
 have e:Jz p r a=LW p a:=by rw[Jz,h1]; rfl
 conv=>whnf
 refine ah.pure (S.lZ p a hp ha) rfl ?_
 conv=>whnf
 refine⟨fun h2=>?_,fun h2=>?_⟩
 ·conv=>whnf
  rw[aah,e,show(LW p a==0)=false by simpa using h2]
  exact ak.aeg
 have h0:Jz p r a=0:=by rw[e]; simpa using h2
 obtain⟨hA,hpl,Nk,_⟩:=acH h0
 conv=>whnf
 refine .mk (by simp only[Rw.rng]; omega) ?_
 conv=>whnf
 refine ah.pure (S.tq (p.rules.getD r.toNat default) a (hp.rule _) hpl hA.ok hA.pos hA.len) rfl ?_
 rw[aah,h0]
 conv=>whnf
 exact ak.eqv rfl
def En(c d:List Int):Prop:=d.length=c.length/\ ∀ j,j<c.length->(c.getD j 0=0↔d.getD j 0=0)
theorem QX{c:List Int}{j:Nat}(h:c.length<=j):c.getD j 0=0:=by
 rw[List.getD_eq_getElem?_getD,List.getElem?_eq_none h]; rfl
theorem En.all{c d:List Int}(h:En c d)(j:Nat):(c.getD j 0==0)=(d.getD j 0==0):=by
 rw[Bool.eq_iff_iff,beq_iff_eq,beq_iff_eq]
 rcases Nat.lt_or_ge j c.length with hj|hj
 ·exact h.2 j hj
 ·rw[QX hj,QX (by rw[h.1]; exact hj)]
theorem UG{r:Rule}{c d:List Int}(h:En c d):rG r c=rG r d:=by
 have e: ∀ j,(c.getD j 0==0)=(d.getD j 0==0):=h.all
 unfold rG zS wG
 rw[h.1]
 simp only[e]
theorem Ye{r:Rule}{a e:Elem}(hp:sZ a.counts.length r)(hv:e.value=a.value)(hd: ∀ i,0<=i->i<(a.counts.length:Int)->En (aU a.counts i) (aU e.counts i))(h0:En a.counts e.counts):(eP r a).isSome=(eP r e).isSome:=by
 have h1:=hd r.fr hp.src.1 hp.src.2
 have e1:(decide (0<=r.read)&&a.value !=r.read||a.counts.getD r.fr.toNat 0==0)=(decide (0<=r.read)&&e.value !=r.read||e.counts.getD r.fr.toNat 0==0):=by
  rw[hv,h0.all]
 unfold eP
 simp only[e1,UG h1,h1.all]
 cases (decide (0<=r.read)&&e.value !=r.read||e.counts.getD r.fr.toNat 0==0) with
 |true=>rfl
 |false =>
  cases r.kind==1 with
  |true=>cases rG r (aU e.counts r.fr)<;>rfl
  |false =>
   cases r.kind==2 with
   |true=>cases (aU e.counts r.fr).getD r.fP.toNat 0==0<;>rfl
   |false=>cases r.kind==3<;>rfl
theorem Wu{c:List Int}{i:Int}{j:Nat}(hi:0<=i/\i<c.length):(aU c i).getD j 0=if j=i.toNat then c.getD j 0-1 else c.getD j 0:=by
 unfold aU
 rw[JA (by omega)]
 split
 ·rename_i e; rw[e]
 ·rfl
theorem UH{c d:List Int}(hc:E8 c)(h:d∈qX (iI c) c.length):En c d/\ ∀ i,0<=i->i<(c.length:Int)->En (aU c i) (aU d i):=by
 obtain⟨h1,h2⟩:=(yL hc).1 h
 refine⟨⟨h1,fun j hj=>?_⟩,fun i hi0 hi1=>⟨by rw[kK,kK,h1],fun j hj=>?_⟩⟩
 ·have:=yM (h2 j hj); omega
 ·rw[kK] at hj
  have:=yM (h2 j hj)
  rw[Wu ⟨hi0,hi1⟩,Wu ⟨hi0,by omega⟩]
  split<;>omega
theorem UJ{c:List Int}(hc:E8 c):c∈qX (iI c) c.length:=by
 rw[yL hc]
 refine⟨rfl,fun j hj=>?_⟩
 unfold DR
 cases hb:(c.getD j 0==2) with
 |true=>have:c.getD j 0=2:=(by simpa using hb); rw[this]; simp
 |false=>simp
theorem Yf{r:Rule}{a:Elem}(h:G9 a)(hp:sZ a.counts.length r):(eP r a).isSome=decide (0<((gI r a).length:Int)):=by
 cases hf:eP r a with
 |some x =>
  have:Qu x∈gI r a:=by
   rw[gI,oO]
   exact List.mem_filterMap.2 ⟨a,(JQ h.ok h.len h.tot).2 ⟨rfl,UJ h.ok⟩,by rw[yN,hf]; rfl⟩
  have hl:=List.length_pos_of_mem this
  rw[show decide (0<((gI r a).length:Int))=true from decide_eq_true (by omega)]; rfl
 |none =>
  have:gI r a=[]:=by
   rw[List.eq_nil_iff_forall_not_mem]
   intro x hx
   rw[gI,oO] at hx
   obtain⟨e,he,y,hy,_⟩:=G6 hx
   obtain⟨g1,g2⟩:=(JQ h.ok h.len h.tot).1 he
   obtain⟨z1,z2⟩:=UH h.ok g2
   have:=Ye hp g1 z2 z1
   rw[hf,hy] at this; cases this
  rw[this]; rfl
end Go.Proofs.YtajmbgljnaljiaaGreatDoor
