/-
 A finished search: it is closed, and accepted if the property holds. No condition.
-/
import Derived.Test.YtbdbmfccbpfeoabGreatDoorQd
import Derived.Test.YtbdbmfccbpfeoabGreatDoorQe
namespace Go.Proofs.YtbdbmfccbpfeoabGreatDoor
open Go.Ab Go.Proofs
set_option maxRecDepth 100000
def KO(r:Int):Int:=bif decide (12<r)&&decide (r<=100) then 12 else r
theorem S.uS(r:Int):aj Tryz.prog 4 [.int r] (.int (KO r)):=by
 refine aj.of Bd.uS (by simp) rfl rfl ?_;repeat(refine VC.mk id ?_)
 refine⟨fun h1=>?_,fun h1=>?_⟩
 ·replace h1:(decide (12<r)&&decide (r<=100))=true:=h1;exact ak.int (by unfold KO; rw[h1]; rfl)
 ·replace h1:(decide (12<r)&&decide (r<=100))=false:=h1;exact ak.int (by unfold KO; rw[h1]; rfl)
structure Jy(p:aI)(q:Prop')(b:List Elem):Prop where
 fit:yD p b
 len:b.length<=100
 fix:growE p b=some b
 up: ∀ y∈iR p q,NR b y=true
theorem Xi{l:List Elem}{y:Elem}:NR (aK l) y=NR l y:=KP l y
theorem Xj{l:List Elem}{y:Elem}(h:y∈l):NR l y=true:=bw.2 ⟨y,h,zq y⟩
theorem Xk{p:aI}{b l:List Elem}(h:growE p b=some l):l=aK (gV p b b.length)/\b.any (fun x=>(jl p x).1 !=0)=false:=by
 unfold growE at h;cases h1:b.any (fun x=>(jl p x).1 !=0) with
 |true=>rw[h1] at h; cases h
 |false =>
  rw[h1,bO] at h;cases h2:decide (100<(aK (gV p b b.length)).length) with
  |true=>rw[h2] at h; cases h
  |false=>rw[h2,bO] at h; cases h; exact⟨rfl,rfl⟩
theorem Jy.min{p:aI}{q:Prop'}{b:List Elem}(h:Jy p q b):aK b=b:=by
 have:=(Xk h.fix).1;rw[this,Rz]
theorem Jy.pre{p:aI}{q:Prop'}{b:List Elem}(h:Jy p q b){x:Elem}(hx:x∈b):(jl p x).1=0/\ ∀ y∈(jl p x).2,NR b y=true:=by
 obtain⟨h1,h2⟩:=Xk h.fix;refine⟨by have:=co.1 h2 x hx; simpa using this,fun y hy=>?_⟩;rw[h1,Xi];refine Xj (cH.2 (.inr (ci.2 ⟨x,?_,hy⟩)));rw[bp]; exact hx
theorem adw{p:aI}{x:Elem}(h:(jl p x).1=0):(p.rules.any fun r=>(pO p r x).1 !=0)=false/\(jl p x).2=aK (iD p x p.rules.length):=by
 unfold jl at h ⊢;cases h1:p.rules.any (fun r=>(pO p r x).1 !=0) with
 |true=>rw[h1] at h; exact absurd (show(4:Int)=0 from h) (by decide)
 |false =>
  rw[h1,bO] at h;cases h2:decide (100<(aK (iD p x p.rules.length)).length) with
  |true=>rw[h2] at h; exact absurd (show(4:Int)=0 from h) (by decide)
  |false=>exact⟨rfl,rfl⟩
theorem Xl{p:aI}{x:Elem}(hF:BL p x):lI p x=false:=by
 unfold lI;have h1:=hF.len;have h2:=hF.val;rw[show((x.counts.length:Int) !=p.states.length)=false by simp; omega,show decide (x.value<0)=false by simp; omega,show decide (x.value>=max 1 (p.values.length:Int))=false by simp only[am]; omega]
 have:x.counts.all zu=true:=by
  rw[bu];intro y hy;have:=hF.nums y hy;unfold zu;simp; omega
 rw[this]; rfl
theorem afL{p:aI}{i:Nat}{x:Elem}(hcov:FZ p=0)(hF:BL p x)(hi:i<p.rules.length):RD p i x=pO p (p.rules.getD i default) x:=by
 unfold RD;rw[Xl hF,show(decide ((i:Int)<0)||decide ((i:Int)>=p.rules.length))=false by simp; omega,hcov]; rfl
theorem Yy{p:aI}{q:Prop'}(hc:cZ p q=0):FZ p=0:=by
 obtain⟨_,_,b3,b4⟩:=Iw hc;unfold FZ; rw[show(bJ p !=0)=false by simp[b3],b4]; rfl
theorem Yz{b:List Elem}{y z:Elem}(h1:NR b y=true)(h2:kL y z=true):NR b z=true:=by
 obtain⟨w,hw,h⟩:=bw.1 h1;exact bw.2 ⟨w,hw,uy h h2⟩
theorem Jy.rule{p:aI}{q:Prop'}{b:List Elem}(hc:cZ p q=0)(h:Jy p q b){i:Nat}(hi:i<p.rules.length):F5 p q b i=true:=by
 unfold F5;rw[show(cZ p q==0)=true by simp[hc],show(decide ((i:Int)<0)||decide ((i:Int)>=p.rules.length))=false by simp; omega];show b.all (RF p b i)=true;rw[bu];intro x hx;obtain⟨h1,h2⟩:=h.pre hx;obtain⟨h3,h4⟩:=adw h1;have hmem:p.rules.getD i default∈p.rules:=by rw[getD_some hi]; exact be hi
 have h5:=co.1 h3 _ hmem;unfold RF;rw[afL (Yy hc) (h.fit x hx) hi,aD];refine⟨by simpa using h5,bu.2 fun y hy=>?_⟩;have hy':y∈iD p x p.rules.length:=by
  unfold iD;rw[bp];exact ci.2 ⟨_,hmem,hy⟩
 have h6:NR (jl p x).2 y=true:=by rw[h4,Xi]; exact Xj hy'
 obtain⟨z,hz,h7⟩:=bw.1 h6;exact Yz (h2 z hz) h7
theorem Jy.basis{p:aI}{q:Prop'}{b:List Elem}(hc:cZ p q=0)(h:Jy p q b):RG p q b=b.all fun x=> !(vW p q x):=by
 have h1:b.all (Bz p q)=b.all fun x=> !(vW p q x):=by
  rw[cK,bu,bu];constructor
  ·intro g x hx;have:=g x hx;unfold Bz at this;rw[aD] at this;exact this.2
  ·intro g x hx;unfold Bz;rw[Xl (h.fit x hx),g x hx]; rfl
 have h2:(iR p q).all (NR b)=true:=bu.2 h.up;have h3:((List.range p.rules.length).all fun i:Nat=>F5 p q b i)=true:=bu.2 fun i hi=>h.rule hc (cL.1 hi)
 unfold RG;rw[show(cZ p q==0)=true by simp[hc],cJ h.len,h1,h2,h3]; simp
theorem Vq{p:aI}{q:Prop'}{rounds:Int}:(yE p q rounds).2.2.1.length<2^30/\dS (yE p q rounds).2.2.1:=by
 unfold yE;cases hc:cZ p q !=0 with
 |true=>exact⟨(by decide:(0:Nat)<2^30),fun x h=>by cases h⟩
 |false =>
  cases decide (100<rounds) with
  |true=>exact⟨(by decide:(0:Nat)<2^30),fun x h=>by cases h⟩
  |false =>
   cases hs:yF p q rounds with
   |none=>exact⟨(by decide:(0:Nat)<2^30),fun x h=>by cases h⟩
   |some x =>
    obtain⟨b,k,d⟩:=x;obtain⟨h1,h2⟩:=KQ (BM hc) hs;cases d with
    |true=>exact⟨by show b.length<2^30; omega,(uz h1).e⟩
    |false=>exact⟨(by decide:(0:Nat)<2^30),fun x h=>by cases h⟩
set_option maxHeartbeats 1000000 in
theorem S.kS(p:aI)(q:Prop')(rounds:Int)(hp:dU p)(hq:jm q):aj Tryz.prog 3 [.dat (.fQ p),.dat (.prop q),.int rounds] (.bool true):=by
 obtain⟨x1,x2⟩:=@Vq p q (KO rounds);have hP:=S.oQ p q (KO rounds) hp hq;have hR:=S.wG p q (KO rounds) hp hq;have hC:=S.sJ p q (KO rounds) hp hq;have hD:=S.wZ p q (KO rounds) hp hq;have hS:aj Tryz.prog 9 [.row 3 false (.elems (yE p q (KO rounds)).2.2.1),.row 3 false (.elems (yE p q (KO rounds)).2.2.1)] (.bool true):=by
  have:=S.uT _ _ false false (by omega) (by omega) x2 x2;rwa [cJ rfl] at this
 generalize yE p q (KO rounds)=X at hP hR hC hD hS;have hcut: ∃ a b c:Int,cutV X= .dQ [.int a,.int b,.int c]:=by
  unfold cutV;cases X.1 !=0||X.2.1==0 with
  |true=>exact⟨_,_,_,rfl⟩
  |false=>cases X.2.1==1<;>exact⟨_,_,_,rfl⟩
 obtain⟨a,b,c,hcut⟩:=hcut;rw[hcut] at hC hD;refine aj.of Bd.kS (by simp) rfl rfl ?_;refine ah.pure (S.uS rounds) rfl ?_;refine ah.pure hP rfl ?_;refine ah.pure hR rfl ?_;refine ah.pure hC rfl ?_;refine ah.pure hD rfl ?_;repeat(refine VC.mk (by first|exact id|exact fun h=>⟨h,h⟩) ?_)
 refine ah.gW (fun _=>hS) rfl ?_;repeat(refine VC.mk (by first|exact id|exact fun h=>⟨h,h⟩) ?_)
 refine ah.gW (fun _=>S.afo) rfl ?_;refine VC.mk id ?_;exact ak.bool (by simp)
end Go.Proofs.YtbdbmfccbpfeoabGreatDoor
