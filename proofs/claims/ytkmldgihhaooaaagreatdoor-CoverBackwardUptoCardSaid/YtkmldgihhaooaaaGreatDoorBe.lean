/-
 A finished search: it is closed, and accepted if the property holds. No condition.
-/
import Derived.Test.YtkmldgihhaooaaaGreatDoorQd
import Derived.Test.YtkmldgihhaooaaaGreatDoorQe
namespace Go.Proofs.YtkmldgihhaooaaaGreatDoor
open Go.Ab Go.Proofs
set_option maxRecDepth 100000
def UO(r:Int):Int:=bif decide (12<r)&&decide (r<=100) then 12 else r
theorem S.uK(r:Int):ak Tryz.prog 25 [.int r] (.int (UO r)):=by
 refine ak.of Bd.uK (by simp) rfl rfl ?_;repeat(refine VC.mk id ?_)
 refine⟨fun h1=>?_,fun h1=>?_⟩
 ·replace h1:(decide (12<r)&&decide (r<=100))=true:=h1;exact aj.int (by unfold UO; rw[h1]; rfl)
 ·replace h1:(decide (12<r)&&decide (r<=100))=false:=h1;exact aj.int (by unfold UO; rw[h1]; rfl)
structure Ji(p:aI)(q:Prop')(b:List Elem):Prop where
 fit:yY p b
 len:b.length<=100
 fix:growE p b=some b
 up: ∀ y∈iO p q,Np b y=true
theorem Wu{l:List Elem}{y:Elem}:Np (aK l) y=Np l y:=Ku l y
theorem Wv{l:List Elem}{y:Elem}(h:y∈l):Np l y=true:=List.any_eq_true.2 ⟨y,h,yZ y⟩
theorem Wx{p:aI}{b l:List Elem}(h:growE p b=some l):l=aK (gU p b b.length)/\b.any (fun x=>(jg p x).1 !=0)=false:=by
 unfold growE at h;cases h1:b.any (fun x=>(jg p x).1 !=0) with
 |true=>rw[h1] at h; cases h
 |false =>
  rw[h1,cond_false] at h;cases h2:decide (100<(aK (gU p b b.length)).length) with
  |true=>rw[h2] at h; cases h
  |false=>rw[h2,cond_false] at h; cases h; exact⟨rfl,rfl⟩
theorem Ji.min{p:aI}{q:Prop'}{b:List Elem}(h:Ji p q b):aK b=b:=by
 have:=(Wx h.fix).1;rw[this,QO]
theorem Ji.pre{p:aI}{q:Prop'}{b:List Elem}(h:Ji p q b){x:Elem}(hx:x∈b):(jg p x).1=0/\ ∀ y∈(jg p x).2,Np b y=true:=by
 obtain⟨h1,h2⟩:=Wx h.fix;refine⟨by have:=List.any_eq_false.1 h2 x hx; simpa using this,fun y hy=>?_⟩;rw[h1,Wu];refine Wv (List.mem_append.2 (.inr (List.mem_flatMap.2 ⟨x,?_,hy⟩)));rw[List.take_length]; exact hx
theorem acV{p:aI}{x:Elem}(h:(jg p x).1=0):(p.rules.any fun r=>(pO p r x).1 !=0)=false/\(jg p x).2=aK (iw p x p.rules.length):=by
 unfold jg at h ⊢;cases h1:p.rules.any (fun r=>(pO p r x).1 !=0) with
 |true=>rw[h1] at h; exact absurd (show(4:Int)=0 from h) (by decide)
 |false =>
  rw[h1,cond_false] at h;cases h2:decide (100<(aK (iw p x p.rules.length)).length) with
  |true=>rw[h2] at h; exact absurd (show(4:Int)=0 from h) (by decide)
  |false=>exact⟨rfl,rfl⟩
theorem Wy{p:aI}{x:Elem}(hF:Bh p x):lH p x=false:=by
 unfold lH;have h1:=hF.len;have h2:=hF.val;rw[show((x.counts.length:Int) !=p.states.length)=false by simp; omega,show decide (x.value<0)=false by simp; omega,show decide (x.value>=max 1 (p.values.length:Int))=false by simp only[decide_eq_false_iff_not]; omega]
 have:x.counts.all AU=true:=by
  rw[List.all_eq_true];intro y hy;have:=hF.nums y hy;unfold AU;simp; omega
 rw[this]; rfl
theorem afd{p:aI}{i:Nat}{x:Elem}(hcov:FK p=0)(hF:Bh p x)(hi:i<p.rules.length):QS p i x=pO p (p.rules.getD i default) x:=by
 unfold QS;rw[Wy hF,show(decide ((i:Int)<0)||decide ((i:Int)>=p.rules.length))=false by simp; omega,hcov]; rfl
theorem XW{p:aI}{q:Prop'}(hc:dn p q=0):FK p=0:=by
 obtain⟨_,_,b3,b4⟩:=H9 hc;unfold FK; rw[show(bI p !=0)=false by simp[b3],b4]; rfl
theorem XY{b:List Elem}{y z:Elem}(h1:Np b y=true)(h2:kK y z=true):Np b z=true:=by
 obtain⟨w,hw,h⟩:=List.any_eq_true.1 h1;exact List.any_eq_true.2 ⟨w,hw,uh h h2⟩
theorem Ji.rule{p:aI}{q:Prop'}{b:List Elem}(hc:dn p q=0)(h:Ji p q b){i:Nat}(hi:i<p.rules.length):FM p q b i=true:=by
 unfold FM;rw[show(dn p q==0)=true by simp[hc],show(decide ((i:Int)<0)||decide ((i:Int)>=p.rules.length))=false by simp; omega];show b.all (QT p b i)=true;rw[List.all_eq_true];intro x hx;obtain⟨h1,h2⟩:=h.pre hx;obtain⟨h3,h4⟩:=acV h1;have hmem:p.rules.getD i default∈p.rules:=by rw[getD_some hi]; exact List.getElem_mem hi
 have h5:=List.any_eq_false.1 h3 _ hmem;unfold QT;rw[afd (XW hc) (h.fit x hx) hi,Bool.and_eq_true];refine⟨by simpa using h5,List.all_eq_true.2 fun y hy=>?_⟩;have hy':y∈iw p x p.rules.length:=by
  unfold iw;rw[List.take_length];exact List.mem_flatMap.2 ⟨_,hmem,hy⟩
 have h6:Np (jg p x).2 y=true:=by rw[h4,Wu]; exact Wv hy'
 obtain⟨z,hz,h7⟩:=List.any_eq_true.1 h6;exact XY (h2 z hz) h7
theorem Ji.basis{p:aI}{q:Prop'}{b:List Elem}(hc:dn p q=0)(h:Ji p q b):QU p q b=b.all fun x=> !(BA p q x):=by
 have h1:b.all (AV p q)=b.all fun x=> !(BA p q x):=by
  rw[Bool.eq_iff_iff,List.all_eq_true,List.all_eq_true];constructor
  ·intro g x hx;have:=g x hx;unfold AV at this;rw[Bool.and_eq_true] at this;exact this.2
  ·intro g x hx;unfold AV;rw[Wy (h.fit x hx),g x hx]; rfl
 have h2:(iO p q).all (Np b)=true:=List.all_eq_true.2 h.up;have h3:((List.range p.rules.length).all fun i:Nat=>FM p q b i)=true:=List.all_eq_true.2 fun i hi=>h.rule hc (List.mem_range.1 hi)
 unfold QU;rw[show(dn p q==0)=true by simp[hc],decide_eq_true h.len,h1,h2,h3]; simp
theorem XZ{p:aI}{q:Prop'}{rounds:Int}:(X0 p q rounds).2.1.length<2^30/\dK (X0 p q rounds).2.1:=by
 unfold X0;cases hc:dn p q !=0 with
 |true=>exact⟨(by decide:(0:Nat)<2^30),fun x h=>by cases h⟩
 |false =>
  cases decide (100<rounds) with
  |true=>exact⟨(by decide:(0:Nat)<2^30),fun x h=>by cases h⟩
  |false =>
   cases hs:wS p q rounds with
   |none=>exact⟨(by decide:(0:Nat)<2^30),fun x h=>by cases h⟩
   |some x =>
    obtain⟨b,k,d⟩:=x;obtain⟨h1,h2⟩:=QV (BD hc) hs;exact⟨by show b.length<2^30; omega,(uj h1).e⟩
theorem S.X3{l:List Elem}(h1:l.length<2^30)(h2:dK l):ak Tryz.prog 24 [.row 3 false (.elems l),.row 3 false (.elems l)] (.bool true):=by
 have:=S.uM l l false false (by omega) (by omega) h2 h2;rwa [decide_eq_true rfl] at this
set_option maxHeartbeats 1000000 in
theorem S.jG(p:aI)(q:Prop')(rounds:Int)(hp:eU p)(hq:kM q):ak Tryz.prog 7 [.dat (.fV p),.dat (.prop q),.int rounds] (.bool true):=by
 obtain⟨x1,x2⟩:=@XZ p q (UO rounds);have hP:=S.oV p q (UO rounds) hp hq;have hR:=S.rY p q (UO rounds) hp hq;have hS:=S.X3 x1 x2;generalize X0 p q (UO rounds)=X at hP hR hS;refine ak.of Bd.jG (by simp) rfl rfl ?_;refine ah.pure (S.uK rounds) rfl ?_;refine ah.pure hP rfl ?_;refine ah.pure hR rfl ?_;repeat(refine VC.mk (by first|exact id|exact fun h=>⟨h,h⟩) ?_)
 refine ah.ig (fun _=>hS) rfl ?_;refine VC.mk id ?_;refine ah.ig (fun _=>S.aeS) rfl ?_;refine VC.mk id ?_;exact aj.bool (by simp)
end Go.Proofs.YtkmldgihhaooaaaGreatDoor
