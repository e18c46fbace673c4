/-
 A finished search: it is closed, and accepted if the property holds. No condition.
-/
import Derived.Test.YtkmldgihhaooaaaGreatDoorQd
namespace Go.Proofs.YtkmldgihhaooaaaGreatDoor
open Go.Ab Go.Proofs
set_option maxRecDepth 100000
def aaP(r:Int):Int:=bif decide (12<r)&&decide (r<=100) then 12 else r
theorem S.tV(r:Int):aj Tryz.prog 25 [.int r] (.int (aaP r)):=by
 refine aj.of Bd.tV (by simp) rfl rfl ?_
 conv=>whnf
 repeat(refine VC.mk id ?_; conv=>whnf)
 refine⟨fun h1=>?_,fun h1=>?_⟩
 ·replace h1:(decide (12<r)&&decide (r<=100))=true:=h1
  conv=>whnf
  exact ak.int (by unfold aaP; rw[h1]; rfl)
 ·replace h1:(decide (12<r)&&decide (r<=100))=false:=h1
  conv=>whnf
  exact ak.int (by unfold aaP; rw[h1]; rfl)
structure CG(p:aI)(q:Prop')(b:List Elem):Prop where
 fit:Ei p b
 len:b.length<=100
 fix:growE p b=some b
 up: ∀ y∈eY p q,He b y=true
theorem NG{l:List Elem}{y:Elem}:He (bC l) y=He l y:=SE l y
theorem NH{l:List Elem}{y:Elem}(h:y∈l):He l y=true:=List.any_eq_true.2 ⟨y,h,FT y⟩
theorem aaQ{a b:List Elem}{y:Elem}(h:He a y=true):He (a++b) y=true:=by
 unfold He at h ⊢
 rw[List.any_append,h,Bool.true_or]
theorem NI{p:aI}{b l:List Elem}(h:growE p b=some l):l=bC (kX p b b.length)/\b.any (fun x=>(pO p x).1 !=0)=false:=by
 unfold growE at h
 cases h1:b.any (fun x=>(pO p x).1 !=0) with
 |true=>rw[h1] at h; cases h
 |false =>
  rw[h1,cond_false] at h
  cases h2:decide (100<(bC (kX p b b.length)).length) with
  |true=>rw[h2] at h; cases h
  |false=>rw[h2,cond_false] at h; cases h; exact⟨rfl,rfl⟩
theorem VY{p:aI}{q:Prop'}{b:List Elem}{k:Nat}: ∀ {f:Nat} {b0:List Elem} {k0:Nat},Ei p b0->b0.length<=100->(∀ y∈eY p q,He b0 y=true)->nS p f b0 k0=some (b,k,true)->CG p q b:=by
 intro f
 induction f with
 |zero =>
  intro b0 k0 h1 h2 h3 h
  simp only[nS] at h
  split at h
  ·cases h
  ·rename_i l hl
   simp only[Option.some.injEq,Prod.mk.injEq,decide_eq_true_eq] at h
   obtain⟨rfl,_,rfl⟩:=h
   exact⟨h1,h2,hl,h3⟩
 |succ f ih =>
  intro b0 k0 h1 h2 h3 h
  simp only[nS] at h
  split at h
  ·cases h
  ·rename_i l hl
   obtain⟨g1,g2⟩:=LH h1 hl
   cases he:decide (l=b0) with
   |true =>
    rw[he] at h
    cases h
    rw[of_decide_eq_true he] at hl
    exact⟨h1,h2,hl,h3⟩
   |false =>
    rw[he] at h
    refine ih g1 g2 (fun y hy=>?_) h
    rw[(NI hl).1,NG]
    exact aaQ (h3 y hy)
theorem Yf{p:aI}{q:Prop'}{rounds:Int}{b:List Elem}{k:Nat}(hc:bK p q=0)(h:yV p q rounds=some (b,k,true)):CG p q b:=by
 unfold yV at h
 cases h1:decide (100<(eY p q).length) with
 |true=>rw[h1] at h; cases h
 |false =>
  rw[h1,cond_false] at h
  exact VY (NJ hc) (by have:=of_decide_eq_false h1; omega) (fun y hy=>NH hy) h
theorem CG.min{p:aI}{q:Prop'}{b:List Elem}(h:CG p q b):bC b=b:=by
 have:=(NI h.fix).1
 rw[this,PD]
theorem CG.pre{p:aI}{q:Prop'}{b:List Elem}(h:CG p q b){x:Elem}(hx:x∈b):(pO p x).1=0/\ ∀ y∈(pO p x).2,He b y=true:=by
 obtain⟨h1,h2⟩:=NI h.fix
 refine⟨by have:=List.any_eq_false.1 h2 x hx; simpa using this,fun y hy=>?_⟩
 rw[h1,NG]
 refine NH (List.mem_append.2 (.inr (List.mem_flatMap.2 ⟨x,?_,hy⟩)))
 rw[List.take_length]; exact hx
theorem aaR{p:aI}{x:Elem}(h:(pO p x).1=0):(p.rules.any fun r=>(sF p r x).1 !=0)=false/\(pO p x).2=bC (kD p x p.rules.length):=by
 unfold pO at h ⊢
 cases h1:p.rules.any (fun r=>(sF p r x).1 !=0) with
 |true=>rw[h1] at h; exact absurd (show(4:Int)=0 from h) (by decide)
 |false =>
  rw[h1,cond_false] at h
  cases h2:decide (100<(bC (kD p x p.rules.length)).length) with
  |true=>rw[h2] at h; exact absurd (show(4:Int)=0 from h) (by decide)
  |false=>exact⟨rfl,rfl⟩
theorem UR{p:aI}{x:Elem}(hF:Ej p x):qL p x=false:=by
 unfold qL
 have h1:=hF.len
 have h2:=hF.val
 rw[show((x.counts.length:Int) !=p.states.length)=false by simp; omega,show decide (x.value<0)=false by simp; omega,show decide (x.value>=max 1 (p.values.length:Int))=false by simp only[decide_eq_false_iff_not]; omega]
 have:x.counts.all BZ=true:=by
  rw[List.all_eq_true]
  intro y hy
  have:=hF.nums y hy
  unfold BZ
  simp; omega
 rw[this]; rfl
theorem acX{p:aI}{i:Nat}{x:Elem}(hcov:Em p=0)(hF:Ej p x)(hi:i<p.rules.length):LJ p i x=sF p (p.rules.getD i default) x:=by
 unfold LJ
 rw[UR hF,show(decide ((i:Int)<0)||decide ((i:Int)>=p.rules.length))=false by simp; omega,hcov]; rfl
theorem FU{p:aI}{q:Prop'}(hc:bK p q=0):Em p=0:=by
 obtain⟨_,_,b3,b4⟩:=Dk hc
 unfold Em; rw[show(bF p !=0)=false by simp[b3],b4]; rfl
theorem VZ{b:List Elem}{y z:Elem}(h1:He b y=true)(h2:pR y z=true):He b z=true:=by
 obtain⟨w,hw,h⟩:=List.any_eq_true.1 h1
 exact List.any_eq_true.2 ⟨w,hw,yX h h2⟩
theorem CG.rule{p:aI}{q:Prop'}{b:List Elem}(hc:bK p q=0)(h:CG p q b){i:Nat}(hi:i<p.rules.length):yY p q b i=true:=by
 unfold yY
 rw[show(bK p q==0)=true by simp[hc],show(decide ((i:Int)<0)||decide ((i:Int)>=p.rules.length))=false by simp; omega]
 show b.all (IV p b i)=true
 rw[List.all_eq_true]
 intro x hx
 obtain⟨h1,h2⟩:=h.pre hx
 obtain⟨h3,h4⟩:=aaR h1
 have hmem:p.rules.getD i default∈p.rules:=by rw[getD_some hi]; exact List.getElem_mem hi
 have h5:=List.any_eq_false.1 h3 _ hmem
 unfold IV
 rw[acX (FU hc) (h.fit x hx) hi,Bool.and_eq_true]
 refine⟨by simpa using h5,List.all_eq_true.2 fun y hy=>?_⟩
 have hy':y∈kD p x p.rules.length:=by
  unfold kD
  rw[List.take_length]
  exact List.mem_flatMap.2 ⟨_,hmem,hy⟩
 have h6:He (pO p x).2 y=true:=by rw[h4,NG]; exact NH hy'
 obtain⟨z,hz,h7⟩:=List.any_eq_true.1 h6
 exact VZ (h2 z hz) h7
theorem CG.basis{p:aI}{q:Prop'}{b:List Elem}(hc:bK p q=0)(h:CG p q b):xX p q b=b.all fun x=> !(oP p q x):=by
 have h1:b.all (yt p q)=b.all fun x=> !(oP p q x):=by
  rw[Bool.eq_iff_iff,List.all_eq_true,List.all_eq_true]
  constructor
  ·intro g x hx
   have:=g x hx
   unfold yt at this
   rw[Bool.and_eq_true] at this
   exact this.2
  ·intro g x hx
   unfold yt
   rw[UR (h.fit x hx),g x hx]; rfl
 have h2:(eY p q).all (He b)=true:=List.all_eq_true.2 h.up
 have h3:((List.range p.rules.length).all fun i:Nat=>yY p q b i)=true:=List.all_eq_true.2 fun i hi=>h.rule hc (List.mem_range.1 hi)
 unfold xX
 rw[show(bK p q==0)=true by simp[hc],decide_eq_true h.len,h1,h2,h3]; simp
theorem Yg{p:aI}{q:Prop'}: ∀ {l:List Elem} {s:Int×Int},(s.1=1\/s.1=2)->(l.foldl (IW p q) s).1=if s.1=1/\(l.all fun x=> !(oP p q x))=true then 1 else 2:=by
 intro l
 induction l with
 |nil=>intro s hs; rcases hs with h|h<;>simp[h]
 |cons x l ih =>
  intro s hs
  rw[List.foldl_cons,List.all_cons]
  cases hi:oP p q x with
  |false =>
   have:IW p q s x=s:=by unfold IW; rw[hi]; rfl
   rw[this,ih hs]; simp
  |true =>
   rcases hs with h|h
   ·have:IW p q s x=(2,dO x):=by unfold IW; rw[hi,h]; rfl
    rw[this,ih (.inr rfl)]; simp
   ·have h2:(IW p q s x).1=2:=by
     unfold IW
     cases oP p q x&&(s.1==1||decide (dO x<s.2))
     ·exact h
     ·rfl
    rw[ih (.inr h2),h2,h]; simp
theorem PE{p:aI}{q:Prop'}{b:List Elem}:((Cb p q b b.length).1==1)=b.all fun x=> !(oP p q x):=by
 unfold Cb
 rw[List.take_length,Yg (.inl rfl)]
 cases h:b.all fun x=> !(oP p q x)<;>simp
set_option maxHeartbeats 1000000 in
theorem S.kK(p:aI)(q:Prop')(r:Int)(hp:fA p)(hq:jK q):aj Tryz.prog 9 [.dat (.iF p),.dat (.prop q),.int r] (.bool true):=by
 have hpr:=hp.rules
 refine aj.of Bd.kK (by simp) rfl rfl ?_
 conv=>whnf
 refine ah.pure (S.tV r) rfl ?_
 generalize aaP r=n
 conv=>whnf
 refine ah.pure (S.nT p q n hp hq) rfl ?_
 have key:((V3 p q n).1 !=0|| !(V3 p q n).2.2)=false-> ∃ k,bK p q=0/\yV p q n=some ((V3 p q n).2.1,k,true)/\(Cc p q n).1=0/\(Cc p q n).2.1=(Cb p q (V3 p q n).2.1 (V3 p q n).2.1.length).1:=by
  unfold V3 Cc
  cases h1:(bK p q !=0) with
  |true =>
   intro h
   replace h:(bK p q !=0|| !false)=false:=h
   rw[h1] at h
   cases h
  |false =>
   cases h2:decide (100<n) with
   |true=>intro h; exact absurd (show true=false from h) (by decide)
   |false =>
    match hs:yV p q n with
    |none=>intro h; exact absurd (show true=false from h) (by decide)
    |some (b,k,false)=>intro h; exact absurd (show true=false from h) (by decide)
    |some (b,k,true)=>intro _; exact⟨k,Ce h1,rfl,rfl,rfl⟩
 generalize V3 p q n=X at key
 obtain⟨e0,b,d0⟩:=X
 conv=>whnf
 repeat(refine VC.mk (by first|exact id|(intro h; rw[h]; rfl)) ?_; conv=>whnf)
 refine⟨fun h1=>?_,fun h1=>?_⟩
 ·conv=>whnf
  refine ah.pure (S.En) rfl ?_
  conv=>whnf
  exact ak.bool rfl
 obtain⟨k,hc,hs,hv1,hv2⟩:=key h1
 replace hs:yV p q n=some (b,k,true):=hs
 replace hv2:(Cc p q n).2.1=(Cb p q b b.length).1:=hv2
 have hD:=Yf hc hs
 have hmin:=hD.min
 have afx:=hD.basis hc
 have hlen:=hD.len
 obtain⟨l1,l2⟩:=zY p q hp
 have hsm:xY b:=fun x hx=>by have h:=hD.fit x hx; have:=h.len; have:=h.valid.states; omega
 conv=>whnf
 refine ah.pure (S.kL p q hp hq) rfl ?_
 rw[hc]
 conv=>whnf
 refine VC.mk id ?_
 conv=>whnf
 refine ah.fM (fun _=>S.jL b false (by omega) hsm.E) rfl ?_
 rw[hmin]
 conv=>whnf
 refine .mk (by exact fun h=>⟨h,h⟩) ?_
 conv=>whnf
 have hsame:aj Tryz.prog 24 [.row 3 false (.elems b),.row 3 false (.elems b)] (.bool true):=by
  have:=S.yu b b false false (by omega) (by omega) hsm.E hsm.E
  rwa [decide_eq_true rfl] at this
 refine ah.fM (fun _=>hsame) rfl ?_
 conv=>whnf
 repeat(refine VC.mk (by first|exact id|(intro h; rw[h]; rfl)) ?_; conv=>whnf)
 refine Fork.mk (fun q=>absurd (q.symm.trans (rfl)).symm Bool.false_ne_true) (fun _=>?_)
 conv=>whnf
 refine aH.objs 4 [10,7,2,3,4] (fun j:Nat=>[(12,.int j)]) (fun _=>[(0,IX p),(1,IY q)]) (fun j=>j<=(eY p q).length) (fun j=>(eY p q).length-j) 0 [0,1] rfl (by decide) (fun _=>rfl) (Nat.zero_le _) (sR rfl) ⟨⟨rfl,nofun,rfl,rfl,rfl,_,rfl,rfl,rfl,aQ.of_eq rfl⟩,⟨rfl,nofun,rfl,rfl,rfl,_,rfl,rfl,rfl,aQ.of_eq rfl⟩,trivial⟩ ?_
 conv=>whnf
 refine⟨(sR rfl),rfl,?_⟩
 rintro j hj
 conv=>whnf
 refine⟨fun h2=>?_,fun h2=>?_⟩
 ·have hj':j<(eY p q).length:=by simpa using h2
  have hmem:(eY p q).getD j default∈eY p q:=by rw[getD_some hj']; exact List.getElem_mem hj'
  have hcon:aj Tryz.prog 34 [.row 3 false (.elems b),.dat (.elem ((eY p q).getD j default))] (.bool true):=by
   have:=S.iW b ((eY p q).getD j default) false (by omega) hsm.E (l2 _ hmem)
   rwa [show(b.any fun z=>pR z ((eY p q).getD j default))=true from hD.up _ hmem] at this
  conv=>whnf
  refine .mk (by simp only[Rw.rng] at *; first|omega|(simp_all; done)|(simp_all; omega)) ?_
  conv=>whnf
  refine ah.pure hcon rfl ?_
  conv=>whnf
  refine Fork.mk (fun q=>absurd (q.symm.trans (rfl)).symm Bool.false_ne_true) (fun _=>?_)
  conv=>whnf
  refine .mk (by simp only[okI] at *; first|omega|(simp_all; done)|(simp_all; omega)) ?_
  conv=>whnf
  exact⟨j+1,[0,1],hj',by omega,(sR rfl),(sR rfl),⟨rfl,nofun,rfl,rfl,rfl,_,rfl,rfl,rfl,aQ.of_eq rfl⟩,⟨rfl,nofun,rfl,rfl,rfl,_,rfl,rfl,rfl,aQ.of_eq rfl⟩,trivial⟩
 clear h2
 conv=>whnf
 refine aH.objs 4 [7,2,3,4] (fun j:Nat=>[(13,.int j)]) (fun _=>[(0,IX p),(1,IY q)]) (fun j=>j<=p.rules.length) (fun j=>p.rules.length-j) 0 [0,1] rfl (by decide) (fun _=>rfl) (Nat.zero_le _) (sR rfl) ⟨⟨rfl,nofun,rfl,rfl,rfl,_,rfl,rfl,rfl,aQ.of_eq rfl⟩,⟨rfl,nofun,rfl,rfl,rfl,_,rfl,rfl,rfl,aQ.of_eq rfl⟩,trivial⟩ ?_
 conv=>whnf
 refine⟨(sR rfl),rfl,?_⟩
 rintro j hj
 conv=>whnf
 refine⟨fun h2=>?_,fun h2=>?_⟩
 ·have hj':j<p.rules.length:=by simpa using h2
  have hcr:aj Tryz.prog 12 [.dat (.iF p),.dat (.prop q),.row 3 false (.elems b),.int (j:Int)] (.bool true):=by
   have:=S.jk p q b j false hp hq (by omega) hsm
   rwa [hD.rule hc hj'] at this
  conv=>whnf
  refine ah.pure hcr rfl ?_
  conv=>whnf
  refine Fork.mk (fun q=>absurd (q.symm.trans (rfl)).symm Bool.false_ne_true) (fun _=>?_)
  conv=>whnf
  refine .mk (by simp only[okI] at *; first|omega|(simp_all; done)|(simp_all; omega)) ?_
  conv=>whnf
  exact⟨j+1,[0,1],hj',by omega,(sR rfl),(sR rfl),⟨rfl,nofun,rfl,rfl,rfl,_,rfl,rfl,rfl,aQ.of_eq rfl⟩,⟨rfl,nofun,rfl,rfl,rfl,_,rfl,rfl,rfl,aQ.of_eq rfl⟩,trivial⟩
 clear h2
 conv=>whnf
 refine ah.pure (S.qy p q n hp hq) rfl ?_
 have hvd:((Cc p q n).2.1==1)=b.all fun x=> !(oP p q x):=by rw[hv2]; exact PE
 replace hv1:(Cc p q n).1=0:=hv1
 generalize Cc p q n=Y at hv1 hvd
 obtain⟨e1,v1,b1,c1,d1⟩:=Y
 replace hv1:e1=0:=hv1
 replace hvd:(v1==1)=b.all fun x=> !(oP p q x):=hvd
 subst hv1
 conv=>whnf
 repeat(refine VC.mk (by first|exact id|(intro h; simp[]; done)) ?_; conv=>whnf)
 refine ah.fM (fun _=>S.eP p q b false hp hq (by omega) hsm) rfl ?_
 rw[afx,<- hvd]
 conv=>whnf
 repeat(refine VC.mk (by first|exact id|exact fun h=>⟨h,h⟩) ?_; conv=>whnf)
 refine ah.fM (fun _=>S.En) rfl ?_
 conv=>whnf
 refine VC.mk id ?_
 conv=>whnf
 refine ak.bool ?_
 simp
def vP(p:aI)(q:Prop')(k:Nat):Prop':= {q with start:=(eF p q).drop k}
theorem LK{p:aI}{q:Prop'}(h:fF p q=0):fV (eF p q) p.states.length=0/\(eF p q).any (fun x=> !(FV p.initial x))=false/\eF p q≠[]:=by
 have hv:=Dl (Dn h)
 unfold fF at h
 obtain⟨_,h⟩:=bz nz h
 obtain⟨_,h⟩:=bz (fun _=>by decide) h
 obtain⟨_,h⟩:=bz (fun _=>by decide) h
 obtain⟨_,h⟩:=bz (fun _=>by decide) h
 obtain⟨h1,h⟩:=bz nz h
 obtain⟨h2,h⟩:=bz (fun _=>by decide) h
 unfold eF
 cases h3:decide ((q.start.length:Int)>0) with
 |true =>
  refine⟨by simpa using h1,h2,fun e=>?_⟩
  replace e:q.start=[]:=e
  rw[e] at h3
  exact absurd h3 (by decide)
 |false =>
  refine⟨hv.init,?_,hv.start⟩
  show p.initial.any (fun x=> !(FV p.initial x))=false
  rw[List.any_eq_false]
  intro x hx
  have:FV p.initial x=true:=List.any_eq_true.2 ⟨x,hx,by simp⟩
  rw[this]; decide
theorem Yh: ∀ {k:Nat} {l:List Int},zZ l=true->zZ (l.drop k)=true:=by
 intro k
 induction k with
 |zero=>intro l h; exact h
 |succ k ih =>
  intro l h
  cases l with
  |nil=>rfl
  |cons a l =>
   refine ih ?_
   cases l with
   |nil=>rfl
   |cons b l =>
    simp only[zZ,Bool.and_eq_true] at h
    exact h.2
theorem set_drop{l:List Int}{n:Int}{k:Nat}(h:fV l n=0):fV (l.drop k) n=0:=by
 have h1:=Yh (k:=k) (UU h)
 unfold fV at h ⊢
 obtain⟨h2,_⟩:=bz (fun _=>by decide) h
 have h3:(l.drop k).any (fun i=>oI i n)=false:=by
  rw[List.any_eq_false] at h2 ⊢
  exact fun x hx=>h2 x (List.mem_of_mem_drop hx)
 rw[h3,h1]; rfl
theorem V4{p:aI}{q:Prop'}{k:Nat}(h:fF p q=0):fF p (vP p q k)=0:=by
 obtain⟨s1,s2,_⟩:=LK h
 have hd:=set_drop (k:=k) s1
 have ha:((eF p q).drop k).any (fun x=> !(FV p.initial x))=false:=by
  rw[List.any_eq_false] at s2 ⊢
  exact fun x hx=>s2 x (List.mem_of_mem_drop hx)
 unfold fF at h ⊢
 obtain⟨h1,h⟩:=bz nz h
 obtain⟨h2,h⟩:=bz (fun _=>by decide) h
 obtain⟨h3,h⟩:=bz (fun _=>by decide) h
 obtain⟨h4,h⟩:=bz (fun _=>by decide) h
 obtain⟨_,h⟩:=bz nz h
 obtain⟨_,h⟩:=bz (fun _=>by decide) h
 show(bif bF p !=0 then bF p else bif !(validName q.name) then 2 else bif !(q.kind==1)&&q.kind !=2 then 1 else bif qQ (vP p q k) then 1 else
  bif fV ((eF p q).drop k) p.states.length !=0 then fV ((eF p q).drop k) p.states.length else bif ((eF p q).drop k).any (fun x=> !(FV p.initial x)) then 5 else _)=0
 rw[h1,h2,h3,show qQ (vP p q k)=false from h4,hd,ha]
 exact h
theorem SG{p:aI}{q:Prop'}{k:Nat}(h:bK p q=0):bK p (vP p q k)=0:=by
 have hp:=V4 (k:=k) (vS h)
 unfold bK at h ⊢
 obtain⟨_,h⟩:=bz nz h
 rw[hp]
 exact h
theorem SI{p:aI}{q:Prop'}{k:Nat}(h:k<(eF p q).length):eF p (vP p q k)=(eF p q).drop k:=by
 have e:eF p (vP p q k)=bif decide (((((eF p q).drop k).length:Nat):Int)>0) then(eF p q).drop k else p.initial:=rfl
 rw[e,decide_eq_true (by rw[List.length_drop]; omega),cond_true]
theorem V5{p:aI}{q:Prop'}{k:Nat}{x:Elem}(h:k<(eF p q).length)(hi:oP p (vP p q k) x=true):oP p q x=true:=by
 unfold oP at hi ⊢
 rw[SI h] at hi
 rw[Bool.and_eq_true] at hi ⊢
 refine⟨?_,hi.2⟩
 have h1:Yi x.counts ((eF p q).drop k)=false:=by simpa using hi.1
 rw[Bool.not_eq_true']
 unfold Yi at h1 ⊢
 rw[List.any_eq_false] at h1 ⊢
 intro i hmem h2
 refine h1 i hmem ?_
 rw[Bool.and_eq_true] at h2 ⊢
 refine⟨h2.1,?_⟩
 have h3:FV (eF p q) i=false:=by simpa using h2.2
 rw[Bool.not_eq_true']
 unfold FV at h3 ⊢
 rw[List.any_eq_false] at h3 ⊢
 exact fun y hy=>h3 y (List.mem_of_mem_drop hy)
theorem SK{p:aI}{q:Prop'}{b:List Elem}{k:Nat}(h:xX p q b=true)(hk:k<(eF p q).length):xX p (vP p q k) b=true:=by
 unfold xX at h
 simp only[Bool.and_eq_true] at h
 obtain⟨⟨⟨⟨h1,h2⟩,h3⟩,h4⟩,h5⟩:=h
 have hc:bK p q=0:=by simpa using h1
 have hc':=SG (k:=k) hc
 have e4:eY p (vP p q k)=eY p q:=by
  unfold eY
  rw[show(bK p (vP p q k) !=0)=false by simp[hc'],show(bK p q !=0)=false by simp[hc]]; rfl
 have e5: ∀ i:Int,yY p (vP p q k) b i=yY p q b i:=fun i=>by unfold yY; rw[hc,hc']
 unfold xX
 simp only[Bool.and_eq_true]
 refine⟨⟨⟨⟨by simp[hc'],h2⟩,?_⟩,by rw[e4]; exact h4⟩,?_⟩
 ·rw[List.all_eq_true] at h3 ⊢
  intro x hx
  have:=h3 x hx
  unfold yt at this ⊢
  rw[Bool.and_eq_true] at this ⊢
  refine⟨this.1,?_⟩
  cases hi:oP p (vP p q k) x with
  |false=>rfl
  |true=>rw[V5 hk hi] at this; exact absurd this.2 (by decide)
 ·rw[List.all_eq_true] at h5 ⊢
  intro i hi
  rw[e5]; exact h5 i hi
def V6(s n:Int):Int:=bif decide (n<1) then 0 else(IntKind.u64.wrap s).tmod n
theorem S.PG(s:Int)(n:Nat)(hn:n<2^40):aj Tryz.prog 17 [.int s,.int n] (.int (V6 s n)):=by
 have hw:0<=IntKind.u64.wrap s:=Int.emod_nonneg s (by decide)
 show aj Tryz.prog 17 [.raw (.lit (.int .i64 s)),.int n] (.int (V6 s n))
 refine aj.of Bd.oU (by simp) rfl rfl ?_
 conv=>whnf
 refine⟨fun h1=>?_,fun h1=>?_⟩
 ·conv=>whnf
  exact ak.int (by unfold V6; rw[h1]; rfl)
 ·have hn1:(1:Int)<=n:=by simpa using h1
  have h2:0<=(IntKind.u64.wrap s).tmod n:=Int.tmod_nonneg _ hw
  have h3:(IntKind.u64.wrap s).tmod n<n:=Int.tmod_lt_of_pos _ (by omega)
  conv=>whnf
  repeat(refine VC.mk (by first|(simp only[okI]; omega)|omega) ?_; conv=>whnf)
  exact ak.int (by unfold V6; rw[h1]; rfl)
theorem UW{s:Int}{n:Nat}(hn:0<n): ∃ k:Nat,V6 s n=(k:Int)/\k<n:=by
 have hw:0<=IntKind.u64.wrap s:=Int.emod_nonneg s (by decide)
 have h2:0<=(IntKind.u64.wrap s).tmod n:=Int.tmod_nonneg _ hw
 have h3:(IntKind.u64.wrap s).tmod n<n:=Int.tmod_lt_of_pos _ (by omega)
 refine⟨((IntKind.u64.wrap s).tmod n).toNat,?_,by omega⟩
 unfold V6
 rw[decide_eq_false (by omega: ¬ (n:Int)<1)]
 show(IntKind.u64.wrap s).tmod n=_
 omega
def stX(p:aI)(q:Prop'):Int×List Int:=bif fF p q !=0 then(fF p q,[]) else(0,eF p q)
theorem S.PI(p:aI)(q:Prop')(hp:fA p)(hq:jK q):aj Tryz.prog 19 [.dat (.iF p),.dat (.prop q)] (.dH [.row 0 false (.ints (stX p q).2),.int (stX p q).1]):=by
 refine aj.of Bd.Dp (by simp) rfl rfl ?_
 conv=>whnf
 refine ah.pure (S.iY p q hp hq) rfl ?_
 conv=>whnf
 refine⟨fun h1=>?_,fun h1=>?_⟩
 ·replace h1:(fF p q !=0)=true:=h1
  conv=>whnf
  unfold stX
  rw[h1]
  exact⟨by
   show T.sub (fun _=>True) _ (.dH [.sl 0 false [],.lit (.int .i64 (fF p q))]) (.dH [.sl 0 true [],.lit (.int .i64 (fF p q))])
   simp only[T.sub,T.dN]
   exact⟨⟨.inl trivial,.inr trivial,fun h=>by cases h⟩,trivial,trivial⟩⟩
 ·replace h1:(fF p q !=0)=false:=h1
  conv=>whnf
  refine ah.pure (S.mD p q hp hq) rfl ?_
  conv=>whnf
  unfold stX
  rw[h1]
  exact ak.eqv rfl
set_option maxHeartbeats 1000000 in
theorem S.gX(p:aI)(q:Prop')(b:List Elem)(s:Int)(hp:fA p)(hq:jK q)(hl:b.length<2^30)(hs:xY b):aj Tryz.prog 5 [.agg ((Dat.iF p).cells++(Dat.prop q).cells),.row 3 false (.elems b),.int s] (.bool true):=by
 have hst:=LM hp hq
 refine aj.of Bd.gX (by simp) rfl rfl ?_
 conv=>whnf
 refine ah.pure (S.PI p q hp hq) rfl ?_
 have hX:stX p q=bif fF p q !=0 then(fF p q,[]) else(0,eF p q):=rfl
 generalize stX p q=X at hX
 obtain⟨e,st⟩:=X
 conv=>whnf
 refine ah.pure (S.sG b false (by omega) hs.E) rfl ?_
 conv=>whnf
 repeat(refine VC.mk (by first|exact id|(intro h; rw[h]; rfl)|(intro h; simp only[h,true_and]; done)) ?_; conv=>whnf)
 refine ah.fM (fun _=>S.eP p q b false hp hq hl hs) rfl ?_
 conv=>whnf
 repeat(refine VC.mk (by first|exact id|(intro h; rw[h]; rfl)) ?_; conv=>whnf)
 refine⟨fun h1=>?_,fun h1=>?_⟩
 ·conv=>whnf
  refine ah.pure (S.En) rfl ?_
  conv=>whnf
  exact ak.bool rfl
 replace h1:(LP b||e !=0|| !xX p q b)=false:=h1
 rw[Bool.or_eq_false_iff,Bool.or_eq_false_iff] at h1
 obtain⟨⟨_,he⟩,hB⟩:=h1
 rw[Bool.not_eq_false'] at hB
 have hpe:fF p q=0:=by
  cases hz:(fF p q !=0) with
  |false=>simpa using hz
  |true =>
   rw[hz] at hX
   replace hX:e=fF p q:=(Prod.mk.inj hX).1
   rw[hX,hz] at he; cases he
 have hse:st=eF p q:=by
  rw[hpe] at hX
  exact(Prod.mk.inj hX).2
 subst hse
 have hne:0<(eF p q).length:=List.length_pos_iff.2 (LK hpe).2.2
 conv=>whnf
 refine ah.pure (S.PG s (eF p q).length (by omega)) rfl ?_
 obtain⟨k,hk,hk2⟩:=UW (s:=s) hne
 rw[hk]
 have hq':jK (vP p q k):=⟨by show((eF p q).drop k).length<2^30; rw[List.length_drop]; omega,hq.bad,hq.adjacent,hq.goal,hq.cnt⟩
 have hless:aj Tryz.prog 14 [.dat (.iF p),.dat (.prop (vP p q k)),.row 3 false (.elems b)] (.bool true):=by
  have:=S.eP p (vP p q k) b false hp hq' hl hs
  rwa [SK hB hk2] at this
 conv=>whnf
 refine .mk (by simp only[Rw.rV]; omega) ?_
 conv=>whnf
 refine ah.weak hless ⟨aC _,aC _,aC _,trivial⟩ rfl ?_
 conv=>whnf
 refine ah.fM (fun _=>S.En) rfl ?_
 conv=>whnf
 refine VC.mk id ?_
 conv=>whnf
 exact ak.bool rfl
def IZ(p:aI)(l:List Rule):aI:= {p with rules:=l}
def Dq(p:aI)(r:Rule):Int :=
 let n:Int:=p.states.length
 bif (!(rX r.kind p.topology)||jM r p.topology) then 6 else bif tX p r !=0 then tX p r else
 bif r.kind==1 then aX [nH p r.guards,fV r.ex n,fV r.all n,gY p r.read,gY p r.write,fV r.send p.messages.length] else
 bif r.kind==2 then aX [bH r.jE n,bH r.zX n,gY p r.read,gY p r.write] else
 bif r.kind==3 then aX [CJ r.response n,gY p r.read,gY p r.write] else
 bif r.kind==4 then aX [fV r.left n,fV r.right n,fV r.parent n,dB (V7 p r) 1] else
 bif p.topology==4 then aX [bH r.jE n,bH r.zX n,dB (decide (r.direction<3)||decide (r.direction>4)) 1]
 else aX [bH r.jE n,bH r.zX n,dB (decide (r.direction<1)||decide (r.direction>2)) 1]
theorem Dt{p:aI}{i:Nat}:fO p i=bif kM p i then 2 else Dq p (p.rules.getD i default):=rfl
theorem V8{p:aI}(l:List Rule): ∀ g:List zJ,gZ (IZ p l) g=gZ p g:=by
 intro g
 induction g with
 |nil=>rfl
 |cons a g ih=>simp only[gZ]; rw[ih]; rfl
theorem V9{p:aI}{l:List Rule}{r:Rule}:Dq (IZ p l) r=Dq p r:=by
 have:nH (IZ p l) r.guards=nH p r.guards:=by unfold nH; rw[V8]
 unfold Dq
 rw[this]; rfl
theorem Wh: ∀ {l:List Int},(∀ x∈l,x=0)->aX l=0:=by
 intro l
 induction l with
 |nil=>intro _; rfl
 |cons a r ih =>
  intro h
  simp only[aX]
  rw[if_pos (h a (by simp))]
  exact ih fun x hx=>h x (List.mem_cons_of_mem _ hx)
theorem SL{p:aI}(h: ∀ i,i<p.rules.length->kM p i=false):p.rules.Pairwise fun a b=>(a.name==b.name)=false:=by
 rw[List.pairwise_iff_getElem]
 intro i j hi hj hij
 have:=h j hj
 unfold kM at this
 rw[Bool.or_eq_false_iff] at this
 have h2:=List.any_eq_false.1 this.2 p.rules[i] (List.mem_take_iff_getElem.2 ⟨i,by omega,rfl⟩)
 rw[getD_some hj] at h2
 simpa using h2
theorem Yj{p:aI}{l:List Rule}(hs:l.Sublist p.rules)(h: ∀ i,i<p.rules.length->fO p i=0): ∀ j,j<l.length->fO (IZ p l) j=0:=by
 have hb: ∀ i,i<p.rules.length->kM p i=false/\Dq p (p.rules.getD i default)=0:=fun i hi=>by
  have:=h i hi
  rw[Dt] at this
  exact bz (fun _=>by decide) this
 have hn:=(SL fun i hi=>(hb i hi).1).sublist hs
 intro j hj
 have hmem:=hs.subset (List.getElem_mem hj)
 obtain⟨i,hi,he⟩:=List.getElem_of_mem hmem
 obtain⟨b1,b2⟩:=hb i hi
 rw[getD_some hi,he] at b2
 have hg:(IZ p l).rules.getD j default=l[j]:=getD_some (l:=l) hj
 rw[Dt,hg,V9,b2]
 have:kM (IZ p l) j=false:=by
  unfold kM at b1 ⊢
  rw[Bool.or_eq_false_iff] at b1 ⊢
  rw[hg]
  rw[getD_some hi,he] at b1
  refine⟨b1.1,?_⟩
  rw[List.any_eq_false]
  intro x hx
  obtain⟨k,hk,rfl⟩:=List.getElem_of_mem hx
  have hk':k<j:=by rw[List.length_take] at hk; omega
  rw[List.getElem_take]
  rw[List.pairwise_iff_getElem] at hn
  have:=hn k j (by omega) hj hk'
  show ¬ (l[k].name==l[j].name)=true
  rw[this]; decide
 rw[this]; rfl
theorem SN{p:aI}{r:Rule}(ht:p.topology=1)(hm:p.messages.length=0)(h:Dq p r=0):r.guards=[]:=by
 unfold Dq at h
 obtain⟨h1,h⟩:=bz (fun _=>by decide) h
 obtain⟨_,h⟩:=bz nz h
 rw[Bool.or_eq_false_iff,ht] at h1
 have hk:=LQ (show rX r.kind 1=true by simpa using h1.1)
 have hu:kN r 1=false:=by rw[vT (by omega)]; exact h1.2
 by_cases hk1:r.kind=1
 ·rw[hk1] at h
  have g:=jl h (nH p r.guards) (by simp)
  cases hg:r.guards with
  |nil=>rfl
  |cons a l =>
   rw[hg] at g
   unfold nH at g
   by_cases hz:gZ p (a::l)=0
   ·simp only[gZ] at hz
    have hz':guardE p a=0:=by
     by_cases hq:guardE p a=0
     ·exact hq
     ·rw[if_neg hq] at hz; exact hz
    have hi:=jl hz' (bH a.message p.messages.length) (by simp)
    have:=yZ hi
    omega
   ·rw[if_neg hz] at g; exact absurd g hz
 ·have hne:(r.kind==1)=false:=by simpa using hk1
  simp only[kN,hne,Bool.not_false,Bool.true_and,NK,Bool.or_eq_false_iff] at hu
  have:=hu.1.1.1.1
  simp only[decide_eq_false_iff_not] at this
  exact List.eq_nil_of_length_eq_zero (by omega)
theorem Yk: ∀ {l:List Rule},(∀ r∈l,r.guards=[])->uP l=[]:=by
 intro l h
 have:l.flatMap Rule.guards=[]:=by
  induction l with
  |nil=>rfl
  |cons a l ih=>rw[List.flatMap_cons,h a (by simp),ih fun r hr=>h r (List.mem_cons_of_mem _ hr)]; rfl
 unfold uP
 rw[this]; rfl
theorem Yl{p:aI}{l:List Rule}(hs:l.Sublist p.rules)(ht:uI p=true)(h:bF p=0):bF (IZ p l)=0:=by
 have hv:=Dl h
 have htop:=LU ht
 have hm:p.messages.length=0:=by
  simp only[uI,Bool.and_eq_true,beq_iff_eq] at ht
  have:=ht.1.2
  omega
 have hr:=Yj hs hv.rule
 have hg: ∀ r∈l,r.guards=[]:=fun r hr=>by
  obtain⟨i,hi,rfl⟩:=List.getElem_of_mem (hs.subset hr)
  have:=hv.rule i hi
  rw[Dt] at this
  have:=(bz (fun _=>by decide) this).2
  rw[getD_some hi] at this
  exact SN htop hm this
 have hlen:=hs.length_le
 unfold bF at h ⊢
 obtain⟨h1,h⟩:=bz (fun _=>by decide) h
 obtain⟨h2,h⟩:=bz (fun _=>by decide) h
 obtain⟨h3,h⟩:=bz (fun _=>by decide) h
 obtain⟨h4,h⟩:=bz (fun _=>by decide) h
 obtain⟨h5,h⟩:=bz nz h
 obtain⟨h6,h⟩:=bz (fun _=>by decide) h
 obtain⟨h7,h⟩:=bz (fun _=>by decide) h
 obtain⟨h8,h⟩:=bz nz h
 have h4':qR (IZ p l)=false:=by
  unfold qR at h4 ⊢
  rw[Bool.or_eq_false_iff] at h4 ⊢
  refine⟨h4.1,?_⟩
  have:=of_decide_eq_false h4.2
  rw[decide_eq_false_iff_not]
  show ¬ (l.length:Int)>8
  omega
 have hrl:vU (IZ p l)=0:=by
  unfold vU
  refine Wh fun x hx=>?_
  obtain⟨j,hj,rfl⟩:=List.mem_map.1 hx
  exact hr j (List.mem_range.1 hj)
 show(bif !(validName p.name) then 2 else bif sH p then 1 else bif (p.states.length:Int)==0 then 1 else bif qR (IZ p l) then 4 else
  bif vV p !=0 then vV p else bif NM p then 1 else bif p.bW.any (fun l=> !(NP l)) then 4 else
  bif vW p !=0 then vW p else bif vU (IZ p l) !=0 then vU (IZ p l) else dB (decide (((uP l).length:Int)>3)) 4)=0
 rw[h1,h2,h3,h4',h5,h6,h7,h8,hrl,Yk hg]; rfl
theorem PK: ∀ {l:List Rule} {b:Bool},l.foldl SQ b=(b||l.any fun r=>decide ((r.all.length:Int)>0)):=by
 intro l
 induction l with
 |nil=>intro b; simp
 |cons a l ih=>intro b; rw[List.foldl_cons,ih,List.any_cons]; unfold SQ; rw[Bool.or_assoc]
theorem Hf{p:aI}(h:(jA p).cover=true):uI p=true/\p.rules.foldl SQ false=false:=by
 have e:(jA p).cover=(uI p&& !(p.rules.foldl SQ false)):=rfl
 rw[e,Bool.and_eq_true] at h
 exact⟨h.1,by simpa using h.2⟩
theorem Ym{p:aI}{l:List Rule}(hs:l.Sublist p.rules)(h:(jA p).cover=true):(jA (IZ p l)).cover=true:=by
 obtain⟨h1,h2⟩:=Hf h
 have e:(jA (IZ p l)).cover=(uI p&& !(l.foldl SQ false)):=rfl
 rw[e,h1,PK]
 rw[PK,Bool.false_or,List.any_eq_false] at h2
 rw[Bool.false_or,Bool.true_and,Bool.not_eq_true',List.any_eq_false]
 exact fun x hx=>h2 x (hs.subset hx)
theorem Yn{p:aI}{q:Prop'}{l:List Rule}(hs:l.Sublist p.rules)(h:bK p q=0):bK (IZ p l) q=0:=by
 obtain⟨hk,_,b3,b4⟩:=Dk h
 have hv:=Yl hs (Hf b4).1 b3
 have hc:=Ym hs b4
 have hpq:=vS h
 have hp':fF (IZ p l) q=0:=by
  unfold fF at hpq ⊢
  obtain⟨_,hpq⟩:=bz nz hpq
  rw[hv]
  exact hpq
 unfold bK
 rw[hp',hc,hk]; rfl
theorem Yo{p:aI}{q:Prop'}{b:List Elem}{l:List Rule}(hs:l.Sublist p.rules)(h:xX p q b=true):xX (IZ p l) q b=true:=by
 unfold xX at h
 simp only[Bool.and_eq_true] at h
 obtain⟨⟨⟨⟨h1,h2⟩,h3⟩,h4⟩,h5⟩:=h
 have hc:bK p q=0:=by simpa using h1
 have hc':=Yn hs hc
 have hcov:=FU hc
 have aer:=FU hc'
 have e4:eY (IZ p l) q=eY p q:=by
  unfold eY
  rw[hc,hc']; rfl
 unfold xX
 simp only[Bool.and_eq_true]
 refine⟨⟨⟨⟨by simp[hc'],h2⟩,h3⟩,by rw[e4]; exact h4⟩,?_⟩
 rw[List.all_eq_true] at h5 ⊢
 intro j hj
 have hj':j<l.length:=List.mem_range.1 hj
 obtain⟨i,hi,he⟩:=List.getElem_of_mem (hs.subset (List.getElem_mem hj'))
 have hi5:=h5 i (List.mem_range.2 hi)
 unfold yY at hi5 ⊢
 rw[hc',show(decide ((j:Int)<0)||decide ((j:Int)>=(IZ p l).rules.length))=false by show(decide ((j:Int)<0)||decide ((j:Int)>=l.length))=false; simp; omega]
 rw[hc,show(decide ((i:Int)<0)||decide ((i:Int)>=p.rules.length))=false by simp; omega] at hi5
 have e: ∀ x,LJ (IZ p l) j x=LJ p i x:=fun x=>by
  unfold LJ
  rw[hcov,aer,show(decide ((j:Int)<0)||decide ((j:Int)>=(IZ p l).rules.length))=false by show(decide ((j:Int)<0)||decide ((j:Int)>=l.length))=false; simp; omega,show(decide ((i:Int)<0)||decide ((i:Int)>=p.rules.length))=false by simp; omega]
  show(bif qL p x then((1:Int),[]) else sF p (l.getD j default) x)=bif qL p x then(1,[]) else sF p (p.rules.getD i default) x
  rw[getD_some hj',getD_some hi,he]
 have e2:IV (IZ p l) b j=IV p b i:=funext fun x=>by unfold IV; rw[e]
 rw[e2]
 exact hi5
theorem Yp{p:aI}{q:Prop'}{b:List Elem}(h:xX p q b=true){i:Nat}(hi:i<p.rules.length):yY p q b i=true:=by
 unfold xX at h
 simp only[Bool.and_eq_true] at h
 exact List.all_eq_true.1 h.2 i (List.mem_range.2 hi)
def Aa(p:aI)(i:Nat):aI:=IZ p (p.rules.take i++p.rules.drop (i+1))
theorem Ac{p:aI}{i:Nat}:(p.rules.take i++p.rules.drop (i+1)).Sublist p.rules:=by
 rw[<- List.eraseIdx_eq_take_drop_succ]
 exact List.eraseIdx_sublist ..
theorem Yq{h:Hz}{j:Nat}{l:List Rule}(q:h.get j=some (.row 86 19 (.rules l) [])):T.sub (fun _=>True) h.au (.sl 19 false (l.map Hg)) (.own j):=by
 refine NQ trivial ?_ (by decide) (ty:=86) ?_
 ·rw[gK]; intro t ht; obtain⟨x,_,rfl⟩:=List.mem_map.1 ht; rfl
 ·have:=aP q
  simpa [OV.aA,Rw.aV,V.aV] using this
set_option maxHeartbeats 1000000 in
theorem S.NR(p:aI)(i:Nat)(hp:fA p)(hi:i<p.rules.length):aj Tryz.prog 18 [.dat (.iF p),.int i] (.dat (.iF (Aa p i))):=by
 have hpr:=hp.rules
 refine aj.of Bd.kZ (by simp) rfl rfl ?_
 conv=>whnf
 repeat(refine VC.mk (by first|(first|(simp only[Rw.rV]; omega)|(show(0+(p.rules.take i).length)*280<=140737488355328/\0+(p.rules.take i).length<=1152921504606846976; rw[List.length_take]; omega)|(show((p.rules.take i).length+(p.rules.drop (i+1)).length)*280<=140737488355328/\(p.rules.take i).length+(p.rules.drop (i+1)).length<=1152921504606846976; rw[List.length_take,List.length_drop]; omega))|(simp only[okI] at *; first|omega|(simp_all; done)|(simp_all; omega))) ?_; conv=>whnf)
 exact⟨⟨aC _,aC _,aC _,aC _,aC _,aC _,aC _,aC _,aC _,Yq rfl,trivial⟩⟩
set_option maxHeartbeats 1000000 in
theorem S.iI(p:aI)(q:Prop')(b:List Elem)(s:Int)(hp:fA p)(hq:jK q)(hl:b.length<2^30)(hs:xY b):aj Tryz.prog 4 [.agg ((Dat.iF p).cells++(Dat.prop q).cells),.row 3 false (.elems b),.int s] (.bool true):=by
 have hpr:=hp.rules
 refine aj.of Bd.iI (by simp) rfl rfl ?_
 conv=>whnf
 refine ah.pure (S.sG b false (by omega) hs.E) rfl ?_
 conv=>whnf
 refine .mk (by intro h; simp[h]; done) ?_
 conv=>whnf
 refine ah.fM (fun _=>S.eP p q b false hp hq hl hs) rfl ?_
 conv=>whnf
 repeat(refine VC.mk (by first|exact id|(intro h; rw[h]; rfl)) ?_; conv=>whnf)
 refine⟨fun h1=>?_,fun h1=>?_⟩
 ·conv=>whnf
  refine ah.pure (S.En) rfl ?_
  conv=>whnf
  exact ak.bool rfl
 replace h1:(LP b|| !xX p q b||(p.rules.length:Int)==0)=false:=h1
 rw[Bool.or_eq_false_iff,Bool.or_eq_false_iff] at h1
 obtain⟨⟨_,hB⟩,hn⟩:=h1
 rw[Bool.not_eq_false'] at hB
 have hn0:0<p.rules.length:=by
  have: ¬ (p.rules.length:Int)=0:=by simpa using hn
  omega
 conv=>whnf
 refine ah.pure (S.PG s p.rules.length (by omega)) rfl ?_
 obtain⟨k,hk,hk2⟩:=UW (s:=s) hn0
 rw[hk]
 have hr:aj Tryz.prog 12 [.dat (.iF p),.dat (.prop q),.row 3 false (.elems b),.int (k:Int)] (.bool true):=by
  have:=S.jk p q b k false hp hq hl hs
  rwa [Yp hB hk2] at this
 have hp':fA (Aa p k):=by
  have hlen:=(Ac (p:=p) (i:=k)).length_le
  refine⟨hp.states,hp.messages,hp.values,hp.bW,hp.initial,hp.leader,?_,fun i=>?_,?_⟩
  ·show(p.rules.take k++p.rules.drop (k+1)).length<2^30; omega
  ·show sJ ((p.rules.take k++p.rules.drop (k+1)).getD i default)
   rcases Nat.lt_or_ge i (p.rules.take k++p.rules.drop (k+1)).length with h|h
   ·obtain⟨j,hj,he⟩:=List.getElem_of_mem (Ac.subset (List.getElem_mem h))
    rw[getD_some h,<- he,<- getD_some (d:=default) hj]
    exact hp.rule j
   ·rw[List.getD_eq_getElem?_getD,List.getElem?_eq_none h]
    constructor<;>exact(by decide:(0:Nat)<2^30)
  ·show((p.rules.take k++p.rules.drop (k+1)).flatMap Rule.guards).length<2^30
   have e:p.rules=p.rules.take k++p.rules.getD k default::p.rules.drop (k+1):=by rw[getD_some hk2,<- List.drop_eq_getElem_cons hk2,List.take_append_drop]
   have h2:=congrArg (fun l:List Rule=>(l.flatMap Rule.guards).length) e
   have h3:=hp.pU
   simp only[List.flatMap_append,List.flatMap_cons,List.length_append] at h2 ⊢
   omega
 have hbs:aj Tryz.prog 14 [.dat (.iF (Aa p k)),.dat (.prop q),.row 3 false (.elems b)] (.bool true):=by
  have:=S.eP (Aa p k) q b false hp' hq hl hs
  rwa [show xX (Aa p k) q b=true from Yo Ac hB] at this
 conv=>whnf
 refine ah.pure hr rfl ?_
 conv=>whnf
 refine .mk (by exact fun h=>⟨h,h⟩) ?_
 conv=>whnf
 refine ah.fM (fun _=>S.NR p k hp hk2) rfl ?_
 conv=>whnf
 refine .mk (by intro h; simp[]; done) ?_
 conv=>whnf
 refine ah.fM (fun _=>hbs) rfl ?_
 conv=>whnf
 refine VC.mk id ?_
 conv=>whnf
 refine ah.fM (fun _=>S.En) rfl ?_
 conv=>whnf
 refine VC.mk id ?_
 conv=>whnf
 exact ak.bool rfl
end Go.Proofs.YtkmldgihhaooaaaGreatDoor
