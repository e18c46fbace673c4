/-
 A part of the proof. No condition.
-/
import Derived.Test.YtifbibbicplneaaGreatDoorBb
import Derived.Test.YtifbibbicplneaaGreatDoorIe
namespace Go.Proofs.YtifbibbicplneaaGreatDoor
open Go.Ab Go.Proofs
set_option maxRecDepth 100000
theorem SmallK.each{l:List Clause}(h:SmallK l)(i:Nat):(l.getD i default).each.length<2^30:=(h.cl i).each
theorem abu{v:V}(h:v.free=true):T.dw [v.aH]=true:=by
 show(v.aH.free&&true)=true
 rw[V.kG v h]; rfl
theorem Xk{v u:V}(h:v.free=true)(k:u.free=true):T.dw [v.aH,u.aH]=true:=by
 show(v.aH.free&&(u.aH.free&&true))=true
 rw[V.kG v h,V.kG u k]; rfl
theorem ah.aa4{P:Program}{dr:Bool}{g:Option Bool}{f:FuncId}{args args':List V}{h:Hz}{n:Nat}{K:V->Hz->Prop}{KW:Nat->V->Hz->Prop}(e:V.aX args'=V.aX args)(H:ah P dr g f args' h n K KW):ah P dr g f args h n K KW:=by
 have:=H.ok
 rw[e] at this
 exact⟨this⟩
theorem UQ{b n vals:Nat}{e:Elem}(hb:0<b)(hn:n<2^20)(h:e∈eH b n vals):e.counts.length<2^20:=by
 have:=(wQ hb e h).len
 omega
theorem UR{fire:Elem->Option Elem}{l a:List Clause}: ∀ {es:List Elem} {s:Nat×Elem},(es.foldl (stepG fire l a) s).2=s.2\/(es.foldl (stepG fire l a) s).2∈es:=by
 intro es
 induction es with
 |nil=>intro s; exact .inl rfl
 |cons e es ih =>
  intro s
  rw[List.foldl_cons]
  rcases ih (s:=stepG fire l a s e) with h|h
  ·rw[h]
   unfold stepG
   split
   ·exact .inl rfl
   ·rename_i x _
    cases (dh l e&&dh a e&&(decide (aZ l x<l.length)&&(decide (aZ l x<s.1)||aZ l x==s.1&&decide (dK e<dK s.2)))) with
    |true=>exact .inr (List.mem_cons_self ..)
    |false=>exact .inl rfl
  ·exact .inr (List.mem_cons_of_mem _ h)
theorem Xl{p:aP}{rule:Int}{l a:List Clause}(hp:bH p): ∃ (i:Int) (x:Elem),Fe p rule l a= .fA [.int i,.dat (.elem x),.int (wK p rule l a)]/\x.counts.length<2^20:=by
 have hz:zE.counts.length<2^20:=by decide
 unfold Fe
 cases wK p rule l a !=0 with
 |true=>exact⟨_,_,rfl,hz⟩
 |false =>
  refine⟨_,_,rfl,?_⟩
  generalize p.rules.getD rule.toNat default=r
  cases (sV p r l a).1==l.length with
  |true=>exact hz
  |false =>
   show(sV p r l a).2.counts.length<2^20
   rcases UR (fire:=bF r) (l:=l) (a:=a) (es:=eH (DL (l++a)+3) p.states.length (iQ p)) (s:=(l.length,⟨0,[]⟩)) with h|h
   ·unfold sV DN; rw[h]; exact hz
   ·exact UQ (by omega) hp.states h
theorem S.iJ(p:aP)(rule:Int)(l a:List Clause)(f g:Bool)(hp:bH p)(_:okI rule)(hl:SmallK l)(ha:SmallK a):aj Tryz.prog 4 [.dat (.bW p),.int rule,.agg [.row 4 f (.clauses l),.row 4 g (.clauses a)]] (.bool true):=by
 have k1:=hl.len; have k2:=ha.len
 refine aj.of Bd.iJ (by simp) (by cases f<;>cases g<;>rfl) rfl ?_
 conv=>whnf
 refine ah.lend (S.Gp 20 l a false f g k1 hl.each k2 ha.each) (And.intro (aB _) (And.intro (uH trivial (Xk rfl rfl) (by decide) rfl) trivial)) rfl rfl ?_
 conv=>whnf
 repeat(refine VC.mk id ?_; conv=>whnf)
 refine⟨fun h1=>?_,fun h1=>?_⟩
 ·conv=>whnf
  refine ah.pure (S.eU) rfl ?_
  conv=>whnf
  exact ak.bool rfl
 conv=>whnf
 obtain⟨i,x,hV,hx⟩:=Xl (p:=p) (rule:=rule) (l:=l) (a:=a) hp
 have h1:=S.fF p rule l a f g hp hl ha
 have h2:=S.mD p rule l a f g hp hl ha
 rw[hV] at h1 h2
 refine ah.pure h1 rfl ?_
 conv=>whnf
 refine ah.pure h2 rfl ?_
 conv=>whnf
 repeat(refine VC.mk (by first|exact id|exact fun h=>⟨h,h⟩) ?_; conv=>whnf)
 refine ah.cO (fun _=>S.pR x x (by omega) (by omega)) rfl ?_
 conv=>whnf
 repeat(refine VC.mk id ?_; conv=>whnf)
 refine ah.cO (fun _=>S.eU) rfl ?_
 conv=>whnf
 refine VC.mk id ?_
 conv=>whnf
 exact ak.bool (by rw[ZA.2 rfl]; simp)
theorem S.ig(p:aP)(q:Prop')(l a:List Clause)(f g:Bool)(hp:bH p)(hq:kC q)(hl:SmallK l)(ha:SmallK a):aj Tryz.prog 5 [.agg (Dat.cells (.bW p)++Dat.cells (.prop q)),.row 4 f (.clauses l),.row 4 g (.clauses a)] (.bool true):=by
 have k1:=hl.len; have k2:=ha.len
 refine aj.of Bd.ig (by simp) (by cases f<;>cases g<;>rfl) rfl ?_
 conv=>whnf
 refine ah.lend (S.Gp 20 l a false f g k1 hl.each k2 ha.each) (And.intro (aB _) (And.intro (uH trivial (Xk rfl rfl) (by decide) rfl) trivial)) rfl rfl ?_
 conv=>whnf
 refine⟨fun h1=>?_,fun h1=>?_⟩
 ·conv=>whnf
  refine ah.pure (S.eU) rfl ?_
  conv=>whnf
  exact ak.bool rfl
 conv=>whnf
 refine ah.aa4 (args':=[.dat (.bW p),.dat (.prop q),.row 4 f (.clauses l),.row 4 g (.clauses a)]) rfl (ah.pure (S.dR p q l a f g hp hq hl ha) rfl ?_)
 conv=>whnf
 refine ah.aa4 (args':=[.dat (.bW p),.dat (.prop q),.row 4 f (.clauses l),.row 4 g (.clauses a)]) rfl (ah.pure (S.lC p q l a f g hp hq hl ha) rfl ?_)
 conv=>whnf
 refine ah.cO (fun _=>S.eU) rfl ?_
 conv=>whnf
 refine VC.mk id ?_
 conv=>whnf
 exact ak.bool (by cases Oi p q l a<;>rfl)
theorem SmallK.nil:SmallK []:=DK
theorem SmallK.filter{l:List Clause}(h:SmallK l)(p:Clause->Bool):SmallK (l.filter p):=by
 have:=h.keep (l.map fun k=> !p k)
 rw[Oq] at this
 simpa using this
theorem QM{p:aP}{l:List Clause}{es:List Elem}(hl:SmallK l):SmallK (QN p l es):=by
 unfold QN QO
 cases xA p l es==0 with
 |true=>exact hl.filter _
 |false=>exact SmallK.nil
theorem S.gu(p:aP)(l:List Clause)(es:List Elem)(f g:Bool)(hp:bH p)(hl:SmallK l)(he:es.length<2^30)(hs: ∀ e∈es,e.counts.length<1048576):aj Tryz.prog 14 [.dat (.bW p),.row 4 f (.clauses l),.row 3 g (.elems es)] (.bool true):=by
 have k1:=hl.len
 have hs': ∀ i,(es.getD i default).counts.length<2^30:=fun i=>by
  by_cases hi:i<es.length
  ·have:=hs _ (getM (d:=default) hi); omega
  ·rw[show es.getD i default=default by simp[List.getD_eq_getElem?_getD,List.getElem?_eq_none (by omega:es.length<=i)]]; decide
 refine aj.of Bd.gu (by simp) (by cases f<;>cases g<;>rfl) rfl ?_
 conv=>whnf
 refine ah.lend (S.Oo 40 l false f k1 hl.each) (And.intro (aB _) (And.intro (uH trivial (abu rfl) (by decide) rfl) trivial)) rfl rfl ?_
 conv=>whnf
 repeat(refine VC.mk (by first|exact id|(intro h; rw[h]; rfl)) ?_; conv=>whnf)
 refine⟨fun h1=>?_,fun h1=>?_⟩
 ·conv=>whnf
  refine ah.pure (S.eU) rfl ?_
  conv=>whnf
  exact ak.bool rfl
 conv=>whnf
 refine ah.pure (S.lD p l es f g hp hl he hs') rfl ?_
 rw[Ot]
 conv=>whnf
 refine ah.pure (S.vw p l es f g hp hl he hs') rfl ?_
 rw[Ot]
 conv=>whnf
 refine .mk (by exact fun h=>⟨h,h⟩) ?_
 conv=>whnf
 have hsm:=QM (p:=p) (es:=es) hl
 refine ah.cO (fun _=>S.zS (QN p l es) (QN p l es) false false hsm hsm) rfl ?_
 conv=>whnf
 refine VC.mk id ?_
 conv=>whnf
 refine ah.cO (fun _=>S.eU) rfl ?_
 conv=>whnf
 refine VC.mk id ?_
 conv=>whnf
 exact ak.bool (by rw[QS]; simp)
theorem UU{p:aP}{k:Clause}{e:Elem}(h:GR p k e=0):(Gq k e.value||Fg k.some (NZ e.counts) k.each [])=holdsB k e:=by
 obtain⟨hf,_⟩:=MB h
 obtain⟨vals,hc⟩:=hf.cl
 rw[holdsB,ZB hc fun x hx=>(hf.ok x hx).1]
theorem S.iK(p:aP)(k:Clause)(e:Elem)(hp:bH p)(hk:qH k)(he:e.counts.length<2^30):aj Tryz.prog 10 [.dat (.bW p),.dat (.clause k),.dat (.elem e)] (.bool true):=by
 have hv:=hk.values
 refine aj.of Bd.iK (by simp) rfl rfl ?_
 conv=>whnf
 refine ah.pure (S.kH p k e hp hk he) rfl ?_
 rw[Xm]
 have hC:=S.jf p e hp he
 by_cases hc:BK p e=0
 ·rw[TL hc] at hC
  conv=>whnf
  refine ah.pure hC rfl ?_
  conv=>whnf
  repeat(refine VC.mk (by first|exact id|(intro h; rw[h]; rfl)) ?_; conv=>whnf)
  refine⟨fun h1=>?_,fun h1=>?_⟩
  ·conv=>whnf
   refine ah.pure (S.eU) rfl ?_
   conv=>whnf
   exact ak.bool rfl
  have hin:GR p k e=0:=by
   have h2:(GR p k e !=0||((0:Int) !=0))=false:=h1
   simpa using h2
  have hml:=UU hin
  have hsl:(NZ e.counts).length<2^30:=by
   obtain⟨hf,_⟩:=MB hin
   have h3:=TM hf.ok e.counts.length
   have h4:=hf.len
   have h5:(NZ e.counts).length=(stP e.counts e.counts.length).length:=rfl
   omega
  conv=>whnf
  repeat(refine VC.mk (by first|exact id|exact fun h=>⟨h,h⟩) ?_; conv=>whnf)
  refine ah.cO (fun _=>S.qI k.values e.value false (by omega)) rfl ?_
  conv=>whnf
  repeat(refine VC.mk (by first|exact id|(intro h; simp only[h,true_and]; done)) ?_; conv=>whnf)
  refine ah.cO (fun _=>S.jA k.each k.some (NZ e.counts) false false false hk.each hk.rows hsl hk.some k.each [] true (Nat.zero_le _) rfl) rfl ?_
  conv=>whnf
  refine .mk (by intro h; rw[h]; rfl) ?_
  conv=>whnf
  refine ah.cO (fun _=>S.eU) rfl ?_
  conv=>whnf
  refine VC.mk id ?_
  conv=>whnf
  refine ak.bool ?_
  have hfr:(decide ((0:Int)<(k.values.length:Int))&& !(rF k.values e.value))=Gq k e.value:=rfl
  rw[hfr,hml,hin]
  simp
 ·rw[DR rfl hc] at hC
  unfold Xn at hC
  conv=>whnf
  refine ah.pure hC rfl ?_
  conv=>whnf
  repeat(refine VC.mk (by first|exact id|(intro h; rw[h]; rfl)) ?_; conv=>whnf)
  refine Fork.mk (fun _=>?_) (fun q=>absurd (q.symm.trans ((by rw[show(BK p e !=0)=true from by simpa using hc,Bool.or_true]:(GR p k e !=0||BK p e !=0)=true))) Bool.false_ne_true)
  conv=>whnf
  conv=>whnf
  refine ah.pure (S.eU) rfl ?_
  conv=>whnf
  exact ak.bool rfl
end Go.Proofs.YtifbibbicplneaaGreatDoor
