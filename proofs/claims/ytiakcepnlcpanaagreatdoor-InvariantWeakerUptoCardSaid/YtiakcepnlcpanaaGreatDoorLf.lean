/-
 The typed layer, part 9: contracts of functions; loops.
-/
import Derived.Defers
import Derived.Shelf.SlSortCmp.WholeK
import Derived.Deep.Slices
import Derived.Carry
import Derived.RowKit
import Derived.Stop.LaidErr
import Derived.Deep.DeepHandedRow
import Derived.Deep.DeepWitnessRowRef
import Derived.Lib.LaidTab
import Derived.Test.YtiakcepnlcpanaaGreatDoorLe
import Derived.Test.YtiakcepnlcpanaaGreatDoorLd
namespace Go.Ab
section
variable {P:Program}
structure Body(P:Program)(f:FuncId)(ac:dR)(rs:List RV)(nt:Nat):Prop where
 ex: ∃ fn c,P.funcs[f]? =some fn/\fn.body=some c/\comp P c=some ac/\jA P fn.results.toList=some rs/\fn.ntmps=nt
 cl:callable P f
 dst:oH nt ac=true
def WL(m:Fm)(h:Hz):RV->Option V
 | .slot t=>m.get t
 | .cell a k=>match m.get a with
  |some v=>match ldZ h k v with|some (u,.no)=>some u|_=>none
  |none=>none
def Q7(m:Fm)(h:Hz):List RV->Option (List V)
 |[]=>some []
 |r::rs=>match WL m h r,Q7 m h rs with
  |some v,some l=>some (v::l)
  |_,_=>none
def resV(m:Fm)(h:Hz)(rs:List RV):Option V :=
 match Q7 m h rs with
 |some [v]=>some v
 |some l=>some (.dM l)
 |none=>none
theorem WM{m:Fm}{h:Hz}{s:AS}(R:Rp m s.fr)(hh:s.hp=h.aj){r:RV}{v:V}(q:WL m h r=some v):r.ok s/\r.val s=v.aH:=by
 cases r with
 |slot t=>exact⟨trivial,R.getD q⟩
 |cell a k =>
  simp only[WL] at q
  split at q
  ·rename_i u hu
   split at q
   ·rename_i w hw
    cases q
    have:=WC (x:=.t a) hh hw trivial (R.ev (x:=.t a) hu)
    exact this
   ·cases q
  ·cases q
theorem NT{m:Fm}{h:Hz}{s:AS}(R:Rp m s.fr)(hh:s.hp=h.aj): ∀ {rs:List RV} {l:List V},Q7 m h rs=some l->Cc s rs/\rs.map (RV.val s)=V.aS l:=by
 intro rs
 induction rs with
 |nil=>intro l q; cases q; exact⟨trivial,rfl⟩
 |cons r rs ih =>
  intro l q
  simp only[Q7] at q
  split at q
  ·rename_i v l' h1 h2
   cases q
   obtain⟨a1,a2⟩:=WM R hh h1
   obtain⟨b1,b2⟩:=ih h2
   exact⟨⟨a1,b1⟩,by simp only[List.map_cons,V.aS]; rw[a2,b2]⟩
  ·cases q
theorem CJ{m:Fm}{h:Hz}{s:AS}(R:Rp m s.fr)(hh:s.hp=h.aj){rs:List RV}{v:V}(q:resV m h rs=some v):Cc s rs/\resT s rs=v.aH:=by
 unfold resV at q
 split at q
 ·rename_i u e
  cases q
  obtain⟨a,b⟩:=NT R hh e
  refine⟨a,?_⟩
  cases rs with
  |nil=>simp[V.aS] at b
  |cons r rs =>
   cases rs with
   |nil=>simp only[List.map_cons,List.map_nil,V.aS,List.cons.injEq,and_true] at b; exact b
   |cons r' rs=>simp[V.aS] at b
 ·rename_i l hne e
  cases q
  obtain⟨a,b⟩:=NT R hh e
  refine⟨a,?_⟩
  match rs,b,e with
  |[],b,_=>simp only[resT,V.aH]; rw[b]
  |[r],b,e =>
   cases l with
   |nil=>simp[V.aS] at b
   |cons u l =>
    cases l with
    |nil=>exact absurd rfl (hne u)
    |cons w l=>simp[V.aS] at b
  |r::r'::rs,b,_=>simp only[resT,V.aH]; rw[b]
 ·cases q
structure aA(res v:V)(h:Hz):Prop where
 ok:T.sub (fun _=>True) h.aj res.aH v.aH
def acA(rs:List RV)(res:V):Qz
 | .exit _,_,_,_=>False
 |_,m,h,_=>match resV m h rs with
  |some v=>v.seq fun v=>aA res v h
  |none=>False
def xF:Nat->List V->Fm
 |_,[]=>[]
 |i,v::r=>(i,v)::xF (i+1) r
theorem P8: ∀ {l:List V} {i j:Nat} {v:V},(xF i l).get j=some v-> ∃ k,j=i+k/\l[k]? =some v:=by
 intro l
 induction l with
 |nil=>intro i j v q; cases q
 |cons u r ih =>
  intro i j v q
  simp only[xF,Fm.get] at q
  cases hb:Nat.beq i j with
  |true=>rw[hb] at q; cases q; exact⟨0,(jo hb).symm,rfl⟩
  |false =>
   rw[hb] at q
   obtain⟨k,e1,e2⟩:=ih q
   exact⟨k+1,by omega,by simpa using e2⟩
theorem uo{l:List V}{n:Nat}:Rp (xF 0 l) (V.aS l++List.replicate n T.un):=by
 intro i v q
 obtain⟨k,e1,e2⟩:=P8 q
 have e:i=k:=by omega
 subst e
 have hk:i<l.length:=(List.getElem?_eq_some_iff.1 e2).1
 rw[List.getElem?_append_left (by rw[gy]; exact hk),nP,List.getElem?_map,e2]
 rfl
theorem YO:(no:Hp)=Hz.aj []:=rfl
@[reducible] def au(P:Program)(f:FuncId)(args:List V)(res:V):Prop:=tN P f (V.aS args) res.aH
theorem au.of{f:FuncId}{ac:dR}{rs:List RV}{nt:Nat}{args:List V}{res:V}(B:Body P f ac rs nt)(hn:args.length<=nt)(hf:V.dh args=true)(hr:res.free=true)(H:az P nt 0 ac (acA rs res) (xF 0 args) [] 0):au P f args res:=by
 obtain⟨fn,c,h1,h2,h3,h4,h5⟩:=B.ex
 have EP:res.aH.ids (fun _=>False):=fM (V.lX res hr)
 refine uy.uU (o:=none) h1 h2 h3 h4 B.cl h5 (V.gY args hf) (fun _ _=>Wi _ EP) (fun _=>T.bI (fun _ h=>h.elim) _ EP) (fun _ h=>by cases h) ?_
 have:=mP (P:=P) (N:=nt) (pn:=0) (s:=⟨V.aS args++List.replicate (nt-(V.aS args).length) T.un,no,0,0⟩) B.dst (by simp[gy]; omega) uo YO rfl H
 refine jB ?_ this
 rintro e s ⟨m,h,a1,a2,a3,a4,a5⟩
 have key: ∀ {m h},Rp m s.fr->s.hp=Hz.aj h->(match resV m h rs with|some v=>v.seq fun v=>aA res v h|none=>False)->Cc s rs/\T.sub (fun _=>True) s.hp res.aH (resT s rs):=by
  intro m h a2 a3 q
  split at q
  ·rename_i v hv
   rw[V.seq_eq] at q
   obtain⟨b1,b2⟩:=CJ a2 a3 hv
   exact⟨b1,by rw[b2,a3]; exact q.ok⟩
  ·exact q.elim
 cases e with
 |exit j=>exact a5.elim
 |normal=>exact key a2 a3 a5
 |ret=>exact key a2 a3 a5
theorem aA.int{a b:Int}{h:Hz}(e:a=b):aA (.int a) (.int b) h:=⟨by subst e; exact aC _⟩
theorem aA.bool{a b:Bool}{h:Hz}(e:a=b):aA (.bool a) (.bool b) h:=⟨by subst e; exact aC _⟩
theorem aA.str{a b:Str}{h:Hz}(e:a=b):aA (.str a) (.str b) h:=⟨by subst e; exact aC _⟩
theorem aA.row{a b:Rw}{k:Nat}{f:Bool}{h:Hz}(e:a=b):aA (.row k false a) (.row k f b) h:=⟨by
 subst e; simp only[V.aH,T.sub]; exact⟨.inl trivial,.inl trivial,fun h=>by cases h⟩⟩
theorem ah.pure{dr:Bool}{f:FuncId}{args:List V}{res:V}{h:Hz}{n:Nat}{K:V->Hz->Prop}{KW:Nat->V->Hz->Prop}(S:au P f args res)(hr:res.free=true)(hK:K res h):ah P dr none f args h n K KW :=
 ⟨.inl (uy.use S (bP _) ⟨res,h,rfl,rfl,fun _=>⟨rfl,V.lX res hr⟩,hK⟩)⟩
theorem ah.nY{dr:Bool}{b:Bool}{f:FuncId}{args:List V}{res:V}{h:Hz}{n:Nat}{K:V->Hz->Prop}{KW:Nat->V->Hz->Prop}(S:b=true->au P f args res)(hr:res.free=true)(hK:K res h):ah P dr (some b) f args h n K KW :=
 ⟨.inl (.inl ⟨res,fun e=>uy.use (S e) (bP _) ⟨rfl,rfl⟩,hr,hK⟩)⟩
def Ib(m:Fm):List Nat->Fm->(Fm->Prop)->Prop
 |[],acc,K=>K acc
 |d::r,acc,K=>match m.get d with
  |some v=>v.seq fun v=>Ib m r ((d,v)::acc) K
  |none=>False
theorem zy{m:Fm}: ∀ {l:List Nat} {acc:Fm} {K:Fm->Prop},Ib m l acc K->(∀ i v,acc.get i=some v->m.get i=some v)-> ∃ b,K b/\ ∀ i v,Fm.get i b=some v->m.get i=some v:=by
 intro l
 induction l with
 |nil=>intro acc K q ha; exact⟨acc,q,ha⟩
 |cons d r ih =>
  intro acc K q ha
  simp only[Ib] at q
  split at q
  ·rename_i v hv
   rw[V.seq_eq] at q
   refine ih q ?_
   intro i u hu
   simp only[Fm.get] at hu
   cases hb:Nat.beq d i with
   |true=>rw[hb] at hu; cases hu; rw[<- jo hb]; exact hv
   |false=>rw[hb] at hu; exact ha i u hu
  ·exact q.elim
def JG(m':Fm):Fm->Prop
 |[]=>True
 |p::r=>(∃ v,m'.get p.1=some v/\p.2.aH=v.aH)/\JG m' r
theorem JH{m':Fm}: ∀ {m0:Fm},JG m' m0-> ∀ {i:Nat} {v:V},m0.get i=some v-> ∃ u,m'.get i=some u/\v.aH=u.aH:=by
 intro m0
 induction m0 with
 |nil=>intro _ i v q; cases q
 |cons p r ih =>
  intro hs i v q
  simp only[Fm.get] at q
  cases hb:Nat.beq p.1 i with
  |true=>rw[hb] at q; cases q; rw[<- jo hb]; exact hs.1
  |false=>rw[hb] at q; exact ih hs.2 q
def WO(nx N:Nat):Fm->Bool
 |[]=>true
 |p::r=>T.lt nx p.2.aH&&Nat.blt p.1 N&&WO nx N r
theorem uY{nx N:Nat}: ∀ {m:Fm},WO nx N m=true-> ∀ {i:Nat} {v:V},m.get i=some v->T.lt nx v.aH=true/\i<N:=by
 intro m
 induction m with
 |nil=>intro _ i v q; cases q
 |cons p r ih =>
  intro hs i v q
  simp only[WO,Bool.and_eq_true] at hs
  simp only[Fm.get] at q
  cases hb:Nat.beq p.1 i with
  |true=>rw[hb] at q; cases q; exact⟨hs.1.1,by rw[<- jo hb]; simpa using hs.1.2⟩
  |false=>rw[hb] at q; exact ih hs.2 q
def uD(N:Nat)(m:Fm):List T:=(List.range N).map fun i=>match m.get i with|some v=>v.aH|none=>.any
theorem wJ{N:Nat}{m:Fm}:(uD N m).length=N:=by simp[uD]
theorem CO{N:Nat}{m:Fm}(hN: ∀ i v,m.get i=some v->i<N):Rp m (uD N m):=by
 intro i v q
 simp only[uD,List.getElem?_map,List.getElem?_range (hN i v q),Option.map_some,q]
theorem Q8{Z:Nat->Prop}{h:Hp}: ∀ {a b:List T},a.length=b.length->(∀ (i:Nat) (t u:T),a[i]? =some t->b[i]? =some u->T.sub Z h t u)->T.cu Z h a b:=by
 intro a
 induction a with
 |nil=>intro b hl _; cases b with|nil=>trivial|cons _ _=>simp at hl
 |cons t a ih =>
  intro b hl H
  cases b with
  |nil=>simp at hl
  |cons u b=>exact⟨H 0 t u rfl rfl,ih (by simpa using hl) fun i t u h1 h2=>H (i+1) t u (by simpa using h1) (by simpa using h2)⟩
theorem Q9{Z:Nat->Prop}{h:Hp}{t:T}:T.sub Z h .any t:=by cases t<;>simp[T.sub]
theorem WQ{N:Nat}{m0 m:Fm}{fr:List T}{Z:Nat->Prop}{h:Hp}(hl:fr.length=N)(R:Rp m fr)(hs: ∀ i v,m0.get i=some v-> ∃ u,m.get i=some u/\v.aH=u.aH):T.cu Z h (uD N m0) fr:=by
 refine Q8 (by rw[wJ,hl]) fun i t u h1 h2=>?_
 simp only[uD,List.getElem?_map] at h1
 have hi:i<N:=by
  rcases Nat.lt_or_ge i N with h|h
  ·exact h
  ·rw[List.getElem?_eq_none (by simpa using h)] at h1; cases h1
 rw[List.getElem?_range hi] at h1
 simp only[Option.map_some,Option.some.injEq] at h1
 split at h1
 ·rename_i v hv
  obtain⟨w,hw,e⟩:=hs i v hv
  have:=R i w hw
  rw[h2] at this
  simp only[Option.some.injEq] at this
  subst h1; rw[this,e]; exact aC _
 ·subst h1; exact Q9
theorem CP{N nx:Nat}{m:Fm}(hg: ∀ i v,m.get i=some v->T.lt nx v.aH=true):T.aN (· <nx) (uD N m):=by
 rw[dw]
 intro t ht
 simp only[uD,List.mem_map] at ht
 obtain⟨i,_,e⟩:=ht
 split at e
 ·rename_i v hv; subst e; exact Hg (hg i v hv)
 ·subst e; simp[T.ids]
def OV.good(nx:Nat):OV->Bool
 | .row _ k r x=>(match r with| .nil=>true|r=>Nat.beq r.kd k)&&Gy k x&&T.Jh nx (V.aS x)&& !(Nat.beq k fF)
 | .box _ k v=>Gy k [v]&&T.lt nx v.aH&& !(Nat.beq k fF)
 | .map _ _ x=>x.all fun e=>T.lt nx e.2.aH
def qP(nx:Nat):Hz->Bool
 |[]=>true
 |(i,some o)::r=>Nat.blt i nx&&o.good nx&&qP nx r
 |(_,none)::r=>qP nx r
theorem rQ{n:Nat}: ∀ {l:List T},T.Jh n l=true->T.aN (· <n) l:=by
 intro l
 induction l with
 |nil=>intro _; trivial
 |cons t l ih =>
  intro q
  simp only[T.Jh,Bool.and_eq_true] at q
  exact⟨Hg q.1,ih q.2⟩
theorem Rw.ids{M:Nat->Prop}(r:Rw):T.aN M r.aS:=by
 rw[dw]
 intro t ht
 cases r<;>simp only[Rw.aS,List.mem_map,List.not_mem_nil] at ht<;>obtain⟨x,_,rfl⟩:=ht<;>simp[eS,T.ids,T.aN,PS,NH,FH,PU,kT,fU]
theorem Rw.kds{r:Rw}: ∀ t∈r.aS,t.kd=r.kd:=by
 intro t ht
 cases r<;>simp only[Rw.aS,List.mem_map,List.not_mem_nil] at ht<;>obtain⟨x,_,rfl⟩:=ht<;>rfl
theorem YP{k:Nat}{l:List V}(q:Gy k l=true): ∀ t∈V.aS l,t.kd=k:=by
 intro t ht
 rw[nP,List.mem_map] at ht
 obtain⟨v,hv,rfl⟩:=ht
 exact V.KT (Fp q v hv)
theorem Rf{k:Nat}{l:List T}(hk:k≠fF)(h: ∀ t∈l,t.kd=k):QU k l=true:=by
 unfold QU
 have:(k==1000000007)=false:=by simpa using hk
 rw[this]; simp only[cond_false,List.all_eq_true,beq_iff_eq]; exact h
theorem OV.CQ{nx:Nat}{o:OV}(q:o.good nx=true):T.aN (· <nx) o.aG.l/\QU o.aG.k o.aG.l=true:=by
 cases o with
 |row ty k r x =>
  simp only[OV.good,Bool.and_eq_true,Bool.not_eq_true'] at q
  obtain⟨⟨⟨q1,q2⟩,q3⟩,q4⟩:=q
  simp only[OV.aG]
  refine⟨dY.2 ⟨r.ids,rQ q3⟩,Rf (Nat.ne_of_beq_eq_false q4) fun t ht=>?_⟩
  rcases List.mem_append.1 ht with ht|ht
  ·split at q1
   ·cases ht
   ·rw[<- jo q1]; exact Rw.kds t ht
  ·exact YP q2 t ht
 |box ty k v =>
  simp only[OV.good,Bool.and_eq_true,Bool.not_eq_true'] at q
  obtain⟨⟨q1,q2⟩,q3⟩:=q
  simp only[OV.aG]
  refine⟨⟨Hg q2,trivial⟩,Rf (Nat.ne_of_beq_eq_false q3) fun t ht=>?_⟩
  rw[List.mem_singleton] at ht; subst ht; exact Ue q1
 |map ty es x =>
  simp only[OV.good,List.all_eq_true] at q
  simp only[OV.aG]
  refine⟨?_,?_⟩
  ·rw[dw]
   intro t ht
   rcases List.mem_append.1 ht with ht|ht
   ·rw[List.mem_map] at ht
    obtain⟨e,_,rfl⟩:=ht
    simp[vJ,T.ids,T.aN]
   ·rw[List.mem_map] at ht
    obtain⟨e,he,rfl⟩:=ht
    simp only[EL,T.ids,T.aN]; exact⟨trivial,Hg (q e he),trivial⟩
  ·unfold QU
   simp[fF,iw,vJ,EL]
theorem kG{nx:Nat}: ∀ {h:Hz},qP nx h=true->HpG nx h.aj:=by
 intro h
 induction h with
 |nil=>intro _ i ob e; simp[Hz.aj,Hz.get] at e
 |cons p r ih =>
  obtain⟨j,o⟩:=p
  intro q
  rw[aZ]
  cases o with
  |none=>exact Yz (ih q)
  |some o =>
   simp only[qP,Bool.and_eq_true] at q
   obtain⟨g1,g2⟩:=OV.CQ q.1.2
   exact Yy (ih q.2) (by simpa using q.1.1) g1 g2
def yR(nx:Nat):Hz->Hz
 |[]=>[]
 |(i,o)::r=>bif Nat.blt i nx then(i,o)::yR nx r else yR nx r
theorem Ic{nx i:Nat}(hi:i<nx): ∀ {h:Hz},(yR nx h).get i=h.get i:=by
 intro h
 induction h with
 |nil=>rfl
 |cons p r ih =>
  obtain⟨j,o⟩:=p
  simp only[yR]
  cases hb:Nat.blt j nx with
  |true=>simp only[cond_true,Hz.get]; cases Nat.beq j i<;>simp[ih]
  |false =>
   simp only[cond_false,Hz.get]
   have hne:Nat.beq j i=false:=by
    cases e:Nat.beq j i with
    |false=>rfl
    |true =>
     have:=jo e; subst this
     have:Nat.blt j nx=true:=by simpa using hi
     rw[this] at hb; cases hb
   rw[hne]; exact ih
structure acB{ι:Type}(inv:ι->Prop)(μ:ι->Nat)(vars:ι->Fm)(base:Fm)(hs:Hz)(nx:Nat)(i:ι)(m:Fm)(h:Hz):Prop where
 ok: ∃ j,inv j/\μ j<μ i/\JG m (vars j)/\JG m base/\yR nx h=hs
theorem get_append{a b:Fm}{i:Nat}{v:V}(q:Fm.get i (a++b)=some v):a.get i=some v\/Fm.get i b=some v:=by
 induction a with
 |nil=>exact .inr q
 |cons p r ih =>
  simp only[List.cons_append,Fm.get] at q ⊢
  cases hb:Nat.beq p.1 i with
  |true=>rw[hb] at q; exact .inl q
  |false=>rw[hb] at q; exact ih q
theorem aU.same{N pn nx:Nat}{b:dR}{Q:Qz}{m:Fm}{h:Hz}{ι:Type}(live:List Nat)(vars:ι->Fm)(inv:ι->Prop)(μ:ι->Nat)(i0:ι)(hd:oH N b=true)(hp:pn<=nx)(hg:qP nx h=true)(hv: ∀ i,WO nx N (vars i)=true)(h0:inv i0)(he:JG m (vars i0))
  (H:Ib m live [] fun base=>WO nx N base=true/\ ∀ i,inv i->az P N pn b (fun e m' h' n'=>match e with
   | .normal=>acB inv μ vars base (yR nx h) nx i m' h'
   |e=>Q e m' h' n') (vars i++base) h nx):aU P N pn b Q m h nx:=by
 obtain⟨base,⟨hb,H⟩,hbm⟩:=zy H (fun i v q=>by cases q)
 refine⟨fun fr hl R=>?_⟩
 have hall: ∀ i j v,Fm.get j (vars i++base)=some v->T.lt nx v.aH=true/\j<N:=fun i j v q=>by
  rcases get_append q with q|q
  ·exact uY (hv i) q
  ·exact uY hb q
 have wk: ∀ (i:ι) (m':Fm) (h':Hz) (s':AS),s'.fr.length=N->Rp m' s'.fr->s'.hp=h'.aj->s'.pin=pn->JG m' (vars i)->(∀ j v,Fm.get j base=some v-> ∃ u,m'.get j=some u/\v.aH=u.aH)->yR nx h'=yR nx h ->
   Wk ⟨uD N (vars i++base),h.aj,nx,pn⟩ s':=by
  intro i m' h' s' a1 a2 a3 a4 a5 a6 a7
  obtain⟨fr',hp',nx',pn'⟩:=s'
  simp only at a1 a2 a3 a4
  subst a3; subst a4
  refine Wk.same (WQ a1 a2 fun j v q=>?_) (CP fun j v q=>(hall i j v q).1) (kG hg) (fun j hj=>?_) hp
  ·rcases get_append q with q|q
   ·exact JH a5 q
   ·exact a6 j v q
  ·simp only[Hz.aj]; rw[<- Ic hj,a7,Ic hj]
 refine xJ.rule (fun i=>⟨uD N (vars i++base),h.aj,nx,pn⟩) inv μ i0 h0 (wk i0 m h _ hl R rfl rfl he (fun j v q=>⟨v,hbm j v q,rfl⟩) rfl) ?_
 intro i hi
 have:=mP (P:=P) (N:=N) (pn:=pn) (s:=⟨uD N (vars i++base),h.aj,nx,pn⟩) hd wJ (CO fun j v q=>(hall i j v q).2) rfl rfl (H i hi)
 refine jB ?_ this
 rintro e s' ⟨m',h',a1,a2,a3,a4,a5⟩
 cases e with
 |normal =>
  obtain⟨j,b1,b2,b3,b4,b5⟩:=a5.ok
  exact⟨j,⟨b1,b2⟩,wk j m' h' s' a1 a2 a3 a4 b3 (fun j v q=>JH b4 q) b5⟩
 |exit j=>exact⟨m',h',a1,a2,a3,a4,a5⟩
 |ret=>exact⟨m',h',a1,a2,a3,a4,a5⟩
end
def sq(l:List aP)(c:dR):dR:=.seq (.reg false l) c
def qm(d x:Nat):aP:=o d (.mv (.t x))
def bJ(d:Nat)(n:Int):aP:=o d (.mv (.c (.int n)))
def qv(d:Nat)(b:Bool):aP:=o d (.mv (.c (.bool b)))
def qb(op:BinOp)(d x y:Nat):aP:=o d (.bin op (.t x) (.t y))
def qk(op:BinOp)(d x:Nat)(n:Int):aP:=o d (.bin op (.t x) (.c (.int n)))
def ql(d k x:Nat):aP:=o d (.ld k (.t x))
def qf(d a k x:Nat):aP:=o d (.fa a k (.t x))
def qi(d k x y:Nat):aP:=o d (.ia k (.t x) (.t y))
def qn(d x:Nat):aP:=o d (.len false (.t x))
def qo(d a b:Nat):aP:=o d (.pick (.t a) (.c (.bool true)) (.t b))
def qa(d a b:Nat):aP:=o d (.pick (.t a) (.t b) (.c (.bool false)))
def qx(d x:Nat):aP:=o d (.not (.t x))
def qe(d x i:Nat):aP:=o d (.ex (.t x) i)
def qB(d:Nat)(ty:TypeId)(k x:Nat):aP:=o d (.box ty k (.t x))
def qs(k x y:Nat):aP:=ov (.st k (.t x) (.t y))
def qC(d:Nat)(f:FuncId)(l:List Nat):aP:=o d (.call f (l.map .t))
def aP.w(q:aP)(g:Nat):aP:=⟨q.d,q.op,some (g,true),q.fl,q.ne,q.ad⟩
def aP.n(q:aP)(g:Nat):aP:=⟨q.d,q.op,some (g,false),q.fl,q.ne,q.ad⟩
theorem Body.of{P:Program}{f:FuncId}{fn:Func}{ac:dR}{rs:List RV}{nt:Nat}(h1:P.funcs[f]? =some fn)(h2:(fn.body.isSome,comp P (fn.body.getD .skip),jA P fn.results.toList,fn.ntmps,oH nt ac)=(true,some ac,some rs,nt,true))(h3:callable P f):Body P f ac rs nt:=by
 simp only[Prod.mk.injEq] at h2
 obtain⟨a,b,c,d,e⟩:=h2
 obtain⟨cd,hc⟩:=Option.isSome_iff_exists.1 a
 rw[hc] at b
 exact⟨⟨fn,cd,h1,hc,b,c,d⟩,h3,e⟩
section
variable {P:Program}
def bG(a b:List T):Prop:= ∀ (Z:Nat->Prop) (h:Hp),T.cu Z h a b
theorem bG.refl(a:List T):bG a a:=fun _ _=>bP a
def OV.Io:OV->Bool
 | .row _ _ _ x=>V.dh x
 | .box _ _ v=>v.free
 | .map _ _ x=>V.dh (x.map (·.2))
theorem OV.Fq{o:OV}(q:o.Io=true):T.aN (fun _=>False) o.aG.l:=by
 cases o with
 |row ty k r x=>exact dY.2 ⟨r.ids,bV (V.gY x q)⟩
 |box ty k v=>exact⟨fM (V.lX v q),trivial⟩
 |map ty es x =>
  simp only[OV.Io] at q
  refine dY.2 ⟨dw.2 fun t ht=>?_,dw.2 fun t ht=>?_⟩
  ·obtain⟨e,_,rfl⟩:=List.mem_map.1 ht
   simp[vJ,T.ids,T.aN]
  ·obtain⟨e,he,rfl⟩:=List.mem_map.1 ht
   simp only[EL,T.ids,T.aN]
   refine⟨trivial,?_,trivial⟩
   have:=bV (V.gY _ q)
   rw[dw] at this
   exact this _ (by rw[nP,List.map_map]; exact List.mem_map.2 ⟨e,he,rfl⟩)
theorem OV.Bo{o:OV}(q:o.Io=true)(ρ:Nat->Nat):T.bY ρ o.aG.l=o.aG.l:=rV _ (OV.Fq q)
def oL:List (Nat×OV)->List Nat->Nat->Nat
 |(c,_)::r,n::s,i=>bif Nat.beq i c then n else oL r s i
 |_,_,i=>i
def FV(n:Nat):List Nat->Bool
 |[]=>true
 |m::r=> !(Nat.beq n m)&&FV n r
def Uh(nx pn:Nat)(h:Hz):List (Nat×OV)->List Nat->Prop
 |[],[]=>True
 |(c,o)::r,n::s=>(Nat.blt c nx=true/\(Nat.blt c pn=true->n=c)/\FV n s=true/\o.good nx=true/\o.Io=true /\
   ∃ o',h.get n=some o'/\o'.aG.ty=o.aG.ty/\o'.aG.k=o.aG.k/\bG o.aG.l o'.aG.l)/\Uh nx pn h r s
 |_,_=>False
def yS:List (Nat×OV)->List Nat->List (Nat×Nat×Ob)
 |(c,o)::r,n::s=>(c,n,o.aG)::yS r s
 |_,_=>[]
def Lp(l:List (Nat×OV)):Hz:=l.map fun p=>(p.1,some p.2)
theorem Ie: ∀ {l:List (Nat×OV)} {s:List Nat} {i:Nat},AQ (yS l s) i=oL l s i:=by
 intro l
 induction l with
 |nil=>intro s i; cases s<;>rfl
 |cons p r ih =>
  obtain⟨c,o⟩:=p
  intro s i
  cases s with
  |nil=>rfl
  |cons n s =>
   simp only[yS,AQ,oL]
   rw[ih]
   cases hb:Nat.beq i c with
   |true=>rw[if_pos (jo hb)]; rfl
   |false=>rw[if_neg (Nat.ne_of_beq_eq_false hb)]; rfl
theorem YQ{nx pn:Nat}{h:Hz}: ∀ {l:List (Nat×OV)} {s:List Nat},Uh nx pn h l s->hpL (yS l s)=(Lp l).aj:=by
 intro l
 induction l with
 |nil=>intro s q; cases s with
  |nil=>rfl
  |cons _ _=>exact q.elim
 |cons p r ih =>
  obtain⟨c,o⟩:=p
  intro s q
  cases s with
  |nil=>exact q.elim
  |cons n s =>
   simp only[yS,hpL]
   have e:Lp ((c,o)::r)=(c,some o)::Lp r:=rfl
   rw[e,aZ,ih q.2]; rfl
theorem NU{n:Nat}: ∀ {l:List (Nat×OV)} {s:List Nat},FV n s=true-> ¬ KJ (yS l s) n:=by
 intro l
 induction l with
 |nil=>intro s _ q; cases s<;>exact q
 |cons p r ih =>
  obtain⟨c,o⟩:=p
  intro s hs q
  cases s with
  |nil=>exact q
  |cons m s =>
   simp only[FV,Bool.and_eq_true] at hs
   simp only[yS,KJ] at q
   rcases q with q|q
   ·rw[q,Nat.beq_refl] at hs; cases hs.1
   ·exact ih hs.2 q
theorem YR{nx pn:Nat}{h:Hz}{Z:Nat->Prop}{ρ:Nat->Nat}: ∀ {l:List (Nat×OV)} {s:List Nat},Uh nx pn h l s->Zw Z ρ h.aj nx pn (yS l s):=by
 intro l
 induction l with
 |nil=>intro s _; cases s<;>trivial
 |cons p r ih =>
  obtain⟨c,o⟩:=p
  intro s q
  cases s with
  |nil=>exact q.elim
  |cons n s =>
   obtain⟨⟨q1,q2,q3,q4,q5,o',q6,q7,q8,q9⟩,q⟩:=q
   obtain⟨g1,g2⟩:=OV.CQ q4
   refine⟨⟨Nat.blt_eq.mp q1,fun hc=>q2 (Nat.blt_eq.mpr hc),NU q3,g1,g2,o'.aG.l,?_,?_⟩,ih q⟩
   ·have:=aJ q6
    show h.aj n=some ⟨o.aG.ty,o.aG.k,o'.aG.l⟩
    rw[this,<- q7,<- q8]
   ·show T.cu Z h.aj (T.bY ρ o.aG.l) o'.aG.l
    rw[OV.Bo q5]; exact q9 _ _
def oI(ρ:Nat->Nat)(m':Fm):Fm->Prop
 |[]=>True
 |(i,v)::r=>(∃ u,m'.get i=some u/\bG [v.aH.ren ρ] [u.aH])/\oI ρ m' r
theorem sD{ρ:Nat->Nat}{m':Fm}: ∀ {m0:Fm},oI ρ m' m0-> ∀ {i:Nat} {v:V},m0.get i=some v-> ∃ u,m'.get i=some u/\bG [v.aH.ren ρ] [u.aH]:=by
 intro m0
 induction m0 with
 |nil=>intro _ i v q; cases q
 |cons p r ih =>
  obtain⟨j,w⟩:=p
  intro hs i v q
  simp only[Fm.get] at q
  cases hb:Nat.beq j i with
  |true=>rw[hb] at q; cases q; rw[<- jo hb]; exact hs.1
  |false=>rw[hb] at q; exact ih hs.2 q
theorem bG.eq{a b:T}(h:a=b):bG [a] [b]:=by subst h; exact .refl _
theorem Ec{N:Nat}{m0 m:Fm}{fr:List T}{Z:Nat->Prop}{h:Hp}{ρ:Nat->Nat}(hl:fr.length=N)(R:Rp m fr)(hs: ∀ i v,m0.get i=some v-> ∃ u,m.get i=some u/\bG [v.aH.ren ρ] [u.aH]):T.cu Z h (T.bY ρ (uD N m0)) fr:=by
 refine Q8 (by rw[qW,wJ,hl]) fun i t u h1 h2=>?_
 have e: ∀ l:List T,T.bY ρ l=l.map (T.ren ρ):=by
  intro l
  induction l with
  |nil=>rfl
  |cons a l ih=>simp only[T.bY,List.map_cons,ih]
 rw[e] at h1
 simp only[uD,List.getElem?_map] at h1
 have hi:i<N:=by
  rcases Nat.lt_or_ge i N with h|h
  ·exact h
  ·rw[List.getElem?_eq_none (by simpa using h)] at h1; cases h1
 rw[List.getElem?_range hi] at h1
 simp only[Option.map_some,Option.some.injEq] at h1
 split at h1
 ·rename_i v hv
  obtain⟨w,hw,e⟩:=hs i v hv
  have:=R i w hw
  rw[h2] at this
  simp only[Option.some.injEq] at this
  subst h1; rw[this]; exact(e Z h).1
 ·subst h1; exact Q9
structure acC{ι:Type}(inv:ι->Prop)(μ:ι->Nat)(vars:ι->Fm)(objs:ι->List (Nat×OV))(base:Fm)(nx pn:Nat)(i:ι)(m:Fm)(h:Hz):Prop where
 ok: ∃ j nw,inv j/\μ j<μ i/\oI (oL (objs j) nw) m (vars j)/\oI (oL (objs j) nw) m base/\Uh nx pn h (objs j) nw
theorem aU.objs{N pn nx0:Nat}(nx:Nat){b:dR}{Q:Qz}{m:Fm}{h:Hz}{ι:Type}(live:List Nat)(vars:ι->Fm)(objs:ι->List (Nat×OV))(inv:ι->Prop)(μ:ι->Nat)(i0:ι)(Ot:List Nat)(hd:oH N b=true)(hp:pn<=nx)(hv: ∀ i,WO nx N (vars i)=true)(h0:inv i0)
  (he:oI (oL (objs i0) Ot) m (vars i0)) (ho:Uh nx pn h (objs i0) Ot)
  (H:Ib m live [] fun base=>oI (oL (objs i0) Ot) m base/\WO nx N base=true/\ ∀ i,inv i->az P N pn b (fun e m' h' n'=>match e with
   | .normal=>acC inv μ vars objs base nx pn i m' h'
   |e=>Q e m' h' n') (vars i++base) (Lp (objs i)) nx):aU P N pn b Q m h nx0:=by
 obtain⟨base,⟨hbs,hb,H⟩,hbm⟩:=zy H (fun i v q=>by cases q)
 refine⟨fun fr hl R=>?_⟩
 have hall: ∀ i j v,Fm.get j (vars i++base)=some v->T.lt nx v.aH=true/\j<N:=fun i j v q=>by
  rcases get_append q with q|q
  ·exact uY (hv i) q
  ·exact uY hb q
 have wk: ∀ (i:ι) (nw:List Nat) (m':Fm) (h':Hz) (s':AS),s'.fr.length=N->Rp m' s'.fr->s'.hp=h'.aj->s'.pin=pn->oI (oL (objs i) nw) m' (vars i)->oI (oL (objs i) nw) m' base->Uh nx pn h' (objs i) nw ->
   Wk ⟨uD N (vars i++base),(Lp (objs i)).aj,nx,pn⟩ s':=by
  intro i nw m' h' s' a1 a2 a3 a4 a5 a6 a7
  obtain⟨fr',hp',nx',pn'⟩:=s'
  simp only at a1 a2 a3 a4
  subst a3; subst a4
  rw[<- YQ a7]
  refine Wk.objs (yS (objs i) nw) (Ec a1 a2 fun j v q=>?_) (CP fun j v q=>(hall i j v q).1) hp (YR a7)
  have e:AQ (yS (objs i) nw)=oL (objs i) nw:=funext fun _=>Ie
  rw[e]
  rcases get_append q with q|q
  ·exact sD a5 q
  ·exact sD a6 q
 refine xJ.rule (fun i=>⟨uD N (vars i++base),(Lp (objs i)).aj,nx,pn⟩) inv μ i0 h0 (wk i0 Ot m h _ hl R rfl rfl he hbs ho) ?_
 intro i hi
 have:=mP (P:=P) (N:=N) (pn:=pn) (s:=⟨uD N (vars i++base),(Lp (objs i)).aj,nx,pn⟩) hd wJ (CO fun j v q=>(hall i j v q).2) rfl rfl (H i hi)
 refine jB ?_ this
 rintro e s' ⟨m',h',a1,a2,a3,a4,a5⟩
 cases e with
 |normal =>
  obtain⟨j,nw,b1,b2,b3,b4,b5⟩:=a5.ok
  exact⟨j,⟨b1,b2⟩,wk j nw m' h' s' a1 a2 a3 a4 b3 b4 b5⟩
 |exit j=>exact⟨m',h',a1,a2,a3,a4,a5⟩
 |ret=>exact⟨m',h',a1,a2,a3,a4,a5⟩
theorem aU.nil{N pn nx:Nat}{b:dR}{Q:Qz}{m:Fm}{h:Hz}(d ty k:Nat){k':Nat}{r:Rw}(hd:m.get d=some (.row k' true r))(hr:r.aS=[])(hk:xU k=true)(hN:Nat.blt d N=true)
  (H:aU P N pn b Q ((d,.own nx)::m) ((nx,some (.row ty k .nil []))::h) (nx+1)):aU P N pn b Q m h nx:=by
 refine⟨fun fr hl R=>?_⟩
 have hdl:d<fr.length:=by rw[hl]; exact Nat.blt_eq.mp hN
 have hget:fr.getD d .any= .sl k' true []:=by
  rw[R.getD hd]; simp only[V.aH,hr]
 have H':=H.ok (fr.set d (.own nx)) (by simpa using hl) (fun i v q=>by
  simp only[Fm.get] at q
  cases hb:Nat.beq d i with
  |true=>rw[hb] at q; cases q; rw[<- jo hb]; simp[hdl,V.aH]
  |false =>
   rw[hb] at q
   rw[List.getElem?_set_ne (Nat.ne_of_beq_eq_false hb)]; exact R i v q)
 have e:Hz.aj ((nx,some (.row ty k .nil []))::h)=upd h.aj nx (some ⟨ty,k,[]⟩):=by rw[aZ]; rfl
 rw[e] at H'
 obtain⟨I,μ,⟨s0,w0,i0⟩,round⟩:=H'
 exact⟨I,μ,⟨s0,Wk.Yw d ty k hget hk w0,i0⟩,round⟩
structure fV(h0:Hz)(n:Nat)(post:T->Hp->Prop)(v:V)(h:Hz):Prop where
 ok: ∃ (Z:Nat->Prop) (ρ:Nat->Nat) (t:T) (h':Hp),post t h'/\T.sub Z h.aj (t.ren ρ) v.aH/\(∀ i ob,h' i=some ob-> ∃ ob',h.aj (ρ i)=some ob'/\ ¬ Z (ρ i)/\FB Z h.aj ρ ob ob') /\
  (∀ i j,(h' i).isSome=true->(h' j).isSome=true->ρ i=ρ j->i=j)/\t.ids (fun i=>(h0.aj i).isSome=true\/i=n)/\lg (fun i=>(h0.aj i).isSome=true\/i=n) h' /\
  ∀ i,(h0.aj i).isSome=true->(h' i).isSome=true->ρ i=i
def ZC(h0:Hz)(n:Nat)(post:T->Hp->Prop)(rs:List RV):Qz
 | .exit _,_,_,_=>False
 |_,m,h,_=>match resV m h rs with
  |some v=>v.seq fun v=>fV h0 n post v h
  |none=>False
theorem lV.of{f:FuncId}{ac:dR}{rs:List RV}{nt nx n:Nat}{args:List V}{h0:Hz}{post:T->Hp->Prop}(B:Body P f ac rs nt)(hn:args.length<=nt)(hin: ∃ t h',post t h')(ha:T.Jh nx (V.aS args)=true)(hg:qP nx h0=true)
  (H:az P nt nx ac (ZC h0 n post rs) (xF 0 args) h0 nx):aF P f (V.aS args) h0.aj n post:=by
 obtain⟨fn,c,h1,h2,h3,h4,h5⟩:=B.ex
 have hG:=kG hg
 refine aF.uU (nx:=nx) h1 h2 h3 h4 B.cl h5 hin (rQ ha) (fun i ob hi=>⟨(hG i ob hi).1,(hG i ob hi).2.1⟩) ?_
 have:=mP (P:=P) (N:=nt) (pn:=nx) (s:=⟨V.aS args++List.replicate (nt-(V.aS args).length) T.un,h0.aj,nx,nx⟩) B.dst (by simp[gy]; omega) uo rfl rfl H
 refine jB ?_ this
 rintro e s ⟨m,h,a1,a2,a3,a4,a5⟩
 have key: ∀ {m h},Rp m s.fr->s.hp=Hz.aj h->(match resV m h rs with|some v=>v.seq fun v=>fV h0 n post v h|none=>False)-> ∃ s1,DN s1 s/\Ret h0.aj n post rs s1:=by
  intro m h a2 a3 q
  split at q
  ·rename_i v hv
   rw[V.seq_eq] at q
   obtain⟨b1,b2⟩:=CJ a2 a3 hv
   obtain⟨Z,ρ,t,h',c1,c2,c3,c4,c5,c6,c7⟩:=q.ok
   exact⟨s,.refl _,b1,Z,ρ,t,h',c1,by rw[b2,a3]; exact c2,by rw[a3]; exact c3,c4,c5,c6,c7⟩
  ·exact q.elim
 cases e with
 |exit j=>exact a5.elim
 |normal=>exact key a2 a3 a5
 |ret=>exact key a2 a3 a5
theorem fV.one{h0 h:Hz}{n c j:Nat}{post:T->Hp->Prop}{v:V}{o:OV}{t:T}(hj:h.get j=some o)(hg:o.good (j+1)=true)(hf:o.Io=true)(hc:(h0.get c).isSome=true->j=c)(hc':(h0.get c).isSome=true\/c=n)
  (ht:t.ids (fun i=>i=c)) (hv:bG [t.ren fun _=>j] [v.aH]) (hp:post t (Hz.aj [(c,some o)])):fV h0 n post v h:=by
 have hgood:=(OV.CQ hg).2
 have hM: ∀ i,i=c->(h0.aj i).isSome=true\/i=n:=by
  rintro i rfl
  rcases hc' with h|h
  ·left; simpa [Hz.aj] using h
  ·exact .inr h
 have hx: ∀ i ob,Hz.aj [(c,some o)] i=some ob->i=c/\ob=o.aG:=fun i ob hi=>by
  simp only[Hz.aj,Hz.get] at hi
  cases hb:Nat.beq c i with
  |true=>rw[hb] at hi; simp only[cond_true,Option.map_some,Option.some.injEq] at hi; exact⟨(jo hb).symm,hi.symm⟩
  |false=>rw[hb] at hi; simp at hi
 refine⟨fun i=>i≠j,fun _=>j,t,Hz.aj [(c,some o)],hp,(hv _ _).1,fun i ob hi=>?_,fun i i' hi hi' _=>?_,T.bI hM _ ht,fun i ob hi=>?_,fun i hi hi'=>?_⟩
 ·obtain⟨rfl,rfl⟩:=hx i ob hi
  refine⟨o.aG,aJ hj,by simp,rfl,rfl,?_,yM hgood⟩
  rw[OV.Bo hf]; exact bP _
 ·obtain⟨oi,hi⟩:=Option.isSome_iff_exists.1 hi
  obtain⟨oj,hi'⟩:=Option.isSome_iff_exists.1 hi'
  rw[(hx _ _ hi).1,(hx _ _ hi').1]
 ·obtain⟨rfl,rfl⟩:=hx i ob hi
  exact⟨hM _ rfl,T.ak (fun _ h=>h.elim) _ (OV.Fq hf)⟩
 ·obtain⟨oi,hi'⟩:=Option.isSome_iff_exists.1 hi'
  obtain⟨rfl,_⟩:=hx _ _ hi'
  exact hc (by simpa [Hz.aj] using hi)
theorem ah.heap{f:FuncId}{args:List V}{h:Hz}{n:Nat}{K:V->Hz->Prop}{KW:Nat->V->Hz->Prop}{post:T->Hp->Prop}(S:aF P f (V.aS args) h.aj n post)(hK: ∀ t hp,post t hp-> ∃ v h',t=v.aH/\hp=Hz.aj h'/\K v h'):ah P false none f args h n K KW :=
 ⟨.inl (S.mono fun t hp q=>by
  obtain⟨v,h',h1,h2,h3⟩:=hK t hp q
  exact⟨v,h',h1,h2,(fun e=>by cases e),h3⟩)⟩
end
section
variable {P:Program}
def LoopN(body:(ou->AS->Prop)->AS->Prop)(Q:ou->AS->Prop):Nat->AS->Prop
 |0,_=>False
 |k+1,s=>body (fun e s'=>match e with| .normal=>LoopN body Q k s'|e=>Q e s') s
open Classical in
theorem xJ.ofN{b:dR}{Q:ou->AS->Prop}{k:Nat}{s:AS}(h:LoopN (aw P b) Q k s):xJ (aw P b) Q s:=by
 let I:AS->Nat->Prop:=fun s n=>LoopN (aw P b) Q n s
 let μ:AS->Nat:=fun s=>if hh: ∃ n,I s n then Classical.choose (PV _ (Classical.choose_spec hh)) else 0
 have hμ: ∀ s,(∃ n,I s n)->I s (μ s)/\ ∀ k,I s k->μ s<=k:=by
  intro s hh
  have e:μ s=Classical.choose (PV _ (Classical.choose_spec hh)):=dif_pos hh
  rw[e]
  exact Classical.choose_spec (PV _ (Classical.choose_spec hh))
 refine⟨fun s=> ∃ n,I s n,μ,⟨s,⟨s,.refl _,.inl rfl⟩,k,h⟩,fun s hI=>?_⟩
 have h2:=(hμ s hI).1
 generalize hm:μ s=m at h2
 cases m with
 |zero=>exact h2.elim
 |succ m =>
  have h3:aw P b (fun e s'=>match e with| .normal=>LoopN (aw P b) Q m s'|e=>Q e s') s:=h2
  refine jB ?_ h3
  intro e s' q
  cases e with
  |normal=>exact⟨s',⟨s',.refl _,.inl rfl⟩,⟨m,q⟩,by have:=(hμ s' ⟨m,q⟩).2 m q; omega⟩
  |exit j=>exact q
  |ret=>exact q
def azN(P:Program)(N pn:Nat)(b:dR)(Q:Qz):Nat->Fm->Hz->Nat->Prop
 |0,_,_,_=>False
 |k+1,m,h,nx=>az P N pn b (fun e m' h' nx'=>match e with| .normal=>azN P N pn b Q k m' h' nx'|e=>Q e m' h' nx') m h nx
theorem aU.times{N pn nx:Nat}{b:dR}{Q:Qz}{m:Fm}{h:Hz}(k:Nat)(hd:oH N b=true)(H:azN P N pn b Q k m h nx):aU P N pn b Q m h nx:=by
 refine⟨fun fr hl R=>xJ.ofN (k:=k) ?_⟩
 have key: ∀ (k:Nat) {m:Fm} {h:Hz} {nx:Nat} {s:AS},s.fr.length=N->Rp m s.fr->s.hp=h.aj->s.pin=pn->s.nx=nx->azN P N pn b Q k m h nx->LoopN (aw P b) (Lift N pn Q) k s:=by
  intro k
  induction k with
  |zero=>intro m h nx s _ _ _ _ _ H; exact H.elim
  |succ k ih =>
   intro m h nx s a1 a2 a3 a4 a5 H
   subst a5
   have:=mP (P:=P) (N:=N) (pn:=pn) (s:=s) hd a1 a2 a3 a4 H
   show aw P b _ s
   refine jB ?_ this
   rintro e s' ⟨m',h',b1,b2,b3,b4,b5⟩
   cases e with
   |normal=>exact ih b1 b2 b3 b4 rfl b5
   |exit j=>exact⟨m',h',b1,b2,b3,b4,b5⟩
   |ret=>exact⟨m',h',b1,b2,b3,b4,b5⟩
 exact key k hl R rfl rfl rfl H
end
section
variable {P:Program}
end
section
variable {P:Program}
theorem kL{o:OV}(q:o.Io=true)(ρ:Nat->Nat):o.aG.ren ρ=o.aG:=by
 have:=OV.Bo q ρ
 unfold Ob.ren
 rw[this]
theorem rE{j:Nat}{o:OV}{i:Nat}:Hz.aj [(j,some o)] i=if i=j then some o.aG else none:=by
 simp only[Hz.aj,Hz.get]
 cases hb:Nat.beq j i with
 |true=>rw[if_pos (jo hb).symm]; rfl
 |false=>rw[if_neg (fun e=>Nat.ne_of_beq_eq_false hb e.symm)]; rfl
theorem bZ{j i:Nat}{o:Option OV}{h:Hz}:Hz.aj ((j,o)::h) i=if i=j then o.map OV.aG else h.aj i:=by
 simp only[Hz.aj,Hz.get]
 cases hb:Nat.beq j i with
 |true=>rw[if_pos (jo hb).symm]; rfl
 |false=>rw[if_neg (fun e=>Nat.ne_of_beq_eq_false hb e.symm)]; rfl
theorem ah.Dq{f:FuncId}{ts args:List V}{h:Hz}{i n:Nat}{o0:OV}{K:V->Hz->Prop}{KW:Nat->V->Hz->Prop}{post:T->Hp->Prop}(H:aF P f (V.aS ts) (Hz.aj [(0,some o0)]) 1 post)
  (ha:T.bY (fun _=>i) (V.aS ts)=V.aS args) (hid:T.Jh 1 (V.aS ts)=true) (hg:o0.good 1=true) (hf:o0.Io=true) (hi:h.get i=some o0) (hn:h.get n=none)
  (hK: ∀ t hp,post t hp->(∃ v o,hp=Hz.aj [(0,some o)]/\o.Io=true/\t.ren (nameAt (fun _=>i) 1 n)=v.aH/\K v ((i,some o)::h)) \/
   (∃ v o,hp=Hz.aj [(1,some o)]/\o.Io=true/\t.ren (nameAt (fun _=>i) 1 n)=v.aH/\K v ((n,some o)::(i,none)::h))):ah P false none f args h n K KW:=by
 have hin:i≠n:=by rintro rfl; rw[hi] at hn; cases hn
 have hl0: ∀ j:Nat,j<1->(Hz.aj [(0,some o0)] j).isSome=true:=fun j hj=>by rw[rE,if_pos (by omega)]; rfl
 have hsome: ∀ j,(Hz.aj [(0,some o0)] j).isSome=true->j=0:=fun j hj=>by
  rw[rE] at hj; split at hj
  ·assumption
  ·cases hj
 refine ah.heap (post:=fun t' h'=> ∃ t h1,post t h1/\t'=t.ren (nameAt (fun _=>i) 1 n)/\h'=placed (fun _=>i) 1 n (Hz.aj [(0,some o0)]) h.aj h1) ?_ ?_
 ·rw[<- ha]
  refine aF.place H (T.ak hl0 _ (rQ hid)) (fun j ob hj=>?_) (by rw[rE]; rfl) (fun j ob hj=>?_) (fun a b h1 h2 _=>by rw[hsome a h1,hsome b h2])
  ·rw[rE] at hj; split at hj
   ·cases hj
    have hz:T.aN (fun _=>False) o0.aG.l:=OV.Fq hf
    exact⟨T.ak (fun _ h=>h.elim) _ hz,(OV.CQ hg).2⟩
   ·cases hj
  ·rw[rE] at hj; split at hj
   ·cases hj
    rw[kL hf]; exact aJ hi
   ·cases hj
 ·rintro t' h' ⟨t,h1,hp,rfl,rfl⟩
  have inj: ∀ a b,((Hz.aj [(0,some o0)] a).isSome=true\/a=1)->((Hz.aj [(0,some o0)] b).isSome=true\/b=1)->nameAt (fun _=>i) 1 n a=nameAt (fun _=>i) 1 n b->a=b:=by
   intro a b ha hb e
   rcases ha with ha|rfl<;>rcases hb with hb|rfl
   ·rw[hsome a ha,hsome b hb]
   ·rw[hsome a ha] at e; exact absurd e hin
   ·rw[hsome b hb] at e; exact absurd e.symm hin
   ·rfl
  have at0: ∀ h1,placed (fun _=>i) 1 n (Hz.aj [(0,some o0)]) h.aj h1 i=(h1 0).map (Ob.ren (nameAt (fun _=>i) 1 n)):=fun h1=>mX (h:=h.aj) (h1:=h1) inj (i:=0) (.inl (hl0 0 (by decide)))
  have at1: ∀ h1,placed (fun _=>i) 1 n (Hz.aj [(0,some o0)]) h.aj h1 n=(h1 1).map (Ob.ren (nameAt (fun _=>i) 1 n)):=fun h1=>mX (h:=h.aj) (h1:=h1) inj (i:=1) (.inr rfl)
  have atO: ∀ h1 j,j≠i->j≠n->placed (fun _=>i) 1 n (Hz.aj [(0,some o0)]) h.aj h1 j=h.aj j:=fun h1 j g1 g2=>wY (by
   rintro⟨a,ha,e⟩
   rcases ha with ha|rfl
   ·rw[hsome a ha] at e; exact g1 e.symm
   ·exact g2 e.symm)
  rcases hK t h1 hp with ⟨v,o,rfl,ho,hv,hk⟩|⟨v,o,rfl,ho,hv,hk⟩
  ·refine⟨v,_,hv,?_,hk⟩
   funext j
   rw[bZ]
   by_cases e1:j=i
   ·subst e1; rw[if_pos rfl,at0,rE,if_pos rfl,Option.map_some,kL ho]; rfl
   ·rw[if_neg e1]
    by_cases e2:j=n
    ·subst e2; rw[at1,rE,if_neg (by decide)]; simp only[Hz.aj,hn]; rfl
    ·exact atO _ j e1 e2
  ·refine⟨v,_,hv,?_,hk⟩
   funext j
   rw[bZ,bZ]
   by_cases e2:j=n
   ·subst e2; rw[if_pos rfl,at1,rE,if_pos rfl,Option.map_some,kL ho]; rfl
   ·rw[if_neg e2]
    by_cases e1:j=i
    ·subst e1; rw[if_pos rfl,at0,rE,if_neg (by decide)]; rfl
    ·rw[if_neg e1]; exact atO _ j e1 e2
end
section
variable {P:Program}
def okR(ρ:Nat->Nat)(nx pn:Nat)(h:Hz):List (Nat×OV)->List Nat->Prop
 |[],[]=>True
 |(c,o)::r,n::s=>(Nat.blt c nx=true/\(Nat.blt c pn=true->n=c)/\FV n s=true/\o.good nx=true /\
   ∃ o',h.get n=some o'/\o'.aG.ty=o.aG.ty/\o'.aG.k=o.aG.k/\bG (T.bY ρ o.aG.l) o'.aG.l)/\okR ρ nx pn h r s
 |_,_=>False
theorem NV{ρ:Nat->Nat}{nx pn:Nat}{h:Hz}: ∀ {l:List (Nat×OV)} {s:List Nat},okR ρ nx pn h l s->hpL (yS l s)=(Lp l).aj:=by
 intro l
 induction l with
 |nil=>intro s q; cases s with
  |nil=>rfl
  |cons _ _=>exact q.elim
 |cons p r ih =>
  obtain⟨c,o⟩:=p
  intro s q
  cases s with
  |nil=>exact q.elim
  |cons n s =>
   simp only[yS,hpL]
   have e:Lp ((c,o)::r)=(c,some o)::Lp r:=rfl
   rw[e,aZ,ih q.2]; rfl
theorem NW{nx pn:Nat}{h:Hz}{Z:Nat->Prop}{ρ:Nat->Nat}: ∀ {l:List (Nat×OV)} {s:List Nat},okR ρ nx pn h l s->Zw Z ρ h.aj nx pn (yS l s):=by
 intro l
 induction l with
 |nil=>intro s _; cases s<;>trivial
 |cons p r ih =>
  obtain⟨c,o⟩:=p
  intro s q
  cases s with
  |nil=>exact q.elim
  |cons n s =>
   obtain⟨⟨q1,q2,q3,q4,o',q6,q7,q8,q9⟩,q⟩:=q
   obtain⟨g1,g2⟩:=OV.CQ q4
   refine⟨⟨Nat.blt_eq.mp q1,fun hc=>q2 (Nat.blt_eq.mpr hc),NU q3,g1,g2,o'.aG.l,?_,?_⟩,ih q⟩
   ·have:=aJ q6
    show h.aj n=some ⟨o.aG.ty,o.aG.k,o'.aG.l⟩
    rw[this,<- q7,<- q8]
   ·exact q9 _ _
structure acD{ι:Type}(inv:ι->Prop)(μ:ι->Nat)(vars:ι->Fm)(objs:ι->List (Nat×OV))(base:Fm)(nx pn:Nat)(i:ι)(m:Fm)(h:Hz):Prop where
 ok: ∃ j nw,inv j/\μ j<μ i/\oI (oL (objs j) nw) m (vars j)/\oI (oL (objs j) nw) m base/\okR (oL (objs j) nw) nx pn h (objs j) nw
theorem aU.Et{N pn nx0:Nat}(nx:Nat){b:dR}{Q:Qz}{m:Fm}{h:Hz}{ι:Type}(live:List Nat)(vars:ι->Fm)(objs:ι->List (Nat×OV))(inv:ι->Prop)(μ:ι->Nat)(i0:ι)(Ot:List Nat)(hd:oH N b=true)(hp:pn<=nx)(hv: ∀ i,WO nx N (vars i)=true)(h0:inv i0)
  (he:oI (oL (objs i0) Ot) m (vars i0)) (ho:okR (oL (objs i0) Ot) nx pn h (objs i0) Ot)
  (H:Ib m live [] fun base=>oI (oL (objs i0) Ot) m base/\WO nx N base=true/\ ∀ i,inv i->az P N pn b (fun e m' h' n'=>match e with
   | .normal=>acD inv μ vars objs base nx pn i m' h'
   |e=>Q e m' h' n') (vars i++base) (Lp (objs i)) nx):aU P N pn b Q m h nx0:=by
 obtain⟨base,⟨hbs,hb,H⟩,hbm⟩:=zy H (fun i v q=>by cases q)
 refine⟨fun fr hl R=>?_⟩
 have hall: ∀ i j v,Fm.get j (vars i++base)=some v->T.lt nx v.aH=true/\j<N:=fun i j v q=>by
  rcases get_append q with q|q
  ·exact uY (hv i) q
  ·exact uY hb q
 have wk: ∀ (i:ι) (nw:List Nat) (m':Fm) (h':Hz) (s':AS),s'.fr.length=N->Rp m' s'.fr->s'.hp=h'.aj->s'.pin=pn->oI (oL (objs i) nw) m' (vars i)->oI (oL (objs i) nw) m' base->okR (oL (objs i) nw) nx pn h' (objs i) nw ->
   Wk ⟨uD N (vars i++base),(Lp (objs i)).aj,nx,pn⟩ s':=by
  intro i nw m' h' s' a1 a2 a3 a4 a5 a6 a7
  obtain⟨fr',hp',nx',pn'⟩:=s'
  simp only at a1 a2 a3 a4
  subst a3; subst a4
  rw[<- NV a7]
  have e:AQ (yS (objs i) nw)=oL (objs i) nw:=funext fun _=>Ie
  refine Wk.objs (yS (objs i) nw) (Ec a1 a2 fun j v q=>?_) (CP fun j v q=>(hall i j v q).1) hp (by rw[e]; exact NW a7)
  rw[e]
  rcases get_append q with q|q
  ·exact sD a5 q
  ·exact sD a6 q
 refine xJ.rule (fun i=>⟨uD N (vars i++base),(Lp (objs i)).aj,nx,pn⟩) inv μ i0 h0 (wk i0 Ot m h _ hl R rfl rfl he hbs ho) ?_
 intro i hi
 have:=mP (P:=P) (N:=N) (pn:=pn) (s:=⟨uD N (vars i++base),(Lp (objs i)).aj,nx,pn⟩) hd wJ (CO fun j v q=>(hall i j v q).2) rfl rfl (H i hi)
 refine jB ?_ this
 rintro e s' ⟨m',h',a1,a2,a3,a4,a5⟩
 cases e with
 |normal =>
  obtain⟨j,nw,b1,b2,b3,b4,b5⟩:=a5.ok
  exact⟨j,⟨b1,b2⟩,wk j nw m' h' s' a1 a2 a3 a4 b3 b4 b5⟩
 |exit j=>exact⟨m',h',a1,a2,a3,a4,a5⟩
 |ret=>exact⟨m',h',a1,a2,a3,a4,a5⟩
end
section
variable {P:Program}
def Df(Z:Nat->Prop)(h:Hz):Hz->Prop
 |[]=>True
 |(_,none)::r=>Df Z h r
 |(i,some o)::r=>(∃ o',h.get i=some o'/\ ¬ Z i/\o'.aG.ty=o.aG.ty/\o'.aG.k=o.aG.k/\T.cu Z h.aj o.aG.l o'.aG.l/\o.aG.l.map T.kd=o'.aG.l.map T.kd/\o.aG.l.map iw=o'.aG.l.map iw)/\Df Z h r
def Frz(h h2:Hz):Prop:= ∃ Z,Df Z h h2
theorem Ba{Z:Nat->Prop}{h:Hz}: ∀ {h2:Hz},Df Z h h2-> ∀ {i:Nat} {o:OV},h2.get i=some o-> ∃ o',h.get i=some o'/\ ¬ Z i/\o'.aG.ty=o.aG.ty/\o'.aG.k=o.aG.k/\T.cu Z h.aj o.aG.l o'.aG.l/\o.aG.l.map T.kd=o'.aG.l.map T.kd/\o.aG.l.map iw=o'.aG.l.map iw:=by
 intro h2
 induction h2 with
 |nil=>intro _ i o e; cases e
 |cons p r ih =>
  obtain⟨j,u⟩:=p
  intro hf i o e
  simp only[Hz.get] at e
  cases u with
  |none =>
   cases hb:Nat.beq j i with
   |true=>rw[hb] at e; cases e
   |false=>rw[hb] at e; exact ih hf e
  |some u =>
   cases hb:Nat.beq j i with
   |true=>rw[hb] at e; cases e; rw[<- jo hb]; exact hf.1
   |false=>rw[hb] at e; exact ih hf.2 e
theorem Frz.wk{s _s1:AS}{fr:List T}{h h2:Hz}{nx pn:Nat}(f:Frz h h2)(w:Wk s ⟨fr,h2.aj,nx,pn⟩):Wk s ⟨fr,h.aj,nx,pn⟩:=by
 obtain⟨Z,f⟩:=f
 obtain⟨s1,w1,w2⟩:=w
 have F:Yg Z ⟨fr,h2.aj,nx,pn⟩ ⟨fr,h.aj,nx,pn⟩:=by
  refine⟨bP _,fun i ob hi=>?_,rfl,rfl⟩
  simp only[Hz.aj,Option.map_eq_some_iff] at hi
  obtain⟨o,e1,rfl⟩:=hi
  obtain⟨o',a1,a2,a3,a4,a5,a6,a7⟩:=Ba f e1
  exact⟨o'.aG,aJ a1,a2,a3,a4,a5,a6,a7⟩
 exact⟨s1,w1.trans (.fz F (.refl _)),w2⟩
structure acE{ι:Type}(inv:ι->Prop)(μ:ι->Nat)(vars:ι->Fm)(objs:ι->List (Nat×OV))(base:Fm)(nx pn:Nat)(i:ι)(m:Fm)(h:Hz):Prop where
 ok: ∃ h2 j nw,Frz h h2/\inv j/\μ j<μ i/\oI (oL (objs j) nw) m (vars j)/\oI (oL (objs j) nw) m base/\okR (oL (objs j) nw) nx pn h2 (objs j) nw
theorem aU.Zj{N pn nx0:Nat}(nx:Nat){b:dR}{Q:Qz}{m:Fm}{h:Hz}{ι:Type}(live:List Nat)(vars:ι->Fm)(objs:ι->List (Nat×OV))(inv:ι->Prop)(μ:ι->Nat)(i0:ι)(Ot:List Nat)(h2:Hz)(hd:oH N b=true)(hp:pn<=nx)(hv: ∀ i,WO nx N (vars i)=true)(h0:inv i0)
  (he:oI (oL (objs i0) Ot) m (vars i0)) (hf:Frz h h2) (ho:okR (oL (objs i0) Ot) nx pn h2 (objs i0) Ot)
  (H:Ib m live [] fun base=>oI (oL (objs i0) Ot) m base/\WO nx N base=true/\ ∀ i,inv i->az P N pn b (fun e m' h' n'=>match e with
   | .normal=>acE inv μ vars objs base nx pn i m' h'
   |e=>Q e m' h' n') (vars i++base) (Lp (objs i)) nx):aU P N pn b Q m h nx0:=by
 obtain⟨base,⟨hbs,hb,H⟩,hbm⟩:=zy H (fun i v q=>by cases q)
 refine⟨fun fr hl R=>?_⟩
 have hall: ∀ i j v,Fm.get j (vars i++base)=some v->T.lt nx v.aH=true/\j<N:=fun i j v q=>by
  rcases get_append q with q|q
  ·exact uY (hv i) q
  ·exact uY hb q
 have wk: ∀ (i:ι) (nw:List Nat) (m':Fm) (h' h2':Hz) (s':AS),s'.fr.length=N->Rp m' s'.fr->s'.hp=h'.aj->s'.pin=pn->Frz h' h2'->oI (oL (objs i) nw) m' (vars i)->oI (oL (objs i) nw) m' base->okR (oL (objs i) nw) nx pn h2' (objs i) nw ->
   Wk ⟨uD N (vars i++base),(Lp (objs i)).aj,nx,pn⟩ s':=by
  intro i nw m' h' h2' s' a1 a2 a3 a4 af a5 a6 a7
  obtain⟨fr',hp',nx',pn'⟩:=s'
  simp only at a1 a2 a3 a4
  subst a3; subst a4
  refine af.wk (_s1:=⟨fr',h2'.aj,nx',pn'⟩) ?_
  rw[<- NV a7]
  have e:AQ (yS (objs i) nw)=oL (objs i) nw:=funext fun _=>Ie
  refine Wk.objs (yS (objs i) nw) (Ec a1 a2 fun j v q=>?_) (CP fun j v q=>(hall i j v q).1) hp (by rw[e]; exact NW a7)
  rw[e]
  rcases get_append q with q|q
  ·exact sD a5 q
  ·exact sD a6 q
 refine xJ.rule (fun i=>⟨uD N (vars i++base),(Lp (objs i)).aj,nx,pn⟩) inv μ i0 h0 (wk i0 Ot m h h2 _ hl R rfl rfl hf he hbs ho) ?_
 intro i hi
 have:=mP (P:=P) (N:=N) (pn:=pn) (s:=⟨uD N (vars i++base),(Lp (objs i)).aj,nx,pn⟩) hd wJ (CO fun j v q=>(hall i j v q).2) rfl rfl (H i hi)
 refine jB ?_ this
 rintro e s' ⟨m',h',a1,a2,a3,a4,a5⟩
 cases e with
 |normal =>
  obtain⟨h2',j,nw,bf,b1,b2,b3,b4,b5⟩:=a5.ok
  exact⟨j,⟨b1,b2⟩,wk j nw m' h' h2' s' a1 a2 a3 a4 bf b3 b4 b5⟩
 |exit j=>exact⟨m',h',a1,a2,a3,a4,a5⟩
 |ret=>exact⟨m',h',a1,a2,a3,a4,a5⟩
theorem dn{Z:Nat->Prop}{h:Hz}{i:Nat}{o:OV}(e:h.get i=some o)(hz: ¬ Z i): ∃ o',h.get i=some o'/\ ¬ Z i/\o'.aG.ty=o.aG.ty/\o'.aG.k=o.aG.k/\T.cu Z h.aj o.aG.l o'.aG.l/\o.aG.l.map T.kd=o'.aG.l.map T.kd/\o.aG.l.map iw=o'.aG.l.map iw :=
 ⟨o,e,hz,rfl,rfl,bP _,rfl,rfl⟩
end
section
variable {P:Program}
theorem Ew{t:T}(q:t.free=true)(ρ:Nat->Nat):t.ren ρ=t:=by
 have:T.bY ρ [t]=[t]:=rV _ ⟨fM q,trivial⟩
 simpa [T.bY] using this
theorem fV.Oo{h0 h h2:Hz}{n:Nat}{post:T->Hp->Prop}{v u:V}(Z:Nat->Prop)(F:Df Z h h2)(hg: ∀ i o,h2.get i=some o->(h0.aj i).isSome=true/\T.aN (fun i=>(h0.aj i).isSome=true) o.aG.l/\QU o.aG.k o.aG.l=true)
  (hu:u.free=true) (hv:T.sub Z h.aj u.aH v.aH) (hp:post u.aH h2.aj):fV h0 n post v h:=by
 have hx: ∀ i ob,h2.aj i=some ob-> ∃ o,h2.get i=some o/\o.aG=ob:=fun i ob hi=>by
  simp only[Hz.aj,Option.map_eq_some_iff] at hi
  obtain⟨o,e1,e2⟩:=hi
  exact⟨o,e1,e2⟩
 have hfr:T.ids (fun _=>False) u.aH:=fM (V.lX u hu)
 refine⟨Z,id,u.aH,h2.aj,hp,by rw[Hy]; exact hv,fun i ob hi=>?_,fun i j _ _ e=>e,T.bI (fun _ h=>h.elim) _ hfr,fun i ob hi=>?_,fun _ _ _=>rfl⟩
 ·obtain⟨o,e1,rfl⟩:=hx i ob hi
  obtain⟨o',a1,a2,a3,a4,a5,_,_⟩:=Ba F e1
  exact⟨o'.aG,aJ a1,a2,a3,a4,by rw[JQ]; exact a5,yM (hg i o e1).2.2⟩
 ·obtain⟨o,e1,rfl⟩:=hx i ob hi
  exact⟨.inl (hg i o e1).1,T.ak (fun _ h=>.inl h) _ (hg i o e1).2.1⟩
theorem ah.aac{f:FuncId}{ts args:List V}{h:Hz}{i j n:Nat}{o0 Vp o1:OV}{K:V->Hz->Prop}{KW:Nat->V->Hz->Prop}{post:T->Hp->Prop}(H:aF P f (V.aS ts) (Hz.aj [(0,some o0),(1,some o1)]) 2 post)
  (ha:T.bY (fun a=>bif Nat.beq a 0 then i else j) (V.aS ts)=V.aS args) (hid:T.Jh 2 (V.aS ts)=true) (hg:qP 2 [(0,some o0),(1,some o1)]=true) (hf:o1.Io=true)
  (h0:o0.aG.ren (fun a=>bif Nat.beq a 0 then i else j)=Vp.aG) (hi:h.get i=some Vp) (hj:h.get j=some o1) (hij:i≠j) (hn:h.get n=none) (hin:n≠i) (hjn:n≠j)
  (hK: ∀ t hp,post t hp-> ∃ v o,hp=Hz.aj [(0,some o0),(1,some o)]/\o.Io=true/\t=v.aH/\v.free=true/\K v ((j,some o)::h)):ah P false none f args h n K KW:=by
 have hG:=kG hg
 have hlt: ∀ a:Nat,a<2->(Hz.aj [(0,some o0),(1,some o1)] a).isSome=true:=fun a ha=>by
  rw[bZ,rE]; by_cases e:a=0
  ·rw[if_pos e]; rfl
  ·rw[if_neg e,if_pos (by omega)]; rfl
 have hsome: ∀ a,(Hz.aj [(0,some o0),(1,some o1)] a).isSome=true->a=0\/a=1:=fun a ha=>by
  rw[bZ,rE] at ha; split at ha
  ·left; assumption
  ·split at ha
   ·right; assumption
   ·cases ha
 let ρ:Nat->Nat:=fun a=>bif Nat.beq a 0 then i else j
 have r0:ρ 0=i:=rfl
 have r1:ρ 1=j:=rfl
 have n0:nameAt ρ 2 n 0=i:=rfl
 have n1:nameAt ρ 2 n 1=j:=rfl
 have n2:nameAt ρ 2 n 2=n:=rfl
 have Vx: ∀ a b,(Hz.aj [(0,some o0),(1,some o1)] a).isSome=true->(Hz.aj [(0,some o0),(1,some o1)] b).isSome=true->ρ a=ρ b->a=b:=by
  intro a b ha hb e
  rcases hsome a ha with rfl|rfl<;>rcases hsome b hb with rfl|rfl
  ·rfl
  ·exact absurd e hij
  ·exact absurd e.symm hij
  ·rfl
 have inj: ∀ a b,((Hz.aj [(0,some o0),(1,some o1)] a).isSome=true\/a=2)->((Hz.aj [(0,some o0),(1,some o1)] b).isSome=true\/b=2)->nameAt ρ 2 n a=nameAt ρ 2 n b->a=b:=by
  intro a b ha hb e
  rcases ha with ha|rfl
  ·rcases hb with hb|rfl
   ·rcases hsome a ha with rfl|rfl<;>rcases hsome b hb with rfl|rfl
    ·rfl
    ·exact absurd e hij
    ·exact absurd e.symm hij
    ·rfl
   ·rcases hsome a ha with rfl|rfl
    ·exact absurd e.symm hin
    ·exact absurd e.symm hjn
  ·rcases hb with hb|rfl
   ·rcases hsome b hb with rfl|rfl
    ·exact absurd e hin
    ·exact absurd e hjn
   ·rfl
 refine ah.heap (post:=fun t' h'=> ∃ t h1,post t h1/\t'=t.ren (nameAt ρ 2 n)/\h'=placed ρ 2 n (Hz.aj [(0,some o0),(1,some o1)]) h.aj h1) ?_ ?_
 ·rw[<- ha]
  refine aF.place H (T.ak hlt _ (rQ hid)) (fun a ob hob=>?_) (by rw[bZ,rE]; rfl) (fun a ob hob=>?_) Vx
  ·exact⟨T.ak hlt _ (hG a ob hob).2.1,(hG a ob hob).2.2⟩
  ·have hs:(Hz.aj [(0,some o0),(1,some o1)] a).isSome=true:=by rw[hob]; rfl
   rcases hsome a hs with rfl|rfl
   ·rw[bZ,if_pos rfl] at hob; cases hob
    show h.aj i=_
    rw[aJ hi]; exact congrArg some h0.symm
   ·rw[bZ,rE,if_neg (by decide),if_pos rfl] at hob; cases hob
    show h.aj j=_
    rw[aJ hj,kL hf]
 ·rintro t' h' ⟨t,h1,hp,rfl,rfl⟩
  obtain⟨v,o,rfl,ho,rfl,hvf,hk⟩:=hK t h1 hp
  refine⟨v,_,Ew (V.lX v hvf) _,?_,hk⟩
  funext a
  rw[bZ]
  have at0:placed ρ 2 n (Hz.aj [(0,some o0),(1,some o1)]) h.aj (Hz.aj [(0,some o0),(1,some o)]) i=(Hz.aj [(0,some o0),(1,some o)] 0).map (Ob.ren (nameAt ρ 2 n)):=mX (h:=h.aj) (h1:=Hz.aj [(0,some o0),(1,some o)]) inj (i:=0) (.inl (hlt 0 (by decide)))
  have at1:placed ρ 2 n (Hz.aj [(0,some o0),(1,some o1)]) h.aj (Hz.aj [(0,some o0),(1,some o)]) j=(Hz.aj [(0,some o0),(1,some o)] 1).map (Ob.ren (nameAt ρ 2 n)):=mX (h:=h.aj) (h1:=Hz.aj [(0,some o0),(1,some o)]) inj (i:=1) (.inl (hlt 1 (by decide)))
  have at2:placed ρ 2 n (Hz.aj [(0,some o0),(1,some o1)]) h.aj (Hz.aj [(0,some o0),(1,some o)]) n=(Hz.aj [(0,some o0),(1,some o)] 2).map (Ob.ren (nameAt ρ 2 n)):=mX (h:=h.aj) (h1:=Hz.aj [(0,some o0),(1,some o)]) inj (i:=2) (.inr rfl)
  by_cases e1:a=j
  ·subst e1; rw[if_pos rfl,at1,bZ,rE,if_neg (by decide),if_pos rfl,Option.map_some,kL ho]; rfl
  ·rw[if_neg e1]
   by_cases e0:a=i
   ·subst e0
    rw[at0,bZ,if_pos rfl,aJ hi,<- h0]
    refine congrArg some ?_
    have hc:T.bY (nameAt ρ 2 n) o0.aG.l=T.bY ρ o0.aG.l:=qp (M:=(· <2)) (fun b hb=>if_neg (by omega)) _ (hG 0 o0.aG (by rw[bZ,if_pos rfl]; rfl)).2.1
    unfold Ob.ren
    rw[hc]
   ·by_cases e2:a=n
    ·subst e2; rw[at2,bZ,rE,if_neg (by decide),if_neg (by decide)]; simp only[Hz.aj,hn]; rfl
    ·exact wY (by
      rintro⟨b,hb,e⟩
      rcases hb with hb|rfl
      ·rcases hsome b hb with rfl|rfl
       ·exact e0 e.symm
       ·exact e1 e.symm
      ·exact e2 e.symm)
theorem ah.new2{f:FuncId}{args:List V}{h:Hz}{n:Nat}{_v:V}{o0 Vp o1:OV}{K:V->Hz->Prop}{KW:Nat->V->Hz->Prop}(H:jM P f (V.aS args) (Hz.aj []) 0 1 fun t hp=>t= .ptr 0 0 0/\hp=Hz.aj [(0,some o0),(1,some o1)])
  (ha:V.dh args=true) (hf:o1.Io=true) (h0:o0.aG.ren (fun a=>n+a)=Vp.aG) (hi0:T.aN (· <2) o0.aG.l) (hn: ∀ m,n<=m->h.get m=none) (hK:KW 1 (.ptr n 0 0) ((n,some Vp)::(n+1,some o1)::h)):ah P false none f args h n K KW:=by
 have hz:T.bY (fun a=>a) (V.aS args)=V.aS args:=rV _ (bV (V.gY _ ha))
 have e0:(Hz.aj [])=(no:Hp):=rfl
 have hp:=jM.place H (ρ:=fun a=>a) (h:=h.aj) (n:=n) (T.ak (fun _ h=>h.elim) _ (bV (V.gY _ ha))) (fun i ob hi=>by cases hi) (fun i hi=>by cases hi) (fun i ob hi=>by cases hi) (fun i j hi=>by cases hi)
 rw[hz] at hp
 refine⟨.inr (.inl ⟨rfl,rfl,1,hp.mono ?_⟩)⟩
 rintro t' h' ⟨t,h1,⟨rfl,rfl⟩,rfl,rfl⟩
 refine⟨.ptr n 0 0,_,?_,?_,hK⟩
 ·show T.ptr (zY (fun a=>a) 0 1 n 0) 0 0=T.ptr n 0 0
  rw[show zY (fun a=>a) 0 1 n 0=n+(0-0) from if_pos (by omega)]; rfl
 ·have nk: ∀ a,a<=1->zY (fun a=>a) 0 1 n a=n+a:=fun a ha=>by
   rw[show zY (fun a=>a) 0 1 n a=n+(a-0) from if_pos (by omega)]; rfl
  have inj: ∀ a b,(((Hz.aj []) a).isSome=true\/(0<=a/\a<=0+1))->(((Hz.aj []) b).isSome=true\/(0<=b/\b<=0+1))->zY (fun a=>a) 0 1 n a=zY (fun a=>a) 0 1 n b->a=b:=by
   intro a b ha hb e
   rcases ha with ha|ha
   ·cases ha
   rcases hb with hb|hb
   ·cases hb
   rw[nk a (by omega),nk b (by omega)] at e; omega
  funext a
  rw[bZ,bZ]
  by_cases c0:a=n
  ·subst c0
   rw[if_pos rfl]
   have:=xA (h:=h.aj) (h1:=Hz.aj [(0,some o0),(1,some o1)]) inj (i:=0) (.inr (by omega))
   rw[nk 0 (by omega)] at this
   refine Eq.trans this ?_
   rw[bZ,if_pos rfl,Option.map_some,Option.map_some,Option.map_some,<- h0]
   refine congrArg some ?_
   unfold Ob.ren
   rw[qp (M:=(· <2)) (fun b hb=>nk b (by omega)) _ hi0]
  ·rw[if_neg c0]
   by_cases c1:a=n+1
   ·subst c1
    rw[if_pos rfl]
    have:=xA (h:=h.aj) (h1:=Hz.aj [(0,some o0),(1,some o1)]) inj (i:=1) (.inr (by omega))
    rw[nk 1 (by omega)] at this
    refine Eq.trans this ?_
    rw[bZ,rE,if_neg (by decide),if_pos rfl,Option.map_some,kL hf]; rfl
   ·rw[if_neg c1]
    exact yN (by
     rintro⟨b,hb,e⟩
     rcases hb with hb|hb
     ·cases hb
     rw[nk b (by omega)] at e; omega)
structure ZE(o0 o1:OV)(v:V)(h:Hz):Prop where
 ok: ∃ a b Vp,v= .ptr a 0 0/\a≠b/\h.get a=some Vp/\o0.aG.ren (fun i=>bif Nat.beq i 0 then a else b)=Vp.aG/\h.get b=some o1
def abj(o0 o1:OV)(rs:List RV):Qz
 | .exit _,_,_,_=>False
 |_,m,h,_=>match resV m h rs with
  |some v=>v.seq fun v=>ZE o0 o1 v h
  |none=>False
theorem Z5.of{f:FuncId}{ac:dR}{rs:List RV}{nt:Nat}{args:List V}{o0 o1:OV}(B:Body P f ac rs nt)(hn:args.length<=nt)(ha:V.dh args=true)(hg:qP 2 [(0,some o0),(1,some o1)]=true)(hf:o1.Io=true)
  (H:az P nt 0 ac (abj o0 o1 rs) (xF 0 args) [] 0):jM P f (V.aS args) (Hz.aj []) 0 1 fun t hp=>t= .ptr 0 0 0/\hp=Hz.aj [(0,some o0),(1,some o1)]:=by
 obtain⟨fn,c,h1,h2,h3,h4,h5⟩:=B.ex
 have hG:=kG hg
 refine jM.uU (nx:=0) h1 h2 h3 h4 B.cl h5 ⟨_,_,rfl,rfl⟩ (T.ak (fun _ h=>h.elim) _ (bV (V.gY _ ha))) (fun i ob hi=>by cases hi) ?_
 have:=mP (P:=P) (N:=nt) (pn:=0) (s:=⟨V.aS args++List.replicate (nt-(V.aS args).length) T.un,(Hz.aj []),0,0⟩) B.dst (by simp[gy]; omega) uo rfl rfl H
 refine jB ?_ this
 rintro e s ⟨m,h,a1,a2,a3,a4,a5⟩
 have key: ∀ {m h},Rp m s.fr->s.hp=Hz.aj h->(match resV m h rs with|some v=>v.seq fun v=>ZE o0 o1 v h|none=>False)-> ∃ s1,DN s1 s/\KH (Hz.aj []) (fun i=>0<=i/\i<=0+1) (fun t hp=>t= .ptr 0 0 0/\hp=Hz.aj [(0,some o0),(1,some o1)]) rs s1:=by
  intro m h a2 a3 q
  split at q
  ·rename_i v hv
   rw[V.seq_eq] at q
   obtain⟨b1,b2⟩:=CJ a2 a3 hv
   obtain⟨a,b,Vp,rfl,hab,q0,e0,q1⟩:=q.ok
   have hx: ∀ i ob,Hz.aj [(0,some o0),(1,some o1)] i=some ob->(i=0/\ob=o0.aG)\/(i=1/\ob=o1.aG):=fun i ob hi=>by
    rw[bZ,rE] at hi; split at hi
    ·left; cases hi; exact⟨by assumption,rfl⟩
    ·split at hi
     ·right; cases hi; exact⟨by assumption,rfl⟩
     ·cases hi
   refine⟨s,.refl _,b1,fun _=>False,fun i=>bif Nat.beq i 0 then a else b,.ptr 0 0 0,Hz.aj [(0,some o0),(1,some o1)],⟨rfl,rfl⟩,by rw[b2]; exact aC _,fun i ob hi=>?_,fun i j hi hj e=>?_,?_,fun i ob hi=>?_,fun i hi=>by cases hi⟩
   ·rw[a3]
    rcases hx i ob hi with ⟨rfl,rfl⟩|⟨rfl,rfl⟩
    ·refine⟨Vp.aG,aJ q0,fun h=>h,by rw[<- e0]; rfl,by rw[<- e0]; rfl,?_,yM (hG 0 o0.aG (by rw[bZ,if_pos rfl]; rfl)).2.2⟩
     rw[<- e0]; exact bP _
    ·refine⟨o1.aG,aJ q1,fun h=>h,rfl,rfl,?_,yM (hG 1 o1.aG (by rw[bZ,rE,if_neg (by decide),if_pos rfl])).2.2⟩
     rw[OV.Bo hf]; exact bP _
   ·obtain⟨oi,hi⟩:=Option.isSome_iff_exists.1 hi
    obtain⟨oj,hj⟩:=Option.isSome_iff_exists.1 hj
    rcases hx i oi hi with ⟨rfl,_⟩|⟨rfl,_⟩<;>rcases hx j oj hj with ⟨rfl,_⟩|⟨rfl,_⟩
    ·rfl
    ·exact absurd e hab
    ·exact absurd e.symm hab
    ·rfl
   ·exact .inr ⟨by decide,by decide⟩
   ·have hw: ∀ k:Nat,k<2->((Hz.aj []:Hp) k).isSome=true\/(0<=k/\k<=0+1):=fun k hk=>.inr (by omega)
    have:=hG i ob hi
    exact⟨hw i this.1,T.ak hw _ this.2.1⟩
  ·exact q.elim
 cases e with
 |exit j=>exact a5.elim
 |normal=>exact key a2 a3 a5
 |ret=>exact key a2 a3 a5
end
section
variable {P:Program}
def Rh(ρ:Nat->Nat)(h:Hz):Hz->Prop
 |[]=>True
 |(_,none)::r=>Rh ρ h r
 |(i,some o)::r=>(∃ o',h.get (ρ i)=some o'/\o.aG.ren ρ=o'.aG)/\Rh ρ h r
theorem Ui{ρ:Nat->Nat}{h:Hz}: ∀ {pre:Hz},Rh ρ h pre-> ∀ {i:Nat} {o:OV},pre.get i=some o-> ∃ o',h.get (ρ i)=some o'/\o.aG.ren ρ=o'.aG:=by
 intro pre
 induction pre with
 |nil=>intro _ i o e; cases e
 |cons p r ih =>
  obtain⟨j,u⟩:=p
  intro hf i o e
  simp only[Hz.get] at e
  cases u with
  |none =>
   cases hb:Nat.beq j i with
   |true=>rw[hb] at e; cases e
   |false=>rw[hb] at e; exact ih hf e
  |some u =>
   cases hb:Nat.beq j i with
   |true=>rw[hb] at e; cases e; rw[<- jo hb]; exact hf.1
   |false=>rw[hb] at e; exact ih hf.2 e
def WR(σ:Nat->Nat)(hp:Hp):Nat->List (Option OV)->Prop
 |_,[]=>True
 |i,r::rs=>r.map OV.aG=(hp i).map (Ob.ren σ)/\WR σ hp (i+1) rs
theorem Uj{σ:Nat->Nat}{hp:Hp}: ∀ {rs:List (Option OV)} {i k:Nat},WR σ hp i rs->k<rs.length->(rs.getD k none).map OV.aG=(hp (i+k)).map (Ob.ren σ):=by
 intro rs
 induction rs with
 |nil=>intro i k _ hk; cases hk
 |cons r rs ih =>
  intro i k ha hk
  cases k with
  |zero=>exact ha.1
  |succ k =>
   have:=@ih (i+1) k ha.2 (Nat.lt_of_succ_lt_succ hk)
   rw[List.getD_cons_succ,this,Nat.succ_add_eq_add_succ]
def P9:List Nat->List (Option OV)->Hz->Hz
 |k::ks,r::rs,h=>(k,r)::P9 ks rs h
 |_,_,h=>h
theorem WS{h:Hz}{a:Nat}: ∀ {ks:List Nat} {rs:List (Option OV)},a ∉ ks->(P9 ks rs h).aj a=h.aj a:=by
 intro ks
 induction ks with
 |nil=>intro rs _; rfl
 |cons k ks ih =>
  intro rs ha
  cases rs with
  |nil=>rfl
  |cons r rs =>
   simp only[List.mem_cons,not_or] at ha
   show Hz.aj ((k,r)::P9 ks rs h) a=_
   rw[bZ,if_neg ha.1,ih ha.2]
theorem YS{h:Hz}: ∀ {ks:List Nat} {rs:List (Option OV)} {i:Nat},ks.length=rs.length->ks.Nodup->i<ks.length->(P9 ks rs h).aj (ks.getD i 0)=(rs.getD i none).map OV.aG:=by
 intro ks
 induction ks with
 |nil=>intro rs i _ _ hi; cases hi
 |cons k ks ih =>
  intro rs i hl hn hi
  cases rs with
  |nil=>cases hl
  |cons r rs =>
   cases i with
   |zero=>show Hz.aj ((k,r)::P9 ks rs h) k=_; rw[bZ,if_pos rfl]; rfl
   |succ i =>
    have hi':i<ks.length:=Nat.lt_of_succ_lt_succ hi
    rw[List.nodup_cons] at hn
    have hne:ks.getD i 0≠k:=fun e=>hn.1 (by rw[<- e,show ks.getD i 0=ks[i] by simp[hi']]; exact List.getElem_mem hi')
    show Hz.aj ((k,r)::P9 ks rs h) (ks.getD i 0)=_
    rw[bZ,if_neg hne]
    exact ih (Nat.succ.inj hl) hn.2 hi'
theorem Uk{is:List Nat}{n i:Nat}:(is++[n]).getD i 0=if i=is.length then n else if i<is.length then is.getD i 0 else 0:=by
 by_cases h:i<is.length
 ·rw[if_neg (by omega),if_pos h]; simp[List.getD_eq_getElem?_getD,List.getElem?_append_left h]
 ·by_cases e:i=is.length
  ·subst e; simp
  ·rw[if_neg e,if_neg h]; simp[List.getD_eq_getElem?_getD,List.getElem?_eq_none (by simp; omega:(is++[n]).length<=i)]
theorem ah.aal{f:FuncId}{ts args:List V}{h pre:Hz}{m n:Nat}{K:V->Hz->Prop}{KW:Nat->V->Hz->Prop}{post:T->Hp->Prop}(is:List Nat)(H:aF P f (V.aS ts) pre.aj m post)(hm:is.length=m)
  (ha:T.bY (is.getD · 0) (V.aS ts)=V.aS args) (hid:T.Jh m (V.aS ts)=true) (hg:qP m pre=true) (hall:((List.range m).all fun i=>(pre.get i).isSome)=true) (hpl:Rh (is.getD · 0) h pre) (_hn:h.get n=none) (nd:(is++[n]).Nodup)
  (hK: ∀ t hp,post t hp-> ∃ v rs,rs.length=m+1/\t.ren (nameAt (is.getD · 0) m n)=v.aH/\WR (nameAt (is.getD · 0) m n) hp 0 rs/\K v (P9 (is++[n]) rs h)):ah P false none f args h n K KW:=by
 have hG:=kG hg
 have hlt: ∀ i,i<m->(pre.aj i).isSome=true:=fun i hi=>by
  rw[List.all_eq_true] at hall
  have:=hall i (List.mem_range.2 hi)
  simpa [Hz.aj] using this
 have hsome: ∀ i,(pre.aj i).isSome=true->i<m:=fun i hi=>by
  obtain⟨ob,hob⟩:=Option.isSome_iff_exists.1 hi
  exact(hG i ob hob).1
 have hnm: ∀ i,i<=m->nameAt (is.getD · 0) m n i=(is++[n]).getD i 0:=fun i hi=>by
  rw[Uk,hm]
  unfold nameAt
  by_cases e:i=m
  ·rw[if_pos e,if_pos e]
  ·rw[if_neg e,if_neg e,if_pos (by omega)]
 have hlen:(is++[n]).length=m+1:=by rw[List.length_append,hm]; rfl
 have hinj: ∀ i j,i<=m->j<=m->nameAt (is.getD · 0) m n i=nameAt (is.getD · 0) m n j->i=j:=fun i j hi hj e=>by
  rw[hnm i hi,hnm j hj] at e
  have hi':i<(is++[n]).length:=by omega
  have hj':j<(is++[n]).length:=by omega
  rw[show(is++[n]).getD i 0=(is++[n])[i] from by rw[List.getD_eq_getElem?_getD,List.getElem?_eq_getElem hi']; rfl,show(is++[n]).getD j 0=(is++[n])[j] from by rw[List.getD_eq_getElem?_getD,List.getElem?_eq_getElem hj']; rfl] at e
  have hpw:=List.pairwise_iff_getElem.1 nd
  rcases Nat.lt_trichotomy i j with q|q|q
  ·exact absurd e (hpw i j hi' hj' q)
  ·exact q
  ·exact absurd e.symm (hpw j i hj' hi' q)
 have hD: ∀ i,((pre.aj i).isSome=true\/i=m)->i<=m:=fun i hi=>hi.elim (fun q=>Nat.le_of_lt (hsome i q)) (fun q=>by omega)
 have inj: ∀ i j,((pre.aj i).isSome=true\/i=m)->((pre.aj j).isSome=true\/j=m)->nameAt (is.getD · 0) m n i=nameAt (is.getD · 0) m n j->i=j:=fun i j hi hj e=>hinj i j (hD i hi) (hD j hj) e
 have hne: ∀ i,i<m->nameAt (is.getD · 0) m n i=is.getD i 0:=fun i hi=>if_neg (by omega)
 refine ah.heap (post:=fun t' h'=> ∃ t h1,post t h1/\t'=t.ren (nameAt (is.getD · 0) m n)/\h'=placed (is.getD · 0) m n pre.aj h.aj h1) ?_ ?_
 ·rw[<- ha]
  refine aF.place H (T.ak hlt _ (rQ hid)) (fun a ob hob=>⟨T.ak hlt _ (hG a ob hob).2.1,(hG a ob hob).2.2⟩) ?_ (fun a ob hob=>?_) (fun i j hi hj e=>hinj i j (Nat.le_of_lt (hsome i hi)) (Nat.le_of_lt (hsome j hj)) (by rw[hne i (hsome i hi),hne j (hsome j hj)]; exact e))
  ·cases e:pre.aj m with
   |none=>rfl
   |some ob=>have:=(hG m ob e).1; omega
  ·simp only[Hz.aj,Option.map_eq_some_iff] at hob
   obtain⟨o,e1,rfl⟩:=hob
   obtain⟨o',a1,a2⟩:=Ui hpl e1
   rw[aJ a1,<- a2]
 ·rintro t' h' ⟨t,h1,hp,rfl,rfl⟩
  obtain⟨v,rs,hr,hv,hat,hk⟩:=hK t h1 hp
  refine⟨v,_,hv,?_,hk⟩
  funext a
  by_cases he: ∃ i,i<=m/\(is++[n]).getD i 0=a
  ·obtain⟨i,hi,rfl⟩:=he
   rw[YS (by omega) nd (by omega),Uj hat (by omega),Nat.zero_add,<- hnm i hi]
   have hin:(pre.aj i).isSome=true\/i=m:=by
    by_cases e:i=m
    ·exact .inr e
    ·exact .inl (hlt i (by omega))
   exact mX (h:=h.aj) (h1:=h1) inj hin
  ·have hoff:a ∉ is++[n]:=fun hmem=>by
    obtain⟨i,hi,e⟩:=List.getElem_of_mem hmem
    exact he ⟨i,by omega,by rw[List.getD_eq_getElem?_getD,List.getElem?_eq_getElem hi]; exact e⟩
   rw[WS hoff]
   exact wY (fun⟨i,hi,e⟩=>he ⟨i,hD i hi,by rw[<- hnm i (hD i hi)]; exact e⟩)
end
section
variable {P:Program}
structure IU where
 d:Nat
 g:FuncId
 x:Nat
 y:Nat
def WT:List Oper->Option IU
 |[o1,o2]=>match o1.op,o1.dst,o1.guard,o2.op,o2.dst,o2.guard with
  | .makeFunc (.func g) ⟨[]⟩ ⟨[.tmp x,.tmp y]⟩,some d,none,.defer ⟨.value (.tmp e),⟨[]⟩,⟨[]⟩⟩,none,none=>bif Nat.beq d e then some ⟨d,g,x,y⟩ else none
  |_,_,_,_,_,_=>none
 |_=>none
def EJ(P:Program):Code->Option (dR×IU×dR)
 | .seq (.region id ops false) c=>match WT ops.toList with
  |some i=>(comp P c).map fun b=>(.skip,i,b)
  |none=>match comp P (.region id ops false),EJ P c with
   |some a,some (a',i,b)=>some (.seq a a',i,b)
   |_,_=>none
 | .seq a c=>match comp P a,EJ P c with
  |some a,some (a',i,b)=>some (.seq a a',i,b)
  |_,_=>none
 |_=>none
def IU.clo(i:IU)(a:Act):Array Value:= #[a.tmps.getD i.x undef,a.tmps.getD i.y undef]
def IU.push(i:IU)(a:Act):Act:= {tmps:=a.tmps.setIfInBounds i.d (.func (.func i.g) #[] (i.clo a)),defers:= {target:=.fn (.func i.g) (i.clo a),args:= #[]}::a.defers}
theorem abk{id:Nat}{ops:Array Oper}{i:IU}(h:WT ops.toList=some i){Q:Exit->Act->World->Prop}{a:Act}{w:World}(hd:i.d<a.tmps.size)(hQ:Q .normal (i.push a) w):(Code.region id ops false).wp P Q a w:=by
 refine wp_region_list ?_
 unfold WT at h
 split at h
 ·rename_i o1 o2 e
  rw[e]
  split at h
  ·rename_i g x y d' f e1 e2 e3 e4 e5 e6
   cases hb:Nat.beq d' f with
   |false=>rw[hb] at h; cases h
   |true =>
    rw[hb] at h
    cases h
    have:=Nat.eq_of_beq_eq_true hb
    subst this
    refine wpList_step fun K hK=>?_
    have w1: ∀ c,Region.wanted o1 c=true:=fun c=>by simp[Region.wanted,e3]
    rw[if_pos (by rw[w1])]
    simp only[Oper.wp,execOp,e1]
    have m0:Array.map a.eval ⟨[]⟩= #[]:=by simp
    have m1:Array.map a.eval ⟨[.tmp x,.tmp y]⟩=IU.clo ⟨d',g,x,y⟩ a:=by simp[IU.clo,Act.eval]
    rw[m0,m1]
    simp only[Instr.makeFunc,Sem.run_bind,Sem.run_pure,Result.andThen_ok,Oper.upon_value,e2,Act.put]
    refine hK _ _ ?_
    refine wpList_step fun K' hK'=>?_
    have w2: ∀ c,Region.wanted o2 c=true:=fun c=>by simp[Region.wanted,e6]
    rw[if_pos (by rw[w2])]
    simp only[Oper.wp,execOp,e4]
    have hget:(a.tmps.setIfInBounds d' (.func (.func g) #[] (IU.clo ⟨d',g,x,y⟩ a))).getD d' undef= .func (.func g) #[] (IU.clo ⟨d',g,x,y⟩ a):=by
     have hd':d'<a.tmps.size:=hd
     simp[Array.getD,hd']
    have hres:(resolve (Act.eval {tmps:=a.tmps.setIfInBounds d' (.func (.func g) #[] (IU.clo ⟨d',g,x,y⟩ a)),defers:=a.defers}) ⟨.value (.tmp d'),⟨[]⟩,⟨[]⟩⟩ o2.type)=pure {target:=.fn (.func g) (IU.clo ⟨d',g,x,y⟩ a),args:= #[]}:=by
     simp only[resolve,Act.eval,hget,Deferred.ofValue]
     simp
    rw[hres]
    simp only[pure_bind,Sem.run_pure,Oper.upon_defer,e5,Act.put]
    exact hK' _ _ hQ
  ·cases h
 ·cases h
theorem WU{F:Fr P}: ∀ (c:Code) {a b:dR} {i:IU},EJ P c=some (a,i,b)-> ∀ {Q:Exit->Act->World->Prop} {E:Env} {s:AS} {act:Act} {pn:Nat},s.pin=pn->pn<=s.nx->Rel F (· <s.nx) E s act ->
  aw P a (fun e s'=>e= .normal/\i.d<s'.fr.length/\ ∀ E' A' cb,Rel F (· <s'.nx) E' s' A'->s'.pin=pn->pn<=s'.nx->Ext F E E'->Same E E' (· <pn)->comp P cb=some b->cb.wp P Q (i.push A') E'.w) s->c.wp P Q act E.w:=by
 intro c
 induction c with
 |seq x y _ ihy =>
  intro a b i hc Q E s act pn hpn hle R H
  have step: ∀ {a0 a1:dR},comp P x=some a0->EJ P y=some (a1,i,b)->a= .seq a0 a1->(Code.seq x y).wp P Q act E.w:=by
   rintro a0 a1 h0 h1 rfl
   simp only[aw] at H
   refine wp_seq (wp_mono (Hu x h0 H (by omega) R) ?_)
   rintro e a' w' ⟨ae,E',s',rfl,rfl,hQ,R',hp',hle',hext,hs⟩
   cases ae with
   |normal =>
    refine ihy h1 (hp'.trans hpn) (by omega) R' (jB (fun e s2 q=>⟨q.1,q.2.1,fun E2 A2 cb r1 r2 r3 r4 r5 r6=>q.2.2 E2 A2 cb r1 r2 r3 (hext.trans r4) ?_ r6⟩) hQ)
    exact(hs.weaken (M':=(· <pn)) fun j (hj:j<pn)=>by show j<s.pin; omega).trans r5 fun _ h=>h
   |exit j=>exact absurd hQ.1 (by simp)
   |ret=>exact absurd hQ.1 (by simp)
  unfold EJ at hc
  split at hc
  ·rename_i heq
   cases heq
   rename_i id ops
   split at hc
   ·rename_i j hj
    simp only[Option.map_eq_some_iff,Prod.mk.injEq] at hc
    obtain⟨b',h1,rfl,rfl,rfl⟩:=hc
    simp only[aw] at H
    refine wp_seq (abk hj (by have:=kZ R.fr; rw[Array.length_toList] at this; omega) ?_)
    exact H.2.2 E act _ R hpn hle (Ext.refl _ _) (Same.refl _ _) h1
   ·split at hc
    ·rename_i h1 h2
     cases hc
     exact step h1 h2 rfl
    ·cases hc
  ·rename_i heq
   cases heq
   split at hc
   ·rename_i h1 h2
    cases hc
    exact step h1 h2 rfl
   ·cases hc
  ·cases hc
 |_=>intro a b i hc; cases hc
def xG(P:Program)(f:FuncId)(ts:List T)(h:Hp)(n:Nat)(post:Hp->Prop):Prop :=
 ∀ (F:Fr P) (M:Nat->Prop) (E:Env) (vs:List Value),oJ F E->E.h=h->bn E ts vs->T.aN M ts->lg M h-> ¬ M n ->
  CallsD P f vs.toArray .returning E.w fun e u w'=>u= .returning/\Ends F M E n (fun _ h'=>post h') e w'
theorem xG.uU{f:FuncId}{fn:Func}{c:Code}{ac:dR}{rs:List RV}{ts:List T}{h:Hp}{n nx nt:Nat}{post:Hp->Prop}(hf:P.funcs[f]? =some fn)(hb:fn.body=some c)(hc:comp P c=some ac)
  (hr:jA P fn.results.toList=some rs) (hnt:fn.ntmps=nt) (hts:T.aN (· <nx) ts) (hh:lg (· <nx) h)
  (H:aw P ac (Done h n (fun _ h'=>post h') rs) ⟨ts++List.replicate (nt-ts.length) T.un,h,nx,nx⟩):xG P f ts h n post :=
 fun F M E vs hk he hrep _ hm hn=>(callsD_of_wp hf hb (QT (N:=fun i=>i=n) hc hr hnt hts hh H (F.defs []) M E vs rfl (hk.dl []) he hrep hm fun _ hi e=>hn (e▸hi))).mono
  fun _ _ _ q=>⟨q.1,yK.ES (N:=fun i=>i=n) q.2⟩
def abl(P:Program)(g:FuncId)(us:List T)(h:Hp)(n:Nat)(post:T->Hp->Prop)(rs:List RV):ou->AS->Prop
 | .exit _,_=>False
 |_,s=> ∃ s1,DN s1 s/\T.aN (· <s1.pin) us/\xG P g us s1.hp s1.nx fun h'=>KH h (fun i=>i=n) post rs ⟨s1.fr,h',s1.nx+1,s1.pin⟩
theorem aF.WV{f:FuncId}{fn:Func}{c:Code}{a b:dR}{i:IU}{rs:List RV}{ts:List T}{h:Hp}{n nx nt:Nat}{post:T->Hp->Prop}(hf:P.funcs[f]? =some fn)(hb:fn.body=some c)(hc:EJ P c=some (a,i,b))
  (hr:jA P fn.results.toList=some rs) (hcl:callable P f) (hcg:callable P i.g) (hnt:fn.ntmps=nt) (hin: ∃ t h',post t h') (hts:T.aN (· <nx) ts) (hh:lg (· <nx) h)
  (H:aw P a (fun e s'=>e= .normal/\i.d<s'.fr.length/\aw P b (abl P i.g [s'.fr.getD i.x T.un,s'.fr.getD i.y T.un] h n post rs) ⟨s'.fr.set i.d .any,s'.hp,s'.nx,s'.nx⟩) ⟨ts++List.replicate (nt-ts.length) T.un,h,nx,nx⟩):aF P f ts h n post:=by
 refine⟨hin,hcl,fun F0 M E vs hk0 he hrep hid hm hn=>?_⟩
 suffices hh: ∀ F:Fr P,F.dl=[]->oJ F E->Calls P f vs.toArray E.w (Ends F M E n post) from(hh (F0.defs []) rfl (hk0.dl [])).mono fun _ _ q=>yK.ES (N:=fun i=>i=n) q
 clear hk0
 intro F hdl hk
 refine calls_of_wp_defers hf hb ?_
 subst hnt
 refine WU c hc rfl (Nat.le_refl _) (Rel.enter hdl hk he hrep hts hh) (jB ?_ H)
 rintro e s' ⟨q1,q2,q3⟩
 refine⟨q1,q2,?_⟩
 intro E' A' cb R' hpn hle hext hs hcb
 let D:Deferred:= {target:=.fn (.func i.g) (i.clo A'),args:= #[]}
 have R2:Rel (F.defs [D]) (· <s'.nx) E' ⟨s'.fr.set i.d .any,s'.hp,s'.nx,s'.nx⟩ (i.push A'):=by
  refine⟨R'.hk.dl _,R'.he,?_,?_,qR R'.mf (by simp[T.ids]),R'.mh⟩
  ·simp only[IU.push,Array.toList_setIfInBounds]
   exact zi R'.fr i.d (by rw[ay rfl]; simp[aI])
  ·show D::A'.defers=[D]
   rw[R'.df,hdl]
 have hus:bn E' [s'.fr.getD i.x T.un,s'.fr.getD i.y T.un] (i.clo A').toList:=by
  simp only[IU.clo,bg]
  refine⟨_,_,rfl,?_,_,_,rfl,?_,rfl⟩
  ·exact bD R' (x:=.tmp i.x) rfl
  ·exact bD R' (x:=.tmp i.y) rfl
 have adv:T.aN (· <s'.nx) [s'.fr.getD i.x T.un,s'.fr.getD i.y T.un] :=
  ⟨oz R'.mf (by simp[T.ids]),oz R'.mf (by simp[T.ids]),trivial⟩
 generalize hU:[s'.fr.getD i.x T.un,s'.fr.getD i.y T.un]=us at *
 refine wp_mono (Hu cb hcb q3 (Nat.le_refl _) R2) ?_
 rintro e2 a2 w2 ⟨ae,E2,s2,rfl,rfl,hQ,Rq,hp2,hle2,ZF,hs2⟩
 have key:(∃ s1,DN s1 s2/\T.aN (· <s1.pin) us/\xG P i.g us s1.hp s1.nx fun h'=>KH h (fun i=>i=n) post rs ⟨s1.fr,h',s1.nx+1,s1.pin⟩) ->
   Leaves P fn a2.tmps (Ends F M E n post) a2.defers .returning E2.w:=by
  rintro⟨s1,hN,hup,hcall⟩
  obtain⟨E1,hw1,R1,hx1,hs1,hp1,hle1⟩:=hN.sound Rq (by rw[hp2]; exact hle2)
  have adw:s1.pin=s'.nx:=hp1.trans hp2
  have hxt:Ext F E E1:=hext.trans (ZF.ES.trans hx1.ES)
  have hst:Same E' E1 (· <s'.nx):=hs2.trans hs1 fun j hj=>by show j<s1.pin; rw[adw]; exact hj
  have hd2:a2.defers=[D]:=R1.df
  rw[hd2,<- hw1]
  have hv1:bn E1 us (i.clo A').toList:=ig _ _ (.of (ZF.ES.trans hx1.ES) hst) adv _ hus
  refine leaves_cons (f:=i.g) (args:=i.clo A') (by simp) (by simp only[invoke,Array.empty_append]; exact hcg _ _) ?_
  have hM: ∀ j,j<s1.pin->j<s1.nx:=fun j hj=>by omega
  refine(hcall F (· <s1.nx) E1 (i.clo A').toList R1.hk.ES R1.he hv1 (T.ak hM _ hup) R1.mh (Nat.lt_irrefl _)).mono ?_
  rintro e3 u w3 ⟨rfl,v3,t3,E3,rfl,rfl,hret,_,hk3,hx3,hs3,_,acF⟩
  have conv: ∀ j,(j<s1.nx\/j=s1.nx)->j<s1.nx+1:=fun j hj=>by omega
  have R3:Rel F (· <s1.nx+1) E3 ⟨s1.fr,E3.h,s1.nx+1,s1.pin⟩ {tmps:=a2.tmps,defers:=[]} :=
   ⟨hk3,rfl,ig _ _ (.of hx3 hs3) R1.mf _ R1.fr,hdl.symm,T.ak (fun j (hj:j<s1.nx)=>by show j<s1.nx+1; omega) _ R1.mf,
    fun j ob hj=>⟨conv j (acF j ob hj).1,T.ak conv _ (acF j ob hj).2⟩⟩
  have hle':nx<=s'.nx:=hle
  obtain⟨v,hrun,acG⟩:=hret.ends (M:=M) hr hh hm (fun j hj (e:j=n)=>hn (by rw[<- e]; exact hj)) R3 (hxt.trans hx3) ((hs.trans hst fun j (hj:j<nx)=>by show j<s'.nx; omega).trans hs3 fun j (hj:j<nx)=>by show j<s1.nx; omega)
  exact⟨v,hrun,acG⟩
 cases ae with
 |normal=>exact key hQ
 |ret=>exact key hQ
 |exit j=>exact hQ.elim
structure Ri(P:Program)(f:FuncId)(a b:dR)(i:IU)(rs:List RV)(nt:Nat):Prop where
 ex: ∃ fn c,P.funcs[f]? =some fn/\fn.body=some c/\EJ P c=some (a,i,b)/\jA P fn.results.toList=some rs/\fn.ntmps=nt
 cl:callable P f
 dst:(oH nt a&&oH nt b&&Nat.blt i.d nt)=true
theorem Ri.of{f:FuncId}{fn:Func}{a b:dR}{i:IU}{rs:List RV}{nt:Nat}(h1:P.funcs[f]? =some fn)(h2:(fn.body.isSome,EJ P (fn.body.getD .skip),jA P fn.results.toList,fn.ntmps,oH nt a&&oH nt b&&Nat.blt i.d nt)=(true,some (a,i,b),some rs,nt,true))(h3:callable P f):Ri P f a b i rs nt:=by
 simp only[Prod.mk.injEq] at h2
 obtain⟨a,b,c,d,e⟩:=h2
 obtain⟨cd,hc⟩:=Option.isSome_iff_exists.1 a
 rw[hc] at b
 exact⟨⟨fn,cd,h1,hc,b,c,d⟩,h3,e⟩
structure S9(P:Program)(g:FuncId)(us:List V)(h:Hz)(nx pn:Nat)(K:Hz->Prop):Prop where
 ok:T.Jh pn (V.aS us)=true/\xG P g (V.aS us) h.aj nx fun hp=> ∃ h':Hz,hp=h'.aj/\K h'
def abm(P:Program)(pn:Nat)(g:FuncId)(us:List V)(h0:Hz)(n:Nat)(post:T->Hp->Prop)(rs:List RV):Qz
 | .exit _,_,_,_=>False
 |_,m,h,nx=>S9 P g us h nx pn fun h'=>match resV m h' rs with
  |some v=>v.seq fun v=>fV h0 n post v h'
  |none=>False
def ZG(o:Option V):Bool:=match o with|none=>true|some _=>false
def AtD(P:Program)(nt:Nat)(b:dR)(i:IU)(h0:Hz)(n:Nat)(post:T->Hp->Prop)(rs:List RV):Qz
 | .normal,m,h,nx=>match m.get i.x,m.get i.y with
  |some u,some v=>bif ZG (m.get i.d) then az P nt nx b (abm P nx i.g [u,v] h0 n post rs) m h nx else False
  |_,_=>False
 |_,_,_,_=>False
theorem S9.walk{g:FuncId}{ac:dR}{rs:List RV}{nt:Nat}{us:List V}{h:Hz}{nx pn:Nat}{K:Hz->Prop}(B:Body P g ac rs nt)(hn:us.length<=nt)(hp:T.Jh pn (V.aS us)=true)(ha:T.Jh nx (V.aS us)=true)(hg:qP nx h=true)
  (H:az P nt nx ac (ZC h nx (fun _ hp=> ∃ h':Hz,hp=h'.aj/\K h') rs) (xF 0 us) h nx):S9 P g us h nx pn K:=by
 refine⟨hp,?_⟩
 obtain⟨fn,c,h1,h2,h3,h4,h5⟩:=B.ex
 have hG:=kG hg
 refine xG.uU (nx:=nx) h1 h2 h3 h4 h5 (rQ ha) (fun i ob hi=>⟨(hG i ob hi).1,(hG i ob hi).2.1⟩) ?_
 have:=mP (P:=P) (N:=nt) (pn:=nx) (s:=⟨V.aS us++List.replicate (nt-(V.aS us).length) T.un,h.aj,nx,nx⟩) B.dst (by simp[gy]; omega) uo rfl rfl H
 refine jB ?_ this
 rintro e s ⟨m,h',a1,a2,a3,a4,a5⟩
 have key: ∀ {m h'},Rp m s.fr->s.hp=Hz.aj h'->(match resV m h' rs with|some v=>v.seq fun v=>fV h nx (fun _ hp=> ∃ h':Hz,hp=h'.aj/\K h') v h'|none=>False)-> ∃ s1,DN s1 s/\Ret h.aj nx (fun _ hp=> ∃ h':Hz,hp=h'.aj/\K h') rs s1:=by
  intro m h' a2 a3 q
  split at q
  ·rename_i v hv
   rw[V.seq_eq] at q
   obtain⟨b1,b2⟩:=CJ a2 a3 hv
   obtain⟨Z,ρ,t,h',c1,c2,c3,c4,c5,c6,c7⟩:=q.ok
   exact⟨s,.refl _,b1,Z,ρ,t,h',c1,by rw[b2,a3]; exact c2,by rw[a3]; exact c3,c4,c5,c6,c7⟩
  ·exact q.elim
 cases e with
 |exit j=>exact a5.elim
 |normal=>exact key a2 a3 a5
 |ret=>exact key a2 a3 a5
theorem lV.ofD{f:FuncId}{a b:dR}{i:IU}{rs:List RV}{nt nx n:Nat}{args:List V}{h0:Hz}{post:T->Hp->Prop}(B:Ri P f a b i rs nt)(hcg:callable P i.g)(hn:args.length<=nt)(hin: ∃ t h',post t h')(ha:T.Jh nx (V.aS args)=true)(hg:qP nx h0=true)
  (H:az P nt nx a (AtD P nt b i h0 n post rs) (xF 0 args) h0 nx):aF P f (V.aS args) h0.aj n post:=by
 obtain⟨fn,c,h1,h2,h3,h4,h5⟩:=B.ex
 have hG:=kG hg
 have hd:=B.dst
 simp only[Bool.and_eq_true] at hd
 refine aF.WV (nx:=nx) h1 h2 h3 h4 B.cl hcg h5 hin (rQ ha) (fun i ob hi=>⟨(hG i ob hi).1,(hG i ob hi).2.1⟩) ?_
 have:=mP (P:=P) (N:=nt) (pn:=nx) (s:=⟨V.aS args++List.replicate (nt-(V.aS args).length) T.un,h0.aj,nx,nx⟩) hd.1.1 (by simp[gy]; omega) uo rfl rfl H
 refine jB ?_ this
 rintro e s ⟨m,h,a1,a2,a3,a4,a5⟩
 cases e with
 |exit j=>exact a5.elim
 |ret=>exact a5.elim
 |normal =>
  simp only[AtD] at a5
  split at a5
  ·rename_i u v hu hv
   cases hm:ZG (m.get i.d) with
   |false=>rw[hm] at a5; exact a5.elim
   |true =>
    rw[hm] at a5
    have hmd:m.get i.d=none:=by
     cases e:m.get i.d with
     |none=>rfl
     |some w=>rw[e] at hm; cases hm
    have hlt:i.d<s.fr.length:=by rw[a1]; simpa using hd.2
    refine⟨rfl,hlt,?_⟩
    have hgx:s.fr.getD i.x T.un=u.aH:=by have:=a2 _ _ hu; rw[List.getD_eq_getElem?_getD,this]; rfl
    have hgy:s.fr.getD i.y T.un=v.aH:=by have:=a2 _ _ hv; rw[List.getD_eq_getElem?_getD,this]; rfl
    rw[hgx,hgy]
    have R2:Rp m (s.fr.set i.d .any):=fun j w hw=>by
     rw[List.getElem?_set_ne (fun e=>by rw[e,hw] at hmd; cases hmd)]; exact a2 j w hw
    have:=mP (P:=P) (N:=nt) (pn:=s.nx) (s:=⟨s.fr.set i.d .any,s.hp,s.nx,s.nx⟩) hd.1.2 (by simp[a1]) R2 a3 rfl a5
    refine jB ?_ this
    rintro e2 s2 ⟨m2,h2,b1,b2,b3,b4,b5⟩
    have key:S9 P i.g [u,v] h2 s2.nx s.nx (fun h'=>match resV m2 h' rs with|some v=>v.seq fun v=>fV h0 n post v h'|none=>False) ->
      ∃ s1,DN s1 s2/\T.aN (· <s1.pin) [u.aH,v.aH]/\xG P i.g [u.aH,v.aH] s1.hp s1.nx fun h'=>KH h0.aj (fun i=>i=n) post rs ⟨s1.fr,h',s1.nx+1,s1.pin⟩:=by
     rintro⟨q1,q2⟩
     refine⟨s2,.refl _,by rw[b4]; exact rQ q1,?_⟩
     intro F M E vs r1 r2 r3 r4 r5 r6
     refine(q2 F M E vs r1 (by rw[r2,b3]) r3 r4 (by rw[<- b3]; exact r5) r6).mono ?_
     rintro e u' w' ⟨t1,v',t',E',t2,t3,⟨h',t4,t5⟩,t6⟩
     refine⟨t1,v',t',E',t2,t3,?_,t6⟩
     split at t5
     ·rename_i w hw
      rw[V.seq_eq] at t5
      obtain⟨d1,d2⟩:=CJ (s:=⟨s2.fr,E'.h,s2.nx+1,s2.pin⟩) b2 t4 hw
      obtain⟨Z,ρ,t,h',c1,c2,c3,c4,c5,c6,c7⟩:=t5.ok
      exact⟨d1,Z,ρ,t,h',c1,by rw[d2]; show T.sub Z E'.h _ _; rw[t4]; exact c2,by show ∀ i ob,_-> ∃ ob',E'.h _=_/\_; rw[t4]; exact c3,c4,c5,c6,c7⟩
     ·exact t5.elim
    cases e2 with
    |exit j=>exact b5.elim
    |normal=>exact key b5
    |ret=>exact key b5
  ·exact a5.elim
theorem aF.Oo{f:FuncId}{ts ts2:List T}{h h2:Hp}{n:Nat}{post:T->Hp->Prop}(Z:Nat->Prop)(H:aF P f ts2 h2 n post)(hs:T.cu Z h ts2 ts)
  (ho: ∀ i ob,h2 i=some ob-> ∃ ob',h i=some ob'/\ ¬ Z i/\ob'.ty=ob.ty/\ob'.k=ob.k/\T.cu Z h ob.l ob'.l/\ob.l.map T.kd=ob'.l.map T.kd/\ob.l.map iw=ob'.l.map iw):aF P f ts h n post:=by
 obtain⟨h1,hcl,hcall⟩:=H
 refine⟨h1,hcl,fun F M E vs hk he hrep hid hm hn=>?_⟩
 subst he
 have TU: ∀ i ob,h2 i=some ob-> ∃ ob',E.h (id i)=some ob'/\ ¬ Z (id i)/\FB Z E.h id ob ob':=fun i ob hi=>by
  obtain⟨ob',a1,a2,a3,a4,a5,a6,a7⟩:=ho i ob hi
  refine⟨ob',a1,a2,a3,a4,by rw[Cb]; exact a5,?_⟩
  have hkd:=(hk.obs i ob' a1).1.kinds
  rw[<- a4]
  rcases hkd with ⟨g1,g2⟩|⟨g1,g2⟩
  ·exact .inl ⟨g1,FC a7 g2⟩
  ·exact .inr ⟨g1,Dh a6 g2⟩
 let E2:Env:=(E.shut Z).ren id h2
 have hk2:oJ F E2:=hk.ren TU fun i j _ _ e=>e
 have hl: ∀ i,(h2 i).isSome=true->((E.shut Z).h (id i)).isSome=true:=fun i hi=>by
  obtain⟨ob,hob⟩:=Option.isSome_iff_exists.1 hi
  obtain⟨ob',b1,b2,_⟩:=TU i ob hob
  rw[uF b2,b1]; rfl
 have acH:bn E2 ts2 vs:=by
  have e:T.bY id ts2=ts2:=Cb ts2
  have:=mV hk _ _ hs _ hrep
  rw[<- e] at this
  exact rW hl _ _ this
 refine(hcall F M E2 vs hk2 rfl acH (nG _ _ hs hid) (fun i ob hi=>?_) hn).mono ?_
 ·obtain⟨ob',a1,_,_,_,a5,_⟩:=ho i ob hi
  exact⟨(hm i ob' a1).1,nG _ _ a5 (hm i ob' a1).2⟩
 ·rintro e w' ⟨v,t,E',rfl,rfl,r3,r4,r5,r6,r7,r8,r9⟩
  refine⟨v,t,E',rfl,rfl,r3,r4,r5,⟨fun g hg=>r6.s g (.inl hg),fun g hg=>r6.w g (hg.imp .inl id),r6.size,r6.os,r6.tape,r6.output,r6.dr⟩,fun i hi hsome=>?_,r8,r9⟩
  obtain⟨q1,q2,q3⟩:=r7 i hi hsome
  obtain⟨ob,hob⟩:=Option.isSome_iff_exists.1 q1
  obtain⟨ob',a1,_⟩:=ho i ob hob
  exact⟨by rw[a1]; rfl,q2,q3⟩
theorem ah.Oo{f:FuncId}{args:List V}{h h2:Hz}{n:Nat}{K:V->Hz->Prop}{KW:Nat->V->Hz->Prop}(Z:Nat->Prop)(F:Df Z h h2)(H:aF P f (V.aS args) h2.aj n fun t hp=> ∃ v h',t=v.aH/\hp=Hz.aj h'/\K v h'):ah P false none f args h n K KW:=by
 refine⟨.inl ?_⟩
 refine aF.Oo Z (aF.mono H fun t hp ⟨v,h',a,b,c⟩=>⟨v,h',a,b,(fun e=>by cases e),c⟩) (bP _) fun i ob hi=>?_
 simp only[Hz.aj,Option.map_eq_some_iff] at hi
 obtain⟨o,e1,rfl⟩:=hi
 obtain⟨o',a1,a2,a3,a4,a5,a6,a7⟩:=Ba F e1
 exact⟨o'.aG,aJ a1,a2,a3,a4,a5,a6,a7⟩
theorem ah.XF{f:FuncId}{args args':List V}{res:V}{h h2:Hz}{n:Nat}{K:V->Hz->Prop}{KW:Nat->V->Hz->Prop}(Z:Nat->Prop)(F:Df Z h h2)(S:au P f args' res)(hs:T.cu (fun _=>True) h2.aj (V.aS args') (V.aS args))(hh:res.aH.hard=true)(hK:K res h2):ah P false none f args h n K KW :=
 ah.Oo Z F (uy.lend S hs hh (fun _ e=>by cases e) ⟨res,h2,rfl,rfl,hK⟩)
end
section
variable {P:Program}
theorem YT{w w':World}(hh: ∀ g,g<w.heap.size->w'.heap[g]? =w.heap[g]?)(hs:w.heap.size<=w'.heap.size)(ho:w'.os=w.os)(ht:w'.tape=w.tape)(hp:w'.output=w.output)(hd:w.drawn<=w'.drawn) :
  ∃ q os,w'=Sort.grow (w.drewN q) os:=by
 refine⟨w'.drawn-w.drawn,w'.heap.extract w.heap.size w'.heap.size,?_⟩
 obtain⟨h1,t1,d1,o1,p1⟩:=w
 obtain⟨h2,t2,d2,o2,p2⟩:=w'
 simp only at hh hs ho ht hp hd
 subst ho ht hp
 simp only[Sort.grow,World.drewN]
 congr 1
 ·apply Array.ext_getElem?
  intro i
  rw[Array.getElem?_append]
  split
  ·rename_i hi; rw[hh i hi]
  ·rename_i hi
   simp only[Array.getElem?_extract]
   by_cases hi2:i<h2.size
   ·rw[if_pos (by omega)]
    congr 1; omega
   ·rw[Array.getElem?_eq_none (by omega),if_neg (by omega)]
 ·omega
def El(E:Env)(l:List T)(k:Nat):Type:= {p:T×List Value // p.1∈l/\aI E p.1 p.2/\p.2.length=k/\ ∀ v∈p.2,v.oneCell'=true}
theorem Qa{E:Env}{k:Nat}: ∀ {l:List T} {vs:List Value},l.length*aY k<=vs.length->(∀ j t,l[j]? =some t->t.kd=k/\(∀ v∈(vs.drop (j*aY k)).take (aY k),v.oneCell'=true)/\aI E t ((vs.drop (j*aY k)).take (aY k)))->aB E k l vs:=by
 intro l
 induction l with
 |nil=>intro vs _ _; trivial
 |cons t ts ih =>
  intro vs hl H
  simp only[List.length_cons,Nat.add_mul,Nat.one_mul] at hl
  obtain⟨h1,h2,h3⟩:=H 0 t rfl
  simp only[Nat.zero_mul,List.drop_zero] at h2 h3
  refine⟨h1,by omega,h2,h3,ih (by simp; omega) fun j u hj=>?_⟩
  have:=H (j+1) u (by simpa using hj)
  rw[List.drop_drop]
  rw[Nat.add_mul,Nat.one_mul,Nat.add_comm (j*aY k)] at this
  exact this
theorem Qb{w:World}{g:Nat}{cur:Array Value}{ty:TypeId}(h:w.heap[g]? =some (.cells cur ty (0,0)))(off:Nat):w.frozen? ⟨g,off,none⟩=false:=by
 simp[World.frozen?,h]
open Go.Proofs in
set_option maxHeartbeats 1000000 in
theorem aF.sort{ρ:Shelf.Ren}(L:SlLaysF0.n6 P ρ)(k:Nat)(hk0:0<k)(aE: ∀ w,(isAgg (ρ.t 24)).run P w= .ok true w)(zE: ∀ w,(Go.sizeOf (ρ.t 24)).run P w= .ok k w)(hcl:callable P (ρ.f 6))
  {g:Nat} (hg:g<4096) (hgc:callable P g) {l:List T} (hne:l≠[]) (hkd: ∀ t∈l,t.kd=k+1) (hfree:T.dh l=true) (hlen:l.length<4611686018427387904) (cf:T->T->Int)
  (adx: ∀ x∈l,¬ cf x x<0) (htr: ∀ x∈l,∀ y∈l,∀ z∈l,cf x y<0->cf y z<0->cf x z<0) (hnt: ∀ x∈l,∀ y∈l,∀ z∈l,¬ cf x y<0-> ¬ cf y z<0-> ¬ cf x z<0)
  (hc: ∀ x∈l,∀ y∈l,tN P g [x,y] (.int (cf x y))) (hkm:k+1≠fF) (hex: ∃ l':List T,l'.Perm l/\l'.Pairwise (fun a b=> ¬ cf b a<0)) {h:Hp} {i ty n:Nat} (hi:h i=some ⟨ty,k+1,l⟩) :
  aF P (ρ.f 6) [.own i,.fn g []] h n fun t h'=>t= .dM []/\ ∃ l',l'.Perm l/\l'.Pairwise (fun a b=> ¬ cf b a<0)/\h'=upd h i (some ⟨ty,k+1,l'⟩):=by
 refine⟨?_,hcl,fun F M E vs hk he hts hid hm hn=>?_⟩
 ·obtain⟨l',h1,h2⟩:=hex
  exact⟨_,_,rfl,l',h1,h2,rfl⟩
 subst he
 simp only[bg] at hts
 obtain⟨v0,r0,rfl,hv0,v1,r1,rfl,hv1,hnil⟩:=hts
 simp only[bn] at hnil
 subst hnil
 rw[ay rfl] at hv0 hv1
 simp only[aI] at hv0 hv1
 obtain⟨u0,hu0,hlive⟩:=hv0
 obtain⟨cs,hu1,hcs⟩:=hv1
 simp only[aV] at hcs
 have ady:v0=E.φ i:=by have:=hlive (by rw[hi]; rfl); simp only[List.cons.injEq,and_true] at hu0; rw[hu0,this]
 have hcs':cs= #[]:=Array.eq_empty_of_size_eq_zero (by simpa using congrArg List.length hcs)
 have adz:v1= .func (.func g) #[] #[]:=by simp only[List.cons.injEq,and_true] at hu1; rw[hu1,hcs',Ku hg]
 obtain⟨hob,Bh,hsz⟩:=hk.obs i _ hi
 have hrow:=hob.row hkm
 rcases hrow with ⟨a,_,hl0⟩|⟨b,c,cur,hφ,hlc,hcm,hcell,hcsz,hrr⟩
 ·exact absurd hl0 hne
 simp only at hφ hlc hcell hcsz hrr
 have TF:aY (k+1)=k:=rfl
 rw[TF] at hcsz
 have hrb:rowB (E.φ i)=some b:=by rw[hφ]; rfl
 obtain⟨hbS,hbF⟩:=hk.out i _ b hi hrb
 have hblt:b<E.w.heap.size:=hob.lt hrb
 subst ady adz
 have hlen0:0<l.length:=List.length_pos_iff.2 hne
 have hcur:l.length*k<=cur.toList.length:=by
  have:=yE hrr; rw[TF] at this; exact this
 have hget: ∀ j t,l[j]? =some t->aI E t ((cur.toList.drop (j*k)).take k)/\((cur.toList.drop (j*k)).take k).length=k/\ ∀ v∈(cur.toList.drop (j*k)).take k,v.oneCell'=true:=by
  intro j t hj
  obtain⟨hjl,rfl⟩:=List.getElem?_eq_some_iff.1 hj
  have:=uO hrr hjl
  rw[TF] at this
  obtain⟨h1,h2,h3,h4⟩:=this
  have hle:j*k+k<=cur.toList.length:=by
   have:(j+1)*k<=l.length*k:=Nat.mul_le_mul_right _ hjl
   rw[Nat.add_mul,Nat.one_mul] at this; omega
  have hlen':((cur.toList.drop (j*k)).take k).length=k:=by rw[List.length_take,List.length_drop]; omega
  have e:l.getD j .any=l[j]:=by simp[hjl]
  rw[e] at h4
  exact⟨h4,hlen',h3⟩
 let YU:(j:Fin l.length)->El E l k:=fun j=>⟨(l[j],(cur.toList.drop (j*k)).take k),List.getElem_mem j.2,(hget j l[j] (List.getElem?_eq_getElem j.2)).1,(hget j l[j] (List.getElem?_eq_getElem j.2)).2.1,(hget j l[j] (List.getElem?_eq_getElem j.2)).2.2⟩
 haveI:Inhabited (El E l k):=⟨YU ⟨0,hlen0⟩⟩
 let d:Array (El E l k):=Array.ofFn YU
 have hd:d.size=l.length:=by simp[d]
 let enc:El E l k->List Value:=fun p=>p.1.2
 let cg:El E l k->El E l k->Int:=fun p q=>cf p.1.1 q.1.1
 have hO:Sort.SWO (ltOf cg):= {
  irrefl:=fun x=>by simp only[ltOf,cg]; exact decide_eq_false (adx _ x.2.1)
  trans:=fun x y z h1 h2=>by
   simp only[ltOf,cg,decide_eq_true_eq] at h1 h2 ⊢
   exact htr _ x.2.1 _ y.2.1 _ z.2.1 h1 h2
  ntrans:=fun x y z h1 h2=>by
   simp only[ltOf,cg,decide_eq_false_iff_not] at h1 h2 ⊢
   exact hnt _ x.2.1 _ y.2.1 _ z.2.1 h1 h2}
 have henc: ∀ x:El E l k,(enc x).length=k:=fun x=>x.2.2.2.1
 have hone: ∀ x:El E l k,∀ v∈enc x,v.oneCell'=true:=fun x=>x.2.2.2.2
 have hsw: ∀ (m:Nat) (os:Array Obj) (dk:Array (El E l k)) (q:Nat),q<E.w.heap.size->q≠b->(sortWorldK enc k E.w b 0 m dk os).heap[q]? =E.w.heap[q]? :=by
  intro m os dk q hq hqb
  unfold sortWorldK
  rw[Sort.heap_grow_old _ _ (by simpa [Sort.putRowK] using hq)]
  simp only[Sort.putRowK,Sort.putRow,Sort.mapBlock,Array.getElem?_modify]
  rw[if_neg (Ne.symm hqb)]; rfl
 have hsz': ∀ (m:Nat) (os:Array Obj) (dk:Array (El E l k)),E.w.heap.size<=(sortWorldK enc k E.w b 0 m dk os).heap.size:=by
  intro m os dk
  unfold sortWorldK
  rw[Sort.size_grow]; simp[Sort.putRowK]
 have hcmp:CmpLays P g #[] enc k cg b 0 d.size E.w:=by
  intro m os dk hdk x y
  generalize hW:sortWorldK enc k E.w b 0 m dk os=W
  have hWb: ∀ q,q<E.w.heap.size->q≠b->W.heap[q]? =E.w.heap[q]? :=fun q h1 h2=>by rw[<- hW]; exact hsw m os dk q h1 h2
  have hWs:E.w.heap.size<=W.heap.size:=by rw[<- hW]; exact hsz' m os dk
  let E1:Env:= {w:=W,S:=E.S,φ:=E.φ,κ:=E.κ,h:=no}
  let F1:Fr P:= {s:=fun q=>q<W.heap.size/\ ¬ E.S q}
  have hnS: ∀ q,E.S q->q<E.w.heap.size/\q≠b:=fun q hq=>⟨hk.slt q hq,fun e=>hbS (e▸hq)⟩
  have hk1:oJ F1 E1:=by
   refine⟨(fun i ob hi=>by cases hi),(fun i ob g hi=>by cases hi),(fun i j oi oj g _ hi=>by cases hi),fun q hq=>Nat.lt_of_lt_of_le (hk.slt q hq) hWs,fun q hq=>hq.1,fun q hs hq=>hq.2 hs,fun q cs hq=>?_⟩
   obtain⟨h1,ty',m',h2⟩:=hk.gl q cs hq
   have hqb:q≠b:=fun e=>hbF (e▸h1)
   refine⟨⟨Nat.lt_of_lt_of_le (hk.flt q h1) hWs,fun hs=>hk.sf q hs h1⟩,ty',m',?_⟩
   show W.heap[q]? =_
   rw[hWb q (hk.flt q h1) hqb]; exact h2
  have hkeep:Keeps E E1 (fun _=>False):=⟨fun _ h=>h,fun q hq=>hWb q (hnS q hq).1 (hnS q hq).2,fun _ hf=>hf.elim⟩
  have hrep: ∀ z:El E l k,iY E1 z.1.1 (.agg (enc z).toArray):=fun z=>by
   have hzf:z.1.1.free=true:=fJ.1 hfree _ z.2.1
   have hzk:=hkd _ z.2.1
   exact .inl ⟨by rw[hzk]; exact Nat.succ_ne_zero _,(enc z).toArray,rfl,by simpa using eH _ _ hkeep (fM hzf) _ z.2.2.1⟩
  obtain⟨_,_,hcall⟩:=(hc x.1.1 x.2.1 y.1.1 y.2.1).call 0
  have:=hcall F1 (fun _=>False) E1 [.agg (enc x).toArray,.agg (enc y).toArray] hk1 rfl (by
   simp only[bg]; exact⟨_,_,rfl,hrep x,_,_,rfl,hrep y,rfl⟩) (bV (hc x.1.1 x.2.1 y.1.1 y.2.1).free) (yL _) (fun h=>h)
  refine(this.mono ?_)
  rintro e w' ⟨v,t,E2,rfl,rfl,⟨rfl,_⟩,hv,_,hext,_⟩
  have hv':v= .int .i64 (cg x y):=aK.1 hv
  refine⟨by rw[hv'],?_⟩
  refine YT (fun q hq=>hext.w q ?_) hext.size hext.os hext.tape hext.output hext.dr
  by_cases hs:E.S q
  ·exact .inl hs
  ·exact .inr ⟨hq,hs⟩
 have hdj: ∀ j,j<l.length->enc d[j]! =(cur.toList.drop (j*k)).take k:=by
  intro j hj
  rw[getElem!_pos d j (by rw[hd]; exact hj)]
  show(((Array.ofFn YU)[j]'(by simpa using hj)).1.2)=_
  rw[Array.getElem_ofFn]
 have hH:Sort.HoldsK enc k E.w b 0 d:=by
  intro t ht
  rw[Sort.size_flatK,hd] at ht
  refine⟨?_,Qb hcell _⟩
  have hq:t / k<l.length:=Nat.div_lt_of_lt_mul (by rw[Nat.mul_comm]; exact ht)
  have hr:t % k<k:=Nat.mod_lt _ hk0
  rw[Sort.get_flatK _ _ _ _ (by rw[hd]; exact ht),hdj _ hq,Nat.zero_add]
  have hdm:t / k*k+t % k=t:=by rw[Nat.mul_comm]; exact Nat.div_add_mod t k
  have htc:t<cur.size:=by simp at hcur; omega
  have hle:t / k*k+k<=cur.toList.length:=by
   have:(t / k+1)*k<=l.length*k:=Nat.mul_le_mul_right _ hq
   rw[Nat.add_mul,Nat.one_mul] at this; omega
  have hlt:t % k<((cur.toList.drop (t / k*k)).take k).length:=by rw[List.length_take,List.length_drop]; omega
  rw[getElem!_pos ((cur.toList.drop (t / k*k)).take k) (t % k) hlt]
  simp only[World.cell?,hcell]
  rw[List.getElem_take,List.getElem_drop]
  simp[hdm,htc]
 have hcon:=AnyQ.slices_SortFunc L k aE zE enc henc hone cg hO g #[] b 0 (c+1) d E.w hgc hcmp hH hblt (by rw[hd]; exact hlen)
 have hargs:([E.φ i,Value.func (.func g) #[] #[]]:List Value).toArray= #[.slice (some ⟨b,0,none⟩) d.size (c+1),.func (.func g) #[] #[]]:=by
  rw[hφ,hd]
 rw[hargs]
 refine hcon.mono ?_
 rintro e w' ⟨rfl,d',nn,os,hperm,hsort,hw⟩
 have hd':d'.size=l.length:=by rw[hperm.1,hd]
 let l':List T:=d'.toList.map fun p=>p.1.1
 have hl':l'.length=l.length:=by simp[l',hd']
 have hdl:d.toList.map (fun p=>p.1.1)=l:=by
  apply List.ext_getElem
  ·simp[hd]
  ·intro j h1 h2
   rw[List.getElem_map]
   have hj:j<l.length:=h2
   show((Array.ofFn YU).toList[j]'(by simpa using hj)).1.1=l[j]
   rw[Array.getElem_toList,Array.getElem_ofFn]; rfl
 have hp:l'.Perm l:=by
  have:=hperm.2.2
  have e1:(d'.extract 0 d.size)=d':=by rw[hd,<- hd']; simp
  have e2:(d.extract 0 d.size)=d:=by simp
  rw[e1,e2] at this
  have:=this.map (fun p:El E l k=>p.1.1)
  rw[hdl] at this; exact this
 have hpw:l'.Pairwise (fun a b=> ¬ cf b a<0):=by
  rw[List.pairwise_iff_getElem]
  intro x y hx hy hxy
  simp only[l',List.getElem_map,Array.getElem_toList]
  have hx':x<d'.size:=by simpa [l'] using hx
  have hy':y<d'.size:=by simpa [l'] using hy
  have:=hsort x y (Nat.zero_le _) hxy (by rw[hd,<- hd']; exact hy')
  rw[getElem!_pos d' x hx',getElem!_pos d' y hy'] at this
  simpa [ltOf,cg] using this
 let F':Array Value:=Sort.flatK enc k d'
 have hF':F'.size=l.length*k:=by simp[F',hd']
 let cs':Array Value:=Sort.putCells id 0 F' cur
 have Qc:cs'.size=cur.size:=by simp[cs',Sort.putCells]
 have hcell':w'.heap[b]? =some (.cells cs' ty (0,0)):=by
  rw[hw]
  unfold sortWorldK
  rw[Sort.heap_grow_old _ _ (by simpa [Sort.putRowK] using hblt)]
  simp only[Sort.putRowK,Sort.putRow,Sort.mapBlock,Array.getElem?_modify]
  rw[if_pos trivial]
  show(E.w.heap[b]?).map _=_
  rw[hcell]; rfl
 have hold': ∀ q,q<E.w.heap.size->q≠b->w'.heap[q]? =E.w.heap[q]? :=fun q h1 h2=>by rw[hw]; exact hsw nn os d' q h1 h2
 have hsize':E.w.heap.size<=w'.heap.size:=by rw[hw]; exact hsz' nn os d'
 let E':Env:= {w:=w',S:=E.S,φ:=E.φ,κ:=E.κ,h:=upd E.h i (some ⟨ty,k+1,l'⟩)}
 have hlf:T.dh l'=true:=by
  rw[fJ] at hfree ⊢
  exact fun t ht=>hfree t (hp.mem_iff.1 ht)
 have hext:Ext F E E':=by
  refine⟨fun _ h=>h,fun q hq=>hold' q ?_ ?_,hsize',by show w'.os=_; rw[hw]; rfl,by show w'.tape=_; rw[hw]; rfl,by show w'.output=_; rw[hw]; rfl,by show _<=w'.drawn; rw[hw]; exact Nat.le_add_right _ _⟩
  ·rcases hq with hq|hq
   ·exact hk.slt q hq
   ·exact hk.flt q hq
  ·rintro rfl
   rcases hq with hq|hq
   ·exact hbS hq
   ·exact hbF hq
 have hS:Same E E' M:=by
  intro j _ hj
  refine⟨?_,rfl,rfl⟩
  by_cases hji:j=i
  ·subst hji; rw[hi]; rfl
  ·simpa [E',upd,hji] using hj
 have hK:Keeps E E' M:=.of hext hS
 have adA:aB E' (k+1) l' cs'.toList:=by
  refine Qa (by rw[TF,hl']; simp only[Array.length_toList,Qc]; simpa using hcur) fun j t hj=>?_
  rw[TF]
  obtain⟨hjl,rfl⟩:=List.getElem?_eq_some_iff.1 hj
  have hjx:j<d'.size:=by simpa [l'] using hjl
  have ht:l'[j]=(d'[j]'(hjx)).1.1:=by simp[l']
  have hcells:(cs'.toList.drop (j*k)).take k=enc d'[j]:=by
   have hle:j*k+k<=l.length*k:=by
    have:(j+1)*k<=l.length*k:=Nat.mul_le_mul_right _ (by rw[<- hd']; exact hjx)
    rw[Nat.add_mul,Nat.one_mul] at this; exact this
   have adF:l.length*k<=cur.size:=by simpa using hcur
   apply List.ext_getElem
   ·rw[List.length_take,List.length_drop,henc]; simp only[Array.length_toList,Qc]; omega
   ·intro x hx1 hx2
    rw[henc] at hx2
    rw[List.getElem_take,List.getElem_drop,Array.getElem_toList]
    have hin:j*k+x<F'.size:=by rw[hF']; omega
    show(Sort.putCells id 0 F' cur)[j*k+x]'_=_
    simp only[Sort.putCells,Array.getElem_mapIdx,Nat.zero_le,true_and,Nat.zero_add,Nat.sub_zero]
    rw[if_pos hin]
    show F'[j*k+x]! =_
    show(Sort.flatK enc k d')[j*k+x]! =_
    rw[Sort.get_flatK _ _ _ _ (by rw[hd']; omega)]
    have e1:(j*k+x) / k=j:=by rw[Nat.mul_comm,Nat.mul_add_div hk0,Nat.div_eq_of_lt hx2,Nat.add_zero]
    have e2:(j*k+x) % k=x:=by rw[Nat.mul_comm,Nat.mul_add_mod,Nat.mod_eq_of_lt hx2]
    rw[e1,e2,getElem!_pos d' j hjx,getElem!_pos _ x (by rw[henc]; exact hx2)]
  rw[hcells,ht]
  refine⟨hkd _ d'[j].2.1,hone _,?_⟩
  exact eH _ _ hK (T.bI (fun _ h=>h.elim) _ (fM (fJ.1 hfree _ d'[j].2.1))) _ d'[j].2.2.1
 have dQ:pX E' ⟨ty,k+1,l'⟩ (E.φ i):=by
  refine .inl ⟨hkm,.inr ⟨b,c,cs',by rw[hφ]; simp only[hl'],by simp only[hl']; exact hlc,hcm,hcell',by rw[Qc]; exact hcsz,adA⟩⟩
 have hhm:lg M E.h:=hm
 refine⟨.tuple #[],.dM [],E',rfl,rfl,⟨rfl,l',hp,hpw,rfl⟩,?_,?_,hext,hS,by simp[T.ids,T.aN],?_⟩
 ·rw[ay rfl]; simp only[aI]; exact⟨#[],rfl,rfl⟩
 ·have hsome: ∀ j oj,E'.h j=some oj-> ∃ V7,E.h j=some V7:=fun j oj hj=>by
   by_cases hji:j=i
   ·subst hji; exact⟨_,hi⟩
   ·exact⟨oj,by simpa [E',upd,hji] using hj⟩
  refine⟨fun j oj hj=>?_,fun j oj q hj hq=>?_,fun j j' oj V7 q hjj hj hj' hq hq'=>?_,fun q hq=>Nat.lt_of_lt_of_le (hk.slt q hq) hsize',fun q hq=>Nat.lt_of_lt_of_le (hk.flt q hq) hsize',hk.sf,hext.gl hk⟩
  ·by_cases hji:j=i
   ·subst hji
    have:oj=⟨ty,k+1,l'⟩:=by simpa [E',upd] using hj.symm
    subst this
    exact⟨dQ,Bh,hsz⟩
   ·have hj0:E.h j=some oj:=by simpa [E',upd,hji] using hj
    obtain⟨k1,k2,k3⟩:=hk.obs j oj hj0
    refine⟨k1.keep hK (hhm j oj hj0).2 fun q hq=>hold' q (k1.lt hq) ?_,k2,k3⟩
    rintro rfl
    exact hk.sep j i oj _ q hji hj0 hi hq hrb
  ·obtain⟨V7,hj0⟩:=hsome j oj hj
   exact hk.out j V7 q hj0 hq
  ·obtain⟨o1,h1⟩:=hsome j oj hj
   obtain⟨o2,h2⟩:=hsome j' V7 hj'
   exact hk.sep j j' o1 o2 q hjj h1 h2 hq hq'
 ·intro j oj hj
  by_cases hji:j=i
  ·subst hji
   have:oj=⟨ty,k+1,l'⟩:=by simpa [E',upd] using hj.symm
   subst this
   exact⟨.inl (hhm j _ hi).1,T.ak (fun _ h=>h.elim) _ (bV hlf)⟩
  ·have hj0:E.h j=some oj:=by simpa [E',upd,hji] using hj
   exact⟨.inl (hhm j oj hj0).1,T.ak (fun _ h=>.inl h) _ (hhm j oj hj0).2⟩
end
section
variable {P:Program} {H:Type} {enc:TypeId×Value->H}
inductive Sh where
 |int
 |u64
 |str
 |bool
 |sl (k:Nat) (s:Sh)
 |st (l:List Sh)
mutual
def Sh.cells:Sh->Nat
 | .st l=>Sh.vH l
 |_=>1
def Sh.vH:List Sh->Nat
 |[]=>0
 |s::l=>s.cells+Sh.vH l
end
def Sh.kd:Sh->Nat
 | .st l=>Sh.vH l+1
 |_=>0
mutual
def Sh.fits(P:Program):Sh->TypeId->Bool
 | .int,t=>match P.underlying t with|some (.int .i64)=>true|_=>false
 | .u64,t=>match P.underlying t with|some (.int .u64)=>true|_=>false
 | .str,t=>match P.underlying t with|some .string=>true|_=>false
 | .bool,t=>match P.underlying t with|some .bool=>true|_=>false
 | .sl k s,t=>match P.underlying t with
  |some (.slice e)=>s.fits P e&&Nat.beq s.kd k&&Nat.beq (P.cellsOf e) s.cells&&Nat.blt 0 s.cells
  |_=>false
 | .st l,t=>match P.underlying t with
  |some (.struct fs)=>Sh.JI P l fs.toList 0&&Nat.beq (P.cellsOf t) (Sh.vH l)
  |_=>false
def Sh.JI(P:Program):List Sh->List Field->Nat->Bool
 |[],[],_=>true
 |s::l,f::fs,off=>s.fits P f.type&&Nat.beq f.offset off&&Nat.beq (P.cellsOf f.type) s.cells&&Sh.JI P l fs (off+s.cells)
 |_,_,_=>false
end
mutual
def Sh.aH:Sh->DataW H->T
 | .int,.lit (.int _ n)=>.int n
 | .u64,.lit (.int _ n)=>.lit (.int .u64 n)
 | .str,.lit (.string l)=>.lit (.string ⟨l.toArray⟩)
 | .bool,.lit (.bool b)=>.bool b
 | .sl k s,.slice es _=>.sl k false (es.map s.aH)
 | .sl k _,.nil=>.sl k false []
 | .st l,.agg ds=>.agg (Sh.xW l ds)
 |_,_=>.any
def Sh.xW:List Sh->List (DataW H)->List T
 |s::l,d::ds=>(s.aH d).cells++Sh.xW l ds
 |_,_=>[]
end
def Rj(v:Value):Prop:= ∀ n,v≠ .int .u8 n
mutual
def Sh.wf:Sh->DataW H->Prop
 | .int,d=> ∃ n,d= .lit (.int .i64 n)/\(Lit.int .i64 n).wf=true
 | .u64,d=> ∃ n,d= .lit (.int .u64 n)/\(Lit.int .u64 n).wf=true
 | .str,d=> ∃ l,d= .lit (.string l)
 | .bool,d=> ∃ b,d= .lit (.bool b)
 | .sl _ s,d=>d= .nil\/ ∃ es sp,d= .slice es sp/\ ∀ x∈es,s.wf x
 | .st l,d=> ∃ ds,d= .agg ds/\Sh.Lr l ds
def Sh.Lr:List Sh->List (DataW H)->Prop
 |[],ds=>ds=[]
 |s::l,ds=> ∃ d r,ds=d::r/\s.wf d/\Sh.Lr l r
end
structure Rd(E:Env)(s:Sh)(d:DataW H)(cs:List Value):Prop where
 rep:aI E (s.aH d) cs
 len:cs.length=s.cells
 one: ∀ v∈cs,v.oneCell'=true
 u8: ∀ v∈cs,Rj v
 free:(s.aH d).free=true
 kd:(s.aH d).kd=s.kd
 wf:s.wf d
structure RdL(E:Env)(l:List Sh)(ds:List (DataW H))(cs:List Value):Prop where
 rep:aV E (Sh.xW l ds) cs
 len:cs.length=Sh.vH l
 one: ∀ v∈cs,v.oneCell'=true
 u8: ∀ v∈cs,Rj v
 free:T.dh (Sh.xW l ds)=true
 cnt:(Sh.xW l ds).length=Sh.vH l
 wf:Sh.Lr l ds
theorem NY{E:Env}{k:Nat}: ∀ {l:List T} {vs:List Value},l.length*aY k<=vs.length->(∀ j t,l[j]? =some t->t.kd=k/\(∀ v∈(vs.drop (j*aY k)).take (aY k),v.oneCell'=true)/\aI E t ((vs.drop (j*aY k)).take (aY k)))->aB E k l vs:=by
 intro l
 induction l with
 |nil=>intro vs _ _; trivial
 |cons t ts ih =>
  intro vs hl H
  simp only[List.length_cons,Nat.add_mul,Nat.one_mul] at hl
  obtain⟨h1,h2,h3⟩:=H 0 t rfl
  simp only[Nat.zero_mul,List.drop_zero] at h2 h3
  refine⟨h1,by omega,h2,h3,ih (by simp; omega) fun j u hj=>?_⟩
  have:=H (j+1) u (by simpa using hj)
  rw[List.drop_drop]
  rw[Nat.add_mul,Nat.one_mul,Nat.add_comm (j*aY k)] at this
  exact this
theorem Ul{E:Env}: ∀ {a b:List T} {x y:List Value},aV E a x->aV E b y->aV E (a++b) (x++y):=by
 intro a
 induction a with
 |nil=>intro b x y h1 h2; simp only[aV] at h1; subst h1; exact h2
 |cons t a ih =>
  intro b x y h1 h2
  simp only[aV] at h1
  obtain⟨hk,v,r,rfl,h3,h4,h5⟩:=h1
  simp only[List.cons_append,aV]
  exact⟨hk,v,r++y,rfl,h3,h4,ih h5 h2⟩
theorem Um{a b:List T}(ha:T.dh a=true)(hb:T.dh b=true):T.dh (a++b)=true:=by
 rw[fJ] at *
 intro t ht
 rcases List.mem_append.1 ht with h|h
 ·exact ha t h
 ·exact hb t h
theorem NZ{E:Env}{t:T}{cs:List Value}(h:aI E t cs)(hl:t.kd=0->cs.length=1)(h1: ∀ v∈cs,v.oneCell'=true):aV E t.cells cs:=by
 have other: ∀ t:T,t.cells=[t]->t.kd=0->aI E t cs->(t.kd=0->cs.length=1)->aV E t.cells cs:=by
  intro t e k h hl
  rw[e]
  have:=hl k
  match cs,this with
  |[v],_=>simp only[aV]; exact⟨k,v,[],rfl,h1 v (by simp),h,rfl⟩
 cases t with
 |agg l=>simp only[aI] at h; exact h
 |_=>exact other _ rfl rfl h hl
theorem Qd{t:T}(h:t.free=true):T.dh t.cells=true:=by
 cases t with
 |agg l=>exact h
 |_=>simp only[T.cells,T.dh,Bool.and_true]; exact h
theorem Un{t:T}:t.cells.length=aY t.kd:=by
 cases t with
 |agg l=>rfl
 |_=>rfl
theorem Sh.mG(s:Sh):aY s.kd=s.cells:=by
 cases s<;>rfl
theorem cell?_at{w:World}{a:Addr}{v:Value}(h:w.cell? a=some v): ∃ cur ty m,w.heap[a.block]? =some (.cells cur ty m)/\a.spot=none/\cur.toList[a.off]? =some v:=by
 unfold World.cell? at h
 split at h
 ·rename_i c t f e
  split at h
  ·cases h
  ·rename_i hs
   exact⟨c,t,f,e,by simpa using hs,by simpa using h⟩
 ·cases h
theorem JJ{w:World}{base:Nat}{a:Addr}{n:Nat}{cs:List Value}(h:w.cells? base a n=some cs)(hn:0<n): ∃ cur ty m,w.heap[a.block]? =some (.cells cur ty m)/\a.spot=none/\cs=(cur.toList.drop a.off).take n:=by
 obtain⟨_,hl,hc⟩:=World.cells?_some h
 have h0:=hc 0 hn
 have e0:a.add 0=a:=by simp[Addr.add]
 rw[e0,List.getElem?_eq_getElem (by omega)] at h0
 obtain⟨cur,ty,m,h1,h2,_⟩:=cell?_at h0
 refine⟨cur,ty,m,h1,h2,?_⟩
 have key: ∀ j,j<n->cur.toList[a.off+j]? =cs[j]? :=by
  intro j hj
  have:=hc j hj
  rw[List.getElem?_eq_getElem (by omega)] at this
  obtain⟨cur',ty',m',g1,g2,g3⟩:=cell?_at this
  have eb:(a.add j).block=a.block:=by unfold Addr.add; split<;>rfl
  have eo:(a.add j).off=a.off+j:=by
   obtain⟨b,o,sp⟩:=a
   simp only at h2; subst h2
   rw[Go.WideShapes.add_plain]
  rw[eb,h1] at g1
  cases g1
  rw[eo] at g3
  rw[g3,List.getElem?_eq_getElem (by omega)]
 apply List.ext_getElem?
 intro j
 by_cases hj:j<n
 ·rw[List.getElem?_take,if_pos hj,List.getElem?_drop,key j hj]
 ·rw[List.getElem?_eq_none (by omega),List.getElem?_eq_none (by simp; omega)]
def CS(E:Env):Prop:= ∀ b cur ty m,E.w.heap[b]? =some (.cells cur ty m)->(∃ v∈cur.toList,Rj v)->E.S b
theorem WW{E:Env}{s:Sh}{k:Nat}{base:Nat}{spare:Nat->Bool}{held:Bool}(hS:CS E){t e:TypeId}(ht:P.underlying t=some (.slice e))(hk:s.kd=k)(hce:P.cellsOf e=s.cells)(hpos:0<s.cells)
  (ih: ∀ (n:Nat) (cs:List Value) (d:DataW H) (ps:List MemPlace),DataW.trod enc P E.w base spare held n e cs=some (d,ps)->Rd E s d cs)
  {n:Nat} {cs:List Value} {d:DataW H} {ps:List MemPlace} (h:DataW.trod enc P E.w base spare held n t cs=some (d,ps)):Rd E (.sl k s) d cs:=by
 rcases DataW.trod_slice ht h with ⟨rfl,hx⟩|⟨a,len,cap,elems,rest,m,_,rfl,hx,hb,hl,hm,hlen,hel,_,_⟩
 ·cases hx
  refine⟨?_,rfl,(fun v hv=>by rw[List.mem_singleton] at hv; subst hv; rfl),(fun v hv=>by rw[List.mem_singleton] at hv; subst hv; intro n e; cases e),rfl,rfl,.inl rfl⟩
  simp only[Sh.aH,aI]
  exact⟨none,0,rfl,Nat.le_refl _,nofun,.inl trivial⟩
 ·cases hx
  have hlen':(elems.map (·.1)).length=len:=by simpa using hlen
  refine⟨?_,rfl,(fun v hv=>by rw[List.mem_singleton] at hv; subst hv; rfl),(fun v hv=>by rw[List.mem_singleton] at hv; subst hv; intro n e; cases e),rfl,rfl,.inr ⟨_,_,rfl,fun x hx=>?_⟩⟩
  rotate_left
  ·obtain⟨y,hy,rfl⟩:=List.mem_map.1 hx
   obtain⟨i,hi,rfl⟩:=List.getElem_of_mem hy
   have:=hel i (by omega)
   rw[List.getElem?_eq_getElem hi] at this
   obtain⟨cs',_,h2⟩:=Option.bind_eq_some_iff.1 this
   exact(ih _ _ _ _ h2).wf
  simp only[Sh.aH,aI,List.length_map]
  refine⟨some a,cap,by rw[hlen],by omega,nofun,?_⟩
  by_cases h0:len=0
  ·left
   have:elems=[]:=List.length_eq_zero_iff.1 (by omega)
   rw[this]; rfl
  ·right
   have get: ∀ i,i<len-> ∃ cs',E.w.cells? base (a.add (i*s.cells)) s.cells=some cs'/\ ∃ x,elems[i]? =some x/\Rd E s x.1 cs':=by
    intro i hi
    have:=hel i hi
    rw[hce,List.getElem?_eq_getElem (by omega)] at this
    obtain⟨cs',h1,h2⟩:=Option.bind_eq_some_iff.1 this
    exact⟨cs',h1,elems[i],List.getElem?_eq_getElem (by omega),ih _ _ _ _ h2⟩
   obtain⟨cs0,c1,x0,_,r0⟩:=get 0 (by omega)
   obtain⟨cur,ty,mm,g1,g2,g3⟩:=JJ c1 hpos
   have ea:a.add (0*s.cells)=a:=by simp[Addr.add]
   rw[ea] at g1 g2 g3
   obtain⟨b,off,sp⟩:=a
   simp only at g1 g2 g3
   subst g2
   have hsub: ∀ i,i<len-> ∃ x,elems[i]? =some x/\Rd E s x.1 ((cur.toList.drop (off+i*s.cells)).take s.cells):=by
    intro i hi
    obtain⟨cs',q1,x,q2,q3⟩:=get i hi
    obtain⟨cur',ty',m',k1,k2,k3⟩:=JJ q1 hpos
    rw[Go.WideShapes.add_plain] at k1 k3
    simp only at k1 k3
    rw[g1] at k1; cases k1
    rw[k3] at q3
    exact⟨x,q2,q3⟩
   have hcur:len*s.cells<=(cur.toList.drop off).length:=by
    obtain⟨x,_,q⟩:=hsub (len-1) (by omega)
    have:=q.len
    rw[List.length_take,List.length_drop] at this
    rw[List.length_drop]
    have e:len*s.cells=(len-1)*s.cells+s.cells:=by
     conv=>lhs; rw[show len=(len-1)+1 by omega,Nat.add_mul,Nat.one_mul]
    omega
   refine⟨b,off,cur,ty,mm,rfl,hS b cur ty mm g1 ?_,g1,?_,?_⟩
   ·have hl0:=r0.len
    match hcs:cs0,hl0 with
    |[],hl0=>simp at hl0; omega
    |v::r,_ =>
     refine⟨v,?_,r0.u8 v (by simp)⟩
     have:v∈(cur.toList.drop off).take s.cells:=by rw[<- g3]; simp
     exact List.mem_of_mem_drop (List.mem_of_mem_take this)
   ·rw[dw]
    intro t ht
    rw[List.mem_map] at ht
    obtain⟨d,hd,rfl⟩:=ht
    rw[List.mem_map] at hd
    obtain⟨x,hx,rfl⟩:=hd
    obtain⟨i,hi,rfl⟩:=List.getElem_of_mem hx
    obtain⟨x',q1,q2⟩:=hsub i (by omega)
    rw[List.getElem?_eq_getElem hi] at q1
    cases q1
    exact fM q2.free
   ·refine NY (by rw[List.length_map,List.length_map,hlen,<- hk,Sh.mG]; exact hcur) fun j t hj=>?_
    rw[<- hk,Sh.mG]
    have hjl:j<len:=by
     rcases Nat.lt_or_ge j len with h|h
     ·exact h
     ·rw[List.getElem?_eq_none (by simp; omega)] at hj; cases hj
    obtain⟨x,q1,q2⟩:=hsub j hjl
    rw[List.getElem?_map,List.getElem?_map,q1] at hj
    simp only[Option.map_some,Option.some.injEq] at hj
    subst hj
    rw[List.drop_drop]
    exact⟨q2.kd,q2.one,q2.rep⟩
mutual
theorem Sh.read{E:Env}{base:Nat}{spare:Nat->Bool}{held:Bool}(hS:CS E):(s:Sh)->(t:TypeId)->s.fits P t=true->(n:Nat)->(cs:List Value)->(d:DataW H)->(ps:List MemPlace) ->
  DataW.trod enc P E.w base spare held n t cs=some (d,ps)->Rd E s d cs
 | .int,t,hf,n,cs,d,ps,h=>by
  simp only[Sh.fits] at hf
  split at hf
  ·rename_i e
   obtain⟨z,rfl,hx,hwf⟩:=DataW.trod_int e h
   cases hx
   refine⟨by simp[Sh.aH,aI],rfl,(fun v hv=>by rw[List.mem_singleton] at hv; subst hv; rfl),(fun v hv=>by rw[List.mem_singleton] at hv; subst hv; intro n e; cases e),rfl,rfl,⟨z,rfl,hwf⟩⟩
  ·cases hf
 | .u64,t,hf,n,cs,d,ps,h=>by
  simp only[Sh.fits] at hf
  split at hf
  ·rename_i e
   obtain⟨z,rfl,hx,hwf⟩:=DataW.trod_int e h
   cases hx
   refine⟨by simp[Sh.aH,aI],rfl,(fun v hv=>by rw[List.mem_singleton] at hv; subst hv; rfl),(fun v hv=>by rw[List.mem_singleton] at hv; subst hv; intro n e; cases e),rfl,rfl,⟨z,rfl,hwf⟩⟩
  ·cases hf
 | .str,t,hf,n,cs,d,ps,h=>by
  simp only[Sh.fits] at hf
  split at hf
  ·rename_i e
   obtain⟨z,rfl,hx,_⟩:=DataW.trod_string e h
   cases hx
   refine⟨by simp[Sh.aH,aI],rfl,(fun v hv=>by rw[List.mem_singleton] at hv; subst hv; rfl),(fun v hv=>by rw[List.mem_singleton] at hv; subst hv; intro n e; cases e),rfl,rfl,⟨_,rfl⟩⟩
  ·cases hf
 | .bool,t,hf,n,cs,d,ps,h=>by
  simp only[Sh.fits] at hf
  split at hf
  ·rename_i e
   obtain⟨z,rfl,hx⟩:=DataW.trod_bool e h
   cases hx
   refine⟨by simp[Sh.aH,aI],rfl,(fun v hv=>by rw[List.mem_singleton] at hv; subst hv; rfl),(fun v hv=>by rw[List.mem_singleton] at hv; subst hv; intro n e; cases e),rfl,rfl,⟨_,rfl⟩⟩
  ·cases hf
 | .sl k s,t,hf,n,cs,d,ps,h=>by
  simp only[Sh.fits] at hf
  split at hf
  ·rename_i e he
   simp only[Bool.and_eq_true] at hf
   obtain⟨⟨⟨f1,f2⟩,f3⟩,f4⟩:=hf
   exact WW hS he (Nat.eq_of_beq_eq_true f2) (Nat.eq_of_beq_eq_true f3) (Nat.blt_eq.mp f4) (Sh.read hS s e f1) h
  ·cases hf
 | .st l,t,hf,n,cs,d,ps,h=>by
  simp only[Sh.fits] at hf
  split at hf
  ·rename_i fs he
   simp only[Bool.and_eq_true] at hf
   obtain⟨xs,m,_,hx,hlen,hxl,hg⟩:=DataW.trod_struct he h
   cases hx
   have hct:=Nat.eq_of_beq_eq_true hf.2
   have R:=Sh.ZH hS l fs.toList 0 hf.1 m cs xs (by simpa using hxl) (fun i f hi=>by
    have:=hg i f (by simpa using hi)
    rw[<- this]) (by rw[hlen,hct]; simp)
   simp only[List.drop_zero] at R
   refine⟨by simp only[Sh.aH,aI]; exact R.rep,by rw[hlen,hct]; rfl,R.one,R.u8,R.free,?_,⟨_,rfl,R.wf⟩⟩
   show(Sh.xW l _).length+1=Sh.vH l+1
   rw[R.cnt]
  ·cases hf
theorem Sh.ZH{E:Env}{base:Nat}{spare:Nat->Bool}{held:Bool}(hS:CS E):(l:List Sh)->(fs:List Field)->(off:Nat)->Sh.JI P l fs off=true->(n:Nat)->(cs:List Value)->(xs:List (DataW H×List MemPlace))->xs.length=fs.length ->
  (∀ (i:Nat) (f:Field),fs[i]? =some f->DataW.trod enc P E.w base spare held n f.type ((cs.drop f.offset).take (P.cellsOf f.type))=xs[i]?)->cs.length=off+Sh.vH l->RdL E l (xs.map (·.1)) (cs.drop off)
 |[],[],off,hf,n,cs,xs,hl,hx,hc=>by
  have:xs=[]:=List.length_eq_zero_iff.1 (by simpa using hl)
  subst this
  have:cs.drop off=[]:=List.drop_eq_nil_of_le (by rw[hc]; simp[Sh.vH])
  rw[this]
  exact⟨rfl,rfl,(fun v hv=>by cases hv),(fun v hv=>by cases hv),rfl,rfl,rfl⟩
 |s::l,f::fs,off,hf,n,cs,xs,hl,hx,hc=>by
  simp only[Sh.JI,Bool.and_eq_true] at hf
  obtain⟨⟨⟨f1,f2⟩,f3⟩,f4⟩:=hf
  have e2:=Nat.eq_of_beq_eq_true f2
  have e3:=Nat.eq_of_beq_eq_true f3
  match xs,hl with
  |x::xs,hl =>
   have h0:=hx 0 f rfl
   rw[e2,e3] at h0
   have R0:=Sh.read hS s f.type f1 n _ x.1 x.2 h0
   simp only[Sh.vH] at hc
   have R1:=Sh.ZH hS l fs (off+s.cells) f4 n cs xs (by simpa using hl) (fun i g hi=>by
    have:=hx (i+1) g (by simpa using hi)
    simpa using this) (by omega)
   have e:cs.drop off=(cs.drop off).take s.cells++cs.drop (off+s.cells):=by
    rw[<- List.drop_drop,List.take_append_drop]
   rw[e]
   have h1:(s.aH x.1).kd=0->((cs.drop off).take s.cells).length=1:=by
    intro hk
    rw[R0.len,<- Sh.mG,<- R0.kd,hk]; rfl
   refine⟨?_,?_,?_,?_,?_,?_,⟨_,_,rfl,R0.wf,R1.wf⟩⟩
   ·simp only[List.map_cons,Sh.xW]
    exact Ul (NZ R0.rep h1 R0.one) R1.rep
   ·rw[List.length_append,R0.len,R1.len]; rfl
   ·intro v hv
    rcases List.mem_append.1 hv with h|h
    ·exact R0.one v h
    ·exact R1.one v h
   ·intro v hv
    rcases List.mem_append.1 hv with h|h
    ·exact R0.u8 v h
    ·exact R1.u8 v h
   ·simp only[List.map_cons,Sh.xW]
    exact Um (Qd R0.free) R1.free
   ·simp only[List.map_cons,Sh.xW,List.length_append,Un,R0.kd,Sh.mG,R1.cnt]; rfl
 |[],_::_,_,hf,_,_,_,_,_,_=>by simp[Sh.JI] at hf
 |_::_,[],_,hf,_,_,_,_,_,_=>by simp[Sh.JI] at hf
end
end
open Go.ChangeShapes Go.WideShapes Go.RowKit
section
variable {P:Program} {H:Type} {enc:TypeId×Value->H}
theorem Uo{W:World}(h:Lib.TabIs P W "strings.asciiSpace" .u8 Lib.asciiSpaceTab): ∀ g cs,vG P g=some cs-> ∃ ty m,W.heap[g]? =some (.cells cs ty m):=by
 intro g cs hg
 unfold vG at hg
 split at hg
 ·rename_i e
  cases hg
  unfold Lib.TabIs World.var? at h
  rw[e] at h
  simp only[Option.bind_some] at h
  split at h
  ·rename_i c ty m hc
   cases h
   exact⟨ty,m,hc⟩
  ·cases h
 ·cases hg
def WX(P:Program)(W:World):Env:=⟨W,fun g=>g<W.heap.size/\vG P g=none,fun _=>.nilFunc,fun _=>0,no⟩
def abn(P:Program):Fr P:= {s:=fun g=>(vG P g).isSome=true}
theorem WY{g:Nat}{cs:Array Value}(h:vG P g=some cs): ∀ v∈cs.toList,¬ Rj v:=by
 unfold vG at h
 split at h
 ·cases h
  intro v hv hn
  simp only[List.mem_map] at hv
  obtain⟨z,_,rfl⟩:=hv
  exact hn z rfl
 ·cases h
theorem YV{W:World}(hgl: ∀ g cs,vG P g=some cs-> ∃ ty m,W.heap[g]? =some (.cells cs ty m)):CS (WX P W):=by
 intro b cur ty m hb hv
 refine⟨(Array.getElem?_eq_some_iff.1 hb).1,?_⟩
 cases hg:vG P b with
 |none=>rfl
 |some cs =>
  obtain⟨ty',m',h⟩:=hgl b cs hg
  rw[show W.heap[b]? =_ from hb] at h
  cases h
  obtain⟨v,hv1,hv2⟩:=hv
  exact absurd hv2 (WY hg v hv1)
theorem WZ{W:World}(hgl: ∀ g cs,vG P g=some cs-> ∃ ty m,W.heap[g]? =some (.cells cs ty m)):oJ (abn P) (WX P W):=by
 refine⟨(fun i ob hi=>by cases hi),(fun i ob g hi=>by cases hi),(fun i j oi oj g _ hi=>by cases hi),fun g hg=>hg.1,fun g hg=>?_,fun g hs hg=>?_,fun g cs hg=>⟨?_,hgl g cs hg⟩⟩
 ·obtain⟨cs,hc⟩:=Option.isSome_iff_exists.1 hg
  obtain⟨ty,m,h⟩:=hgl g cs hc
  exact(Array.getElem?_eq_some_iff.1 h).1
 ·have h1:=hs.2
  have h2:(vG P g).isSome=true:=hg
  rw[h1] at h2; cases h2
 ·show(vG P g).isSome=true
  rw[hg]; rfl
def Sh.args:List Sh->List (DataW H)->List T
 |s::l,d::ds=>s.aH d::Sh.args l ds
 |_,_=>[]
def Sh.N7(P:Program):List Sh->List TypeId->Bool
 |[],[]=>true
 |s::l,t::ts=>s.fits P t&&Sh.N7 P l ts
 |_,_=>false
theorem YW{E:Env}{s:Sh}{t:TypeId}{d:DataW H}{v:Value}{W:World}{base:Nat}(hf:s.fits P t=true)(R:Rd E s d v.cells.toList)(hok:Value.okWide P W .any base t v):iY E (s.aH d) v:=by
 cases s with
 |st l =>
  simp only[Sh.fits] at hf
  split at hf
  ·rename_i fs he
   obtain⟨cs,rfl,_⟩:=okWide_struct he hok
   refine .inl ⟨by rw[R.kd]; exact Nat.succ_ne_zero _,cs,rfl,R.rep⟩
  ·cases hf
 |int =>
  simp only[Sh.fits] at hf
  split at hf
  ·rename_i he
   obtain⟨n,rfl⟩:=okWide_int he hok
   exact .inr ⟨R.kd,R.rep⟩
  ·cases hf
 |u64 =>
  simp only[Sh.fits] at hf
  split at hf
  ·rename_i he
   obtain⟨n,rfl⟩:=okWide_int he hok
   exact .inr ⟨R.kd,R.rep⟩
  ·cases hf
 |str =>
  simp only[Sh.fits] at hf
  split at hf
  ·rename_i he
   obtain⟨n,rfl⟩:=okWide_string he hok
   exact .inr ⟨R.kd,R.rep⟩
  ·cases hf
 |bool =>
  simp only[Sh.fits] at hf
  split at hf
  ·rename_i he
   obtain⟨n,rfl⟩:=okWide_bool he hok
   exact .inr ⟨R.kd,R.rep⟩
  ·cases hf
 |sl k s =>
  simp only[Sh.fits] at hf
  split at hf
  ·rename_i e he
   obtain⟨a,len,cap,rfl⟩:=okWide_slice he hok
   exact .inr ⟨R.kd,R.rep⟩
  ·cases hf
theorem W9{E:Env}{base:Nat}{spare:Nat->Bool}{held:Bool}{b2:Nat}(hS:CS E): ∀ {Ou:List Sh} {ts:List TypeId} {vs:List Value} {ds:List (DataW H)} {ps:List MemPlace},Sh.N7 P Ou ts=true->DataW.TrodAll enc P E.w base spare held ts vs ds ps ->
  (∀ (j:Nat) (t:TypeId) (v:Value),ts[j]? =some t->vs[j]? =some v->Value.okWide P E.w .any b2 t v)->bn E (Sh.args Ou ds) vs/\T.dh (Sh.args Ou ds)=true/\Sh.Lr Ou ds:=by
 intro Ou
 induction Ou with
 |nil =>
  intro ts vs ds ps hf hA hok
  cases ts with
  |nil =>
   match vs,ds,hA with
   |[],[],_=>exact⟨rfl,rfl,rfl⟩
  |cons t ts=>cases hf
 |cons s Ou ih =>
  intro ts vs ds ps hf hA hok
  cases ts with
  |nil=>cases hf
  |cons t ts =>
   match vs,ds,hA with
   |v::vs,d::ds,⟨p,q,⟨n,h1⟩,h2,_⟩ =>
    simp only[Sh.N7,Bool.and_eq_true] at hf
    have R:=Sh.read hS s t hf.1 n _ d p h1
    obtain⟨i1,i2,i3⟩:=ih hf.2 h2 fun j t' v' a b=>hok (j+1) t' v' (by simpa using a) (by simpa using b)
    refine⟨?_,?_,⟨d,ds,rfl,R.wf,i3⟩⟩
    ·simp only[Sh.args,bg]
     exact⟨v,vs,rfl,YW hf.1 R (hok 0 t v rfl rfl),i1⟩
    ·simp only[Sh.args,T.dh,Bool.and_eq_true]
     exact⟨R.free,i2⟩
theorem Ur{W:World}(hgl: ∀ g cs,vG P g=some cs-> ∃ ty m,W.heap[g]? =some (.cells cs ty m)){f:FuncId}{Ou:List Sh}{ts:List TypeId}{args:Array Value}{ds:List (DataW H)}{ps:List MemPlace}{b2:Nat}{u:Value}
  (hf:Sh.N7 P Ou ts=true) (hA:DataW.TrodAll enc P W 0 (fun _=>true) true ts args.toList ds ps) (hok: ∀ (j:Nat) (t:TypeId) (v:Value),ts[j]? =some t->args[j]? =some v->Value.okWide P W .any b2 t v)
  (S:Sh.Lr Ou ds->tN P f (Sh.args Ou ds) (.lit u)):Calls P f args W fun e W'=>e= .returned u/\Below W.heap.size W W':=by
 obtain⟨hr,hfr,hwf⟩:=W9 (E:=WX P W) (YV hgl) hf hA (fun j t v a b=>hok j t v a (by simpa using b))
 obtain⟨_,_,hcall⟩:=(S hwf).call 0
 have:=hcall (abn P) (fun _=>False) (WX P W) args.toList (WZ hgl) rfl hr (bV hfr) (yL _) (fun h=>h)
 refine this.mono ?_
 rintro e w' ⟨v,t,E2,rfl,rfl,⟨rfl,_⟩,hv,_,hext,_⟩
 refine⟨by rw[aK.1 hv],hext.os,hext.tape,hext.output,hext.size,fun g hg=>hext.w g ?_⟩
 cases hq:vG P g with
 |none=>exact .inl ⟨hg,hq⟩
 |some cs=>right; show(vG P g).isSome=true; rw[hq]; rfl
theorem IV(hl:laidOutB P=true){W W':World}(hb:Below W.heap.size W W'){sp:Nat->Bool}: ∀ {ts:List TypeId} {vs:List Value} {ds:List (DataW H)} {ps:List MemPlace},(∀ t∈ts,P.readableRec t=true/\t<P.types.size) ->
  DataW.TrodAll enc P W 0 (fun _=>true) true ts vs ds ps->(∀ x∈ps,x.block<W.heap.size)->(∀ x∈ps,sp x.block=true)->DataW.TrodAll enc P W' 0 sp true ts vs ds ps:=by
 intro ts
 induction ts with
 |nil =>
  intro vs ds ps _ h _ _
  match vs,ds,h with
  |[],[],h=>exact h
 |cons t ts ih =>
  intro vs ds ps hr h hlt hsp
  match vs,ds,h with
  |v::vs,d::ds,⟨p,q,h1,h2,e⟩ =>
   subst e
   refine⟨p,q,?_,ih (fun t ht=>hr t (by simp[ht])) h2 (fun x hx=>hlt x (by simp[hx])) (fun x hx=>hsp x (by simp[hx])),rfl⟩
   obtain⟨r1,r2⟩:=hr t (by simp)
   exact WideElems.Trod_stays hl r1 r2 h1 (fun x hx=>hb.same (hlt x (by simp[hx]))) (fun x hx=>hsp x (by simp[hx]))
theorem Xa{W:World}(hgl: ∀ g cs,vG P g=some cs-> ∃ ty m,W.heap[g]? =some (.cells cs ty m)){f:FuncId}{fn:Func}{s:ChangeSpec}{Ou:List Sh}{args:Array Value}{ds gs:List (DataW H)}{before:List MemPlace}{b2:Nat}{tb:TypeId}
  (hl:laidOutB P=true) (hrd: ∀ t∈fn.params.toList,P.readableRec t=true/\t<P.types.size) (hvars:s.vars=[]) (hres:fn.resultTypes= #[tb]) (htb:P.underlying tb=some .bool)
  (hspec:s.fn H ds= {results:=[.lit (.bool true)],args:=ds})
  (hf:Sh.N7 P Ou fn.params.toList=true) (hval: ∀ (j:Nat) (t:TypeId) (v:Value),fn.params[j]? =some t->args[j]? =some v->Value.okWide P W .any b2 t v)
  (hW:DataW.Whole enc P fn.params.toList s.vars false W args.toList ds gs before) (S:Sh.Lr Ou ds->tN P f (Sh.args Ou ds) (.bool true)) :
  Calls P f args W fun e W'=> ∃ v,e= .returned v/\s.post enc P fn false true false false W args v W':=by
 have hW':=hW
 obtain⟨p,q,hA,hV,hpq,hfz,hnd⟩:=hW
 have hV0:gs=[]/\q=[]:=by
  rw[hvars] at hV
  cases gs with
  |nil=>exact⟨rfl,hV⟩
  |cons _ _=>exact hV.elim
 obtain⟨rfl,rfl⟩:=hV0
 subst hpq
 refine(Ur hgl hf hA (fun j t v a b=>hval j t v (by simpa using a) b) S).mono ?_
 rintro e W' ⟨rfl,hb⟩
 have hlt: ∀ x∈p,x.block<W.heap.size:=fun x hx=>by simpa using hW'.lt x (by simp[hx])
 refine⟨_,rfl,?_⟩
 have hold: ∀ x∈p,(fun b=>decide (b<W.heap.size)) x.block=true:=fun x hx=>by simpa using hlt x hx
 refine⟨ds,[],p++[],[],p,[],hW',?_,?_,?_,World.keptBut_mono (fun x hx=>⟨by simpa using hx,?_⟩) (hb.frame (· ∈p)),fun h=>by cases h⟩
 ·rw[List.append_nil,hspec,hres]
  exact trodAll_mk1 (shut_bool htb true)
 ·rw[List.append_nil,hspec]
  exact IV hl hb hrd hA hlt hold
 ·rw[List.append_nil,hspec,hvars]; rfl
 ·right; simpa using hx
end
end Go.Ab
