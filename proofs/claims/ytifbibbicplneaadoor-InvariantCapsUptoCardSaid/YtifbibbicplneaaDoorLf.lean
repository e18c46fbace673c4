/-
 The typed layer, part 9: contracts of functions; loops.
-/
import Derived.Deep.Slices
import Derived.Carry
import Derived.RowKit
import Derived.Stop.LaidErr
import Derived.Deep.DeepHandedRow
import Derived.Deep.DeepWitnessRowRef
import Derived.Lib.LaidTab
import Derived.Test.YtifbibbicplneaaDoorLe
import Derived.Test.YtifbibbicplneaaDoorLd
namespace Go.Ab
section
variable {P:Program}
structure Body(P:Program)(f:FuncId)(ac:gu)(rs:List RV)(nt:Nat):Prop where
 ex: ∃ fn c,P.funcs[f]? =some fn/\fn.body=some c/\comp P c=some ac/\mg P fn.results.toList=some rs/\fn.ntmps=nt
 cl:callable P f
 dst:qp nt ac=true
def UR(m:Fm)(h:Hz):RV->Option V
 | .slot t=>m.get t
 | .cell a k=>match m.get a with
  |some v=>match ldZ h k v with|some (u,.no)=>some u|_=>none
  |none=>none
def Px(m:Fm)(h:Hz):List RV->Option (List V)
 |[]=>some []
 |r::rs=>match UR m h r,Px m h rs with
  |some v,some l=>some (v::l)
  |_,_=>none
def resV(m:Fm)(h:Hz)(rs:List RV):Option V :=
 match Px m h rs with
 |some [v]=>some v
 |some l=>some (.fU l)
 |none=>none
theorem UU{m:Fm}{h:Hz}{s:AS}(R:Rp m s.fr)(hh:s.hp=h.aj){r:RV}{v:V}(q:UR m h r=some v):r.ok s/\r.val s=v.aI:=by
 cases r with
 |slot t=>exact⟨trivial,R.getD q⟩
 |cell a k =>
  simp only[UR] at q
  split at q
  ·rename_i u hu
   split at q
   ·rename_i w hw
    cases q
    have:=UK (x:=.t a) hh hw trivial (R.ev (x:=.t a) hu)
    exact this
   ·cases q
  ·cases q
theorem Ls{m:Fm}{h:Hz}{s:AS}(R:Rp m s.fr)(hh:s.hp=h.aj): ∀ {rs:List RV} {l:List V},Px m h rs=some l->Ag s rs/\rs.map (RV.val s)=V.aT l:=by
 intro rs
 induction rs with
 |nil=>intro l q; cases q; exact⟨trivial,rfl⟩
 |cons r rs ih =>
  intro l q
  simp only[Px] at q
  split at q
  ·rename_i v l' h1 h2
   cases q
   obtain⟨a1,a2⟩:=UU R hh h1
   obtain⟨b1,b2⟩:=ih h2
   exact⟨⟨a1,b1⟩,by simp only[List.map_cons,V.aT]; rw[a2,b2]⟩
  ·cases q
theorem Jm{m:Fm}{h:Hz}{s:AS}(R:Rp m s.fr)(hh:s.hp=h.aj){rs:List RV}{v:V}(q:resV m h rs=some v):Ag s rs/\resT s rs=v.aI:=by
 unfold resV at q
 split at q
 ·rename_i u e
  cases q
  obtain⟨a,b⟩:=Ls R hh e
  refine⟨a,?_⟩
  cases rs with
  |nil=>simp[V.aT] at b
  |cons r rs =>
   cases rs with
   |nil=>simp only[List.map_cons,List.map_nil,V.aT,List.cons.injEq,and_true] at b; exact b
   |cons r' rs=>simp[V.aT] at b
 ·rename_i l hne e
  cases q
  obtain⟨a,b⟩:=Ls R hh e
  refine⟨a,?_⟩
  match rs,b,e with
  |[],b,_=>simp only[resT,V.aI]; rw[b]
  |[r],b,e =>
   cases l with
   |nil=>simp[V.aT] at b
   |cons u l =>
    cases l with
    |nil=>exact absurd rfl (hne u)
    |cons w l=>simp[V.aT] at b
  |r::r'::rs,b,_=>simp only[resT,V.aI]; rw[b]
 ·cases q
structure aB(res v:V)(h:Hz):Prop where
 ok:T.sub (fun _=>True) h.aj res.aI v.aI
def aaC(rs:List RV)(res:V):Qz
 | .exit _,_,_,_=>False
 |_,m,h,_=>match resV m h rs with
  |some v=>v.seq fun v=>aB res v h
  |none=>False
def zu:Nat->List V->Fm
 |_,[]=>[]
 |i,v::r=>(i,v)::zu (i+1) r
theorem Oj: ∀ {l:List V} {i j:Nat} {v:V},(zu i l).get j=some v-> ∃ k,j=i+k/\l[k]? =some v:=by
 intro l
 induction l with
 |nil=>intro i j v q; cases q
 |cons u r ih =>
  intro i j v q
  simp only[zu,Fm.get] at q
  cases hb:Nat.beq i j with
  |true=>rw[hb] at q; cases q; exact⟨0,(jm hb).symm,rfl⟩
  |false =>
   rw[hb] at q
   obtain⟨k,e1,e2⟩:=ih q
   exact⟨k+1,by omega,by simpa using e2⟩
theorem zx{l:List V}{n:Nat}:Rp (zu 0 l) (V.aT l++List.replicate n T.un):=by
 intro i v q
 obtain⟨k,e1,e2⟩:=Oj q
 have e:i=k:=by omega
 subst e
 have hk:i<l.length:=(List.getElem?_eq_some_iff.1 e2).1
 rw[List.getElem?_append_left (by rw[ig]; exact hk),mD,List.getElem?_map,e2]
 rfl
theorem WT:(no:Hp)=Hz.aj []:=rfl
@[reducible] def ay(P:Program)(f:FuncId)(args:List V)(res:V):Prop:=sH P f (V.aT args) res.aI
theorem ay.of{f:FuncId}{ac:gu}{rs:List RV}{nt:Nat}{args:List V}{res:V}(B:Body P f ac rs nt)(hn:args.length<=nt)(hf:V.cu args=true)(hr:res.free=true)(H:az P nt 0 ac (aaC rs res) (zu 0 args) [] 0):ay P f args res:=by
 obtain⟨fn,c,h1,h2,h3,h4,h5⟩:=B.ex
 have Du:res.aI.ids (fun _=>False):=fO (V.jO res hr)
 refine rU.xX (o:=none) h1 h2 h3 h4 B.cl h5 (V.fE args hf) (fun _ _=>Ux _ Du) (fun _=>T.bH (fun _ h=>h.elim) _ Du) (fun _ h=>by cases h) ?_
 have:=pU (P:=P) (N:=nt) (pn:=0) (s:=⟨V.aT args++List.replicate (nt-(V.aT args).length) T.un,no,0,0⟩) B.dst (by simp[ig]; omega) zx WT rfl H
 refine lN ?_ this
 rintro e s ⟨m,h,a1,a2,a3,a4,a5⟩
 have key: ∀ {m h},Rp m s.fr->s.hp=Hz.aj h->(match resV m h rs with|some v=>v.seq fun v=>aB res v h|none=>False)->Ag s rs/\T.sub (fun _=>True) s.hp res.aI (resT s rs):=by
  intro m h a2 a3 q
  split at q
  ·rename_i v hv
   rw[V.seq_eq] at q
   obtain⟨b1,b2⟩:=Jm a2 a3 hv
   exact⟨b1,by rw[b2,a3]; exact q.ok⟩
  ·exact q.elim
 cases e with
 |exit j=>exact a5.elim
 |normal=>exact key a2 a3 a5
 |ret=>exact key a2 a3 a5
theorem aB.int{a b:Int}{h:Hz}(e:a=b):aB (.int a) (.int b) h:=⟨by subst e; exact aC _⟩
theorem aB.bool{a b:Bool}{h:Hz}(e:a=b):aB (.bool a) (.bool b) h:=⟨by subst e; exact aC _⟩
theorem aB.str{a b:Str}{h:Hz}(e:a=b):aB (.str a) (.str b) h:=⟨by subst e; exact aC _⟩
theorem aB.row{a b:Rw}{k:Nat}{f:Bool}{h:Hz}(e:a=b):aB (.row k false a) (.row k f b) h:=⟨by
 subst e; simp only[V.aI,T.sub]; exact⟨.inl trivial,.inl trivial,fun h=>by cases h⟩⟩
theorem ah.pure{dr:Bool}{f:FuncId}{args:List V}{res:V}{h:Hz}{n:Nat}{K:V->Hz->Prop}{KW:Nat->V->Hz->Prop}(S:ay P f args res)(hr:res.free=true)(hK:K res h):ah P dr none f args h n K KW :=
 ⟨.inl (rU.use S (dB _) ⟨res,h,rfl,rfl,fun _=>⟨rfl,V.jO res hr⟩,hK⟩)⟩
theorem ah.mQ{dr:Bool}{b:Bool}{f:FuncId}{args:List V}{res:V}{h:Hz}{n:Nat}{K:V->Hz->Prop}{KW:Nat->V->Hz->Prop}(S:b=true->ay P f args res)(hr:res.free=true)(hK:K res h):ah P dr (some b) f args h n K KW :=
 ⟨.inl (.inl ⟨res,fun e=>rU.use (S e) (dB _) ⟨rfl,rfl⟩,hr,hK⟩)⟩
def FN(m:Fm):List Nat->Fm->(Fm->Prop)->Prop
 |[],acc,K=>K acc
 |d::r,acc,K=>match m.get d with
  |some v=>v.seq fun v=>FN m r ((d,v)::acc) K
  |none=>False
theorem x8{m:Fm}: ∀ {l:List Nat} {acc:Fm} {K:Fm->Prop},FN m l acc K->(∀ i v,acc.get i=some v->m.get i=some v)-> ∃ b,K b/\ ∀ i v,Fm.get i b=some v->m.get i=some v:=by
 intro l
 induction l with
 |nil=>intro acc K q ha; exact⟨acc,q,ha⟩
 |cons d r ih =>
  intro acc K q ha
  simp only[FN] at q
  split at q
  ·rename_i v hv
   rw[V.seq_eq] at q
   refine ih q ?_
   intro i u hu
   simp only[Fm.get] at hu
   cases hb:Nat.beq d i with
   |true=>rw[hb] at hu; cases hu; rw[<- jm hb]; exact hv
   |false=>rw[hb] at hu; exact ha i u hu
  ·exact q.elim
def Ic(m':Fm):Fm->Prop
 |[]=>True
 |p::r=>(∃ v,m'.get p.1=some v/\p.2.aI=v.aI)/\Ic m' r
theorem Ie{m':Fm}: ∀ {m0:Fm},Ic m' m0-> ∀ {i:Nat} {v:V},m0.get i=some v-> ∃ u,m'.get i=some u/\v.aI=u.aI:=by
 intro m0
 induction m0 with
 |nil=>intro _ i v q; cases q
 |cons p r ih =>
  intro hs i v q
  simp only[Fm.get] at q
  cases hb:Nat.beq p.1 i with
  |true=>rw[hb] at q; cases q; rw[<- jm hb]; exact hs.1
  |false=>rw[hb] at q; exact ih hs.2 q
def UW(nx N:Nat):Fm->Bool
 |[]=>true
 |p::r=>T.lt nx p.2.aI&&Nat.blt p.1 N&&UW nx N r
theorem sN{nx N:Nat}: ∀ {m:Fm},UW nx N m=true-> ∀ {i:Nat} {v:V},m.get i=some v->T.lt nx v.aI=true/\i<N:=by
 intro m
 induction m with
 |nil=>intro _ i v q; cases q
 |cons p r ih =>
  intro hs i v q
  simp only[UW,Bool.and_eq_true] at hs
  simp only[Fm.get] at q
  cases hb:Nat.beq p.1 i with
  |true=>rw[hb] at q; cases q; exact⟨hs.1.1,by rw[<- jm hb]; simpa using hs.1.2⟩
  |false=>rw[hb] at q; exact ih hs.2 q
def rQ(N:Nat)(m:Fm):List T:=(List.range N).map fun i=>match m.get i with|some v=>v.aI|none=>.any
theorem uK{N:Nat}{m:Fm}:(rQ N m).length=N:=by simp[rQ]
theorem Ar{N:Nat}{m:Fm}(hN: ∀ i v,m.get i=some v->i<N):Rp m (rQ N m):=by
 intro i v q
 simp only[rQ,List.getElem?_map,List.getElem?_range (hN i v q),Option.map_some,q]
theorem Py{Z:Nat->Prop}{h:Hp}: ∀ {a b:List T},a.length=b.length->(∀ (i:Nat) (t u:T),a[i]? =some t->b[i]? =some u->T.sub Z h t u)->T.dI Z h a b:=by
 intro a
 induction a with
 |nil=>intro b hl _; cases b with|nil=>trivial|cons _ _=>simp at hl
 |cons t a ih =>
  intro b hl H
  cases b with
  |nil=>simp at hl
  |cons u b=>exact⟨H 0 t u rfl rfl,ih (by simpa using hl) fun i t u h1 h2=>H (i+1) t u (by simpa using h1) (by simpa using h2)⟩
theorem Pz{Z:Nat->Prop}{h:Hp}{t:T}:T.sub Z h .any t:=by cases t<;>simp[T.sub]
theorem UY{N:Nat}{m0 m:Fm}{fr:List T}{Z:Nat->Prop}{h:Hp}(hl:fr.length=N)(R:Rp m fr)(hs: ∀ i v,m0.get i=some v-> ∃ u,m.get i=some u/\v.aI=u.aI):T.dI Z h (rQ N m0) fr:=by
 refine Py (by rw[uK,hl]) fun i t u h1 h2=>?_
 simp only[rQ,List.getElem?_map] at h1
 have hi:i<N:=by
  rcases Nat.lt_or_ge i N with h|h
  ·exact h
  ·rw[List.getElem?_eq_none (by simpa using h)] at h1; cases h1
 rw[List.getElem?_range hi] at h1
 simp only[Option.map_some,Option.some.injEq] at h1
 split at h1
 ·rename_i v hv
  obtain⟨w,hw,e⟩:=hs i v hv
  have:=R i w hw
  rw[h2] at this
  simp only[Option.some.injEq] at this
  subst h1; rw[this,e]; exact aC _
 ·subst h1; exact Pz
theorem Au{N nx:Nat}{m:Fm}(hg: ∀ i v,m.get i=some v->T.lt nx v.aI=true):T.aN (· <nx) (rQ N m):=by
 rw[bY]
 intro t ht
 simp only[rQ,List.mem_map] at ht
 obtain⟨i,_,e⟩:=ht
 split at e
 ·rename_i v hv; subst e; exact Fg (hg i v hv)
 ·subst e; simp[T.ids]
def OV.good(nx:Nat):OV->Bool
 | .row _ k r x=>(match r with| .nil=>true|r=>Nat.beq r.kd k)&&Gt k x&&T.QF nx (V.aT x)&& !(Nat.beq k eF)
 | .box _ k v=>Gt k [v]&&T.lt nx v.aI&& !(Nat.beq k eF)
 | .map _ _ x=>x.all fun e=>T.lt nx e.2.aI
def tX(nx:Nat):Hz->Bool
 |[]=>true
 |(i,some o)::r=>Nat.blt i nx&&o.good nx&&tX nx r
 |(_,none)::r=>tX nx r
theorem zQ{n:Nat}: ∀ {l:List T},T.QF n l=true->T.aN (· <n) l:=by
 intro l
 induction l with
 |nil=>intro _; trivial
 |cons t l ih =>
  intro q
  simp only[T.QF,Bool.and_eq_true] at q
  exact⟨Fg q.1,ih q.2⟩
theorem Rw.ids{M:Nat->Prop}(r:Rw):T.aN M r.aT:=by
 rw[bY]
 intro t ht
 cases r<;>simp only[Rw.aT,List.mem_map,List.not_mem_nil] at ht<;>obtain⟨x,_,rfl⟩:=ht<;>simp[eS,T.ids,T.aN,NZ,Lc,DZ,N7,nJ,nP]
theorem Rw.kds{r:Rw}: ∀ t∈r.aT,t.kd=r.kd:=by
 intro t ht
 cases r<;>simp only[Rw.aT,List.mem_map,List.not_mem_nil] at ht<;>obtain⟨x,_,rfl⟩:=ht<;>rfl
theorem WU{k:Nat}{l:List V}(q:Gt k l=true): ∀ t∈V.aT l,t.kd=k:=by
 intro t ht
 rw[mD,List.mem_map] at ht
 obtain⟨v,hv,rfl⟩:=ht
 exact V.Jj (DT q v hv)
theorem PD{k:Nat}{l:List T}(hk:k≠eF)(h: ∀ t∈l,t.kd=k):Ph k l=true:=by
 unfold Ph
 have:(k==1000000007)=false:=by simpa using hk
 rw[this]; simp only[cond_false,List.all_eq_true,beq_iff_eq]; exact h
theorem OV.Aw{nx:Nat}{o:OV}(q:o.good nx=true):T.aN (· <nx) o.aF.l/\Ph o.aF.k o.aF.l=true:=by
 cases o with
 |row ty k r x =>
  simp only[OV.good,Bool.and_eq_true,Bool.not_eq_true'] at q
  obtain⟨⟨⟨q1,q2⟩,q3⟩,q4⟩:=q
  simp only[OV.aF]
  refine⟨dQ.2 ⟨r.ids,zQ q3⟩,PD (Nat.ne_of_beq_eq_false q4) fun t ht=>?_⟩
  rcases List.mem_append.1 ht with ht|ht
  ·split at q1
   ·cases ht
   ·rw[<- jm q1]; exact Rw.kds t ht
  ·exact WU q2 t ht
 |box ty k v =>
  simp only[OV.good,Bool.and_eq_true,Bool.not_eq_true'] at q
  obtain⟨⟨q1,q2⟩,q3⟩:=q
  simp only[OV.aF]
  refine⟨⟨Fg q2,trivial⟩,PD (Nat.ne_of_beq_eq_false q3) fun t ht=>?_⟩
  rw[List.mem_singleton] at ht; subst ht; exact Rz q1
 |map ty es x =>
  simp only[OV.good,List.all_eq_true] at q
  simp only[OV.aF]
  refine⟨?_,?_⟩
  ·rw[bY]
   intro t ht
   rcases List.mem_append.1 ht with ht|ht
   ·rw[List.mem_map] at ht
    obtain⟨e,_,rfl⟩:=ht
    simp[Dl,T.ids,T.aN]
   ·rw[List.mem_map] at ht
    obtain⟨e,he,rfl⟩:=ht
    simp only[TD,T.ids,T.aN]; exact⟨trivial,Fg (q e he),trivial⟩
  ·unfold Ph
   simp[eF,gG,Dl,TD]
theorem nR{nx:Nat}: ∀ {h:Hz},tX nx h=true->ZE nx h.aj:=by
 intro h
 induction h with
 |nil=>intro _ i ob e; simp[Hz.aj,Hz.get] at e
 |cons p r ih =>
  obtain⟨j,o⟩:=p
  intro q
  rw[aZ]
  cases o with
  |none=>exact Wy (ih q)
  |some o =>
   simp only[tX,Bool.and_eq_true] at q
   obtain⟨g1,g2⟩:=OV.Aw q.1.2
   exact Wx (ih q.2) (by simpa using q.1.1) g1 g2
def wZ(nx:Nat):Hz->Hz
 |[]=>[]
 |(i,o)::r=>bif Nat.blt i nx then(i,o)::wZ nx r else wZ nx r
theorem FP{nx i:Nat}(hi:i<nx): ∀ {h:Hz},(wZ nx h).get i=h.get i:=by
 intro h
 induction h with
 |nil=>rfl
 |cons p r ih =>
  obtain⟨j,o⟩:=p
  simp only[wZ]
  cases hb:Nat.blt j nx with
  |true=>simp only[cond_true,Hz.get]; cases Nat.beq j i<;>simp[ih]
  |false =>
   simp only[cond_false,Hz.get]
   have hne:Nat.beq j i=false:=by
    cases e:Nat.beq j i with
    |false=>rfl
    |true =>
     have:=jm e; subst this
     have:Nat.blt j nx=true:=by simpa using hi
     rw[this] at hb; cases hb
   rw[hne]; exact ih
structure aaD{ι:Type}(inv:ι->Prop)(μ:ι->Nat)(vars:ι->Fm)(base:Fm)(hs:Hz)(nx:Nat)(i:ι)(m:Fm)(h:Hz):Prop where
 ok: ∃ j,inv j/\μ j<μ i/\Ic m (vars j)/\Ic m base/\wZ nx h=hs
theorem get_append{a b:Fm}{i:Nat}{v:V}(q:Fm.get i (a++b)=some v):a.get i=some v\/Fm.get i b=some v:=by
 induction a with
 |nil=>exact .inr q
 |cons p r ih =>
  simp only[List.cons_append,Fm.get] at q ⊢
  cases hb:Nat.beq p.1 i with
  |true=>rw[hb] at q; exact .inl q
  |false=>rw[hb] at q; exact ih q
theorem aY.same{N pn nx:Nat}{b:gu}{Q:Qz}{m:Fm}{h:Hz}{ι:Type}(live:List Nat)(vars:ι->Fm)(inv:ι->Prop)(μ:ι->Nat)(i0:ι)(hd:qp N b=true)(hp:pn<=nx)(hg:tX nx h=true)(hv: ∀ i,UW nx N (vars i)=true)(h0:inv i0)(he:Ic m (vars i0))
  (H:FN m live [] fun base=>UW nx N base=true/\ ∀ i,inv i->az P N pn b (fun e m' h' n'=>match e with
   | .normal=>aaD inv μ vars base (wZ nx h) nx i m' h'
   |e=>Q e m' h' n') (vars i++base) h nx):aY P N pn b Q m h nx:=by
 obtain⟨base,⟨hb,H⟩,hbm⟩:=x8 H (fun i v q=>by cases q)
 refine⟨fun fr hl R=>?_⟩
 have hall: ∀ i j v,Fm.get j (vars i++base)=some v->T.lt nx v.aI=true/\j<N:=fun i j v q=>by
  rcases get_append q with q|q
  ·exact sN (hv i) q
  ·exact sN hb q
 have wk: ∀ (i:ι) (m':Fm) (h':Hz) (s':AS),s'.fr.length=N->Rp m' s'.fr->s'.hp=h'.aj->s'.pin=pn->Ic m' (vars i)->(∀ j v,Fm.get j base=some v-> ∃ u,m'.get j=some u/\v.aI=u.aI)->wZ nx h'=wZ nx h ->
   Wk ⟨rQ N (vars i++base),h.aj,nx,pn⟩ s':=by
  intro i m' h' s' a1 a2 a3 a4 a5 a6 a7
  obtain⟨fr',hp',nx',pn'⟩:=s'
  simp only at a1 a2 a3 a4
  subst a3; subst a4
  refine Wk.same (UY a1 a2 fun j v q=>?_) (Au fun j v q=>(hall i j v q).1) (nR hg) (fun j hj=>?_) hp
  ·rcases get_append q with q|q
   ·exact Ie a5 q
   ·exact a6 j v q
  ·simp only[Hz.aj]; rw[<- FP hj,a7,FP hj]
 refine vS.rule (fun i=>⟨rQ N (vars i++base),h.aj,nx,pn⟩) inv μ i0 h0 (wk i0 m h _ hl R rfl rfl he (fun j v q=>⟨v,hbm j v q,rfl⟩) rfl) ?_
 intro i hi
 have:=pU (P:=P) (N:=N) (pn:=pn) (s:=⟨rQ N (vars i++base),h.aj,nx,pn⟩) hd uK (Ar fun j v q=>(hall i j v q).2) rfl rfl (H i hi)
 refine lN ?_ this
 rintro e s' ⟨m',h',a1,a2,a3,a4,a5⟩
 cases e with
 |normal =>
  obtain⟨j,b1,b2,b3,b4,b5⟩:=a5.ok
  exact⟨j,⟨b1,b2⟩,wk j m' h' s' a1 a2 a3 a4 b3 (fun j v q=>Ie b4 q) b5⟩
 |exit j=>exact⟨m',h',a1,a2,a3,a4,a5⟩
 |ret=>exact⟨m',h',a1,a2,a3,a4,a5⟩
end
def sq(l:List aJ)(c:gu):gu:=.seq (.reg false l) c
def qm(d x:Nat):aJ:=o d (.mv (.t x))
def bQ(d:Nat)(n:Int):aJ:=o d (.mv (.c (.int n)))
def qv(d:Nat)(b:Bool):aJ:=o d (.mv (.c (.bool b)))
def qb(op:BinOp)(d x y:Nat):aJ:=o d (.bin op (.t x) (.t y))
def qk(op:BinOp)(d x:Nat)(n:Int):aJ:=o d (.bin op (.t x) (.c (.int n)))
def ql(d k x:Nat):aJ:=o d (.ld k (.t x))
def qf(d a k x:Nat):aJ:=o d (.fa a k (.t x))
def qi(d k x y:Nat):aJ:=o d (.ia k (.t x) (.t y))
def qn(d x:Nat):aJ:=o d (.len false (.t x))
def qo(d a b:Nat):aJ:=o d (.pick (.t a) (.c (.bool true)) (.t b))
def qa(d a b:Nat):aJ:=o d (.pick (.t a) (.t b) (.c (.bool false)))
def qx(d x:Nat):aJ:=o d (.not (.t x))
def qe(d x i:Nat):aJ:=o d (.ex (.t x) i)
def qB(d:Nat)(ty:TypeId)(k x:Nat):aJ:=o d (.box ty k (.t x))
def qs(k x y:Nat):aJ:=ov (.st k (.t x) (.t y))
def qC(d:Nat)(f:FuncId)(l:List Nat):aJ:=o d (.call f (l.map .t))
def aJ.w(q:aJ)(g:Nat):aJ:=⟨q.d,q.op,some (g,true),q.fl,q.ne,q.ad⟩
def aJ.n(q:aJ)(g:Nat):aJ:=⟨q.d,q.op,some (g,false),q.fl,q.ne,q.ad⟩
theorem Body.of{P:Program}{f:FuncId}{fn:Func}{ac:gu}{rs:List RV}{nt:Nat}(h1:P.funcs[f]? =some fn)(h2:(fn.body.isSome,comp P (fn.body.getD .skip),mg P fn.results.toList,fn.ntmps,qp nt ac)=(true,some ac,some rs,nt,true))(h3:callable P f):Body P f ac rs nt:=by
 simp only[Prod.mk.injEq] at h2
 obtain⟨a,b,c,d,e⟩:=h2
 obtain⟨cd,hc⟩:=Option.isSome_iff_exists.1 a
 rw[hc] at b
 exact⟨⟨fn,cd,h1,hc,b,c,d⟩,h3,e⟩
section
variable {P:Program}
def bZ(a b:List T):Prop:= ∀ (Z:Nat->Prop) (h:Hp),T.dI Z h a b
theorem bZ.refl(a:List T):bZ a a:=fun _ _=>dB a
def OV.Iw:OV->Bool
 | .row _ _ _ x=>V.cu x
 | .box _ _ v=>v.free
 | .map _ _ x=>V.cu (x.map (·.2))
theorem OV.DU{o:OV}(q:o.Iw=true):T.aN (fun _=>False) o.aF.l:=by
 cases o with
 |row ty k r x=>exact dQ.2 ⟨r.ids,bV (V.fE x q)⟩
 |box ty k v=>exact⟨fO (V.jO v q),trivial⟩
 |map ty es x =>
  simp only[OV.Iw] at q
  refine dQ.2 ⟨bY.2 fun t ht=>?_,bY.2 fun t ht=>?_⟩
  ·obtain⟨e,_,rfl⟩:=List.mem_map.1 ht
   simp[Dl,T.ids,T.aN]
  ·obtain⟨e,he,rfl⟩:=List.mem_map.1 ht
   simp only[TD,T.ids,T.aN]
   refine⟨trivial,?_,trivial⟩
   have:=bV (V.fE _ q)
   rw[bY] at this
   exact this _ (by rw[mD,List.map_map]; exact List.mem_map.2 ⟨e,he,rfl⟩)
theorem OV.zI{o:OV}(q:o.Iw=true)(ρ:Nat->Nat):T.bT ρ o.aF.l=o.aF.l:=qF _ (OV.DU q)
def nH:List (Nat×OV)->List Nat->Nat->Nat
 |(c,_)::r,n::s,i=>bif Nat.beq i c then n else nH r s i
 |_,_,i=>i
def Ec(n:Nat):List Nat->Bool
 |[]=>true
 |m::r=> !(Nat.beq n m)&&Ec n r
def RG(nx pn:Nat)(h:Hz):List (Nat×OV)->List Nat->Prop
 |[],[]=>True
 |(c,o)::r,n::s=>(Nat.blt c nx=true/\(Nat.blt c pn=true->n=c)/\Ec n s=true/\o.good nx=true/\o.Iw=true /\
   ∃ o',h.get n=some o'/\o'.aF.ty=o.aF.ty/\o'.aF.k=o.aF.k/\bZ o.aF.l o'.aF.l)/\RG nx pn h r s
 |_,_=>False
def xg:List (Nat×OV)->List Nat->List (Nat×Nat×Ob)
 |(c,o)::r,n::s=>(c,n,o.aF)::xg r s
 |_,_=>[]
def Jz(l:List (Nat×OV)):Hz:=l.map fun p=>(p.1,some p.2)
theorem FQ: ∀ {l:List (Nat×OV)} {s:List Nat} {i:Nat},zl (xg l s) i=nH l s i:=by
 intro l
 induction l with
 |nil=>intro s i; cases s<;>rfl
 |cons p r ih =>
  obtain⟨c,o⟩:=p
  intro s i
  cases s with
  |nil=>rfl
  |cons n s =>
   simp only[xg,zl,nH]
   rw[ih]
   cases hb:Nat.beq i c with
   |true=>rw[if_pos (jm hb)]; rfl
   |false=>rw[if_neg (Nat.ne_of_beq_eq_false hb)]; rfl
theorem WV{nx pn:Nat}{h:Hz}: ∀ {l:List (Nat×OV)} {s:List Nat},RG nx pn h l s->hpL (xg l s)=(Jz l).aj:=by
 intro l
 induction l with
 |nil=>intro s q; cases s with
  |nil=>rfl
  |cons _ _=>exact q.elim
 |cons p r ih =>
  obtain⟨c,o⟩:=p
  intro s q
  cases s with
  |nil=>exact q.elim
  |cons n s =>
   simp only[xg,hpL]
   have e:Jz ((c,o)::r)=(c,some o)::Jz r:=rfl
   rw[e,aZ,ih q.2]; rfl
theorem Lu{n:Nat}: ∀ {l:List (Nat×OV)} {s:List Nat},Ec n s=true-> ¬ Jd (xg l s) n:=by
 intro l
 induction l with
 |nil=>intro s _ q; cases s<;>exact q
 |cons p r ih =>
  obtain⟨c,o⟩:=p
  intro s hs q
  cases s with
  |nil=>exact q
  |cons m s =>
   simp only[Ec,Bool.and_eq_true] at hs
   simp only[xg,Jd] at q
   rcases q with q|q
   ·rw[q,Nat.beq_refl] at hs; cases hs.1
   ·exact ih hs.2 q
theorem WW{nx pn:Nat}{h:Hz}{Z:Nat->Prop}{ρ:Nat->Nat}: ∀ {l:List (Nat×OV)} {s:List Nat},RG nx pn h l s->XE Z ρ h.aj nx pn (xg l s):=by
 intro l
 induction l with
 |nil=>intro s _; cases s<;>trivial
 |cons p r ih =>
  obtain⟨c,o⟩:=p
  intro s q
  cases s with
  |nil=>exact q.elim
  |cons n s =>
   obtain⟨⟨q1,q2,q3,q4,q5,o',q6,q7,q8,q9⟩,q⟩:=q
   obtain⟨g1,g2⟩:=OV.Aw q4
   refine⟨⟨Nat.blt_eq.mp q1,fun hc=>q2 (Nat.blt_eq.mpr hc),Lu q3,g1,g2,o'.aF.l,?_,?_⟩,ih q⟩
   ·have:=aK q6
    show h.aj n=some ⟨o.aF.ty,o.aF.k,o'.aF.l⟩
    rw[this,<- q7,<- q8]
   ·show T.dI Z h.aj (T.bT ρ o.aF.l) o'.aF.l
    rw[OV.zI q5]; exact q9 _ _
def nC(ρ:Nat->Nat)(m':Fm):Fm->Prop
 |[]=>True
 |(i,v)::r=>(∃ u,m'.get i=some u/\bZ [v.aI.ren ρ] [u.aI])/\nC ρ m' r
theorem qL{ρ:Nat->Nat}{m':Fm}: ∀ {m0:Fm},nC ρ m' m0-> ∀ {i:Nat} {v:V},m0.get i=some v-> ∃ u,m'.get i=some u/\bZ [v.aI.ren ρ] [u.aI]:=by
 intro m0
 induction m0 with
 |nil=>intro _ i v q; cases q
 |cons p r ih =>
  obtain⟨j,w⟩:=p
  intro hs i v q
  simp only[Fm.get] at q
  cases hb:Nat.beq j i with
  |true=>rw[hb] at q; cases q; rw[<- jm hb]; exact hs.1
  |false=>rw[hb] at q; exact ih hs.2 q
theorem bZ.eq{a b:T}(h:a=b):bZ [a] [b]:=by subst h; exact .refl _
theorem Cc{N:Nat}{m0 m:Fm}{fr:List T}{Z:Nat->Prop}{h:Hp}{ρ:Nat->Nat}(hl:fr.length=N)(R:Rp m fr)(hs: ∀ i v,m0.get i=some v-> ∃ u,m.get i=some u/\bZ [v.aI.ren ρ] [u.aI]):T.dI Z h (T.bT ρ (rQ N m0)) fr:=by
 refine Py (by rw[pO,uK,hl]) fun i t u h1 h2=>?_
 have e: ∀ l:List T,T.bT ρ l=l.map (T.ren ρ):=by
  intro l
  induction l with
  |nil=>rfl
  |cons a l ih=>simp only[T.bT,List.map_cons,ih]
 rw[e] at h1
 simp only[rQ,List.getElem?_map] at h1
 have hi:i<N:=by
  rcases Nat.lt_or_ge i N with h|h
  ·exact h
  ·rw[List.getElem?_eq_none (by simpa using h)] at h1; cases h1
 rw[List.getElem?_range hi] at h1
 simp only[Option.map_some,Option.some.injEq] at h1
 split at h1
 ·rename_i v hv
  obtain⟨w,hw,e⟩:=hs i v hv
  have:=R i w hw
  rw[h2] at this
  simp only[Option.some.injEq] at this
  subst h1; rw[this]; exact(e Z h).1
 ·subst h1; exact Pz
structure aaE{ι:Type}(inv:ι->Prop)(μ:ι->Nat)(vars:ι->Fm)(objs:ι->List (Nat×OV))(base:Fm)(nx pn:Nat)(i:ι)(m:Fm)(h:Hz):Prop where
 ok: ∃ j nw,inv j/\μ j<μ i/\nC (nH (objs j) nw) m (vars j)/\nC (nH (objs j) nw) m base/\RG nx pn h (objs j) nw
theorem aY.objs{N pn nx0:Nat}(nx:Nat){b:gu}{Q:Qz}{m:Fm}{h:Hz}{ι:Type}(live:List Nat)(vars:ι->Fm)(objs:ι->List (Nat×OV))(inv:ι->Prop)(μ:ι->Nat)(i0:ι)(MC:List Nat)(hd:qp N b=true)(hp:pn<=nx)(hv: ∀ i,UW nx N (vars i)=true)(h0:inv i0)
  (he:nC (nH (objs i0) MC) m (vars i0)) (ho:RG nx pn h (objs i0) MC)
  (H:FN m live [] fun base=>nC (nH (objs i0) MC) m base/\UW nx N base=true/\ ∀ i,inv i->az P N pn b (fun e m' h' n'=>match e with
   | .normal=>aaE inv μ vars objs base nx pn i m' h'
   |e=>Q e m' h' n') (vars i++base) (Jz (objs i)) nx):aY P N pn b Q m h nx0:=by
 obtain⟨base,⟨hbs,hb,H⟩,hbm⟩:=x8 H (fun i v q=>by cases q)
 refine⟨fun fr hl R=>?_⟩
 have hall: ∀ i j v,Fm.get j (vars i++base)=some v->T.lt nx v.aI=true/\j<N:=fun i j v q=>by
  rcases get_append q with q|q
  ·exact sN (hv i) q
  ·exact sN hb q
 have wk: ∀ (i:ι) (nw:List Nat) (m':Fm) (h':Hz) (s':AS),s'.fr.length=N->Rp m' s'.fr->s'.hp=h'.aj->s'.pin=pn->nC (nH (objs i) nw) m' (vars i)->nC (nH (objs i) nw) m' base->RG nx pn h' (objs i) nw ->
   Wk ⟨rQ N (vars i++base),(Jz (objs i)).aj,nx,pn⟩ s':=by
  intro i nw m' h' s' a1 a2 a3 a4 a5 a6 a7
  obtain⟨fr',hp',nx',pn'⟩:=s'
  simp only at a1 a2 a3 a4
  subst a3; subst a4
  rw[<- WV a7]
  refine Wk.objs (xg (objs i) nw) (Cc a1 a2 fun j v q=>?_) (Au fun j v q=>(hall i j v q).1) hp (WW a7)
  have e:zl (xg (objs i) nw)=nH (objs i) nw:=funext fun _=>FQ
  rw[e]
  rcases get_append q with q|q
  ·exact qL a5 q
  ·exact qL a6 q
 refine vS.rule (fun i=>⟨rQ N (vars i++base),(Jz (objs i)).aj,nx,pn⟩) inv μ i0 h0 (wk i0 MC m h _ hl R rfl rfl he hbs ho) ?_
 intro i hi
 have:=pU (P:=P) (N:=N) (pn:=pn) (s:=⟨rQ N (vars i++base),(Jz (objs i)).aj,nx,pn⟩) hd uK (Ar fun j v q=>(hall i j v q).2) rfl rfl (H i hi)
 refine lN ?_ this
 rintro e s' ⟨m',h',a1,a2,a3,a4,a5⟩
 cases e with
 |normal =>
  obtain⟨j,nw,b1,b2,b3,b4,b5⟩:=a5.ok
  exact⟨j,⟨b1,b2⟩,wk j nw m' h' s' a1 a2 a3 a4 b3 b4 b5⟩
 |exit j=>exact⟨m',h',a1,a2,a3,a4,a5⟩
 |ret=>exact⟨m',h',a1,a2,a3,a4,a5⟩
theorem aY.nil{N pn nx:Nat}{b:gu}{Q:Qz}{m:Fm}{h:Hz}(d ty k:Nat){k':Nat}{r:Rw}(hd:m.get d=some (.row k' true r))(hr:r.aT=[])(hk:vX k=true)(hN:Nat.blt d N=true)
  (H:aY P N pn b Q ((d,.own nx)::m) ((nx,some (.row ty k .nil []))::h) (nx+1)):aY P N pn b Q m h nx:=by
 refine⟨fun fr hl R=>?_⟩
 have hdl:d<fr.length:=by rw[hl]; exact Nat.blt_eq.mp hN
 have hget:fr.getD d .any= .sl k' true []:=by
  rw[R.getD hd]; simp only[V.aI,hr]
 have H':=H.ok (fr.set d (.own nx)) (by simpa using hl) (fun i v q=>by
  simp only[Fm.get] at q
  cases hb:Nat.beq d i with
  |true=>rw[hb] at q; cases q; rw[<- jm hb]; simp[hdl,V.aI]
  |false =>
   rw[hb] at q
   rw[List.getElem?_set_ne (Nat.ne_of_beq_eq_false hb)]; exact R i v q)
 have e:Hz.aj ((nx,some (.row ty k .nil []))::h)=upd h.aj nx (some ⟨ty,k,[]⟩):=by rw[aZ]; rfl
 rw[e] at H'
 obtain⟨I,μ,⟨s0,w0,i0⟩,round⟩:=H'
 exact⟨I,μ,⟨s0,Wk.Wu d ty k hget hk w0,i0⟩,round⟩
structure jG(h0:Hz)(n:Nat)(post:T->Hp->Prop)(v:V)(h:Hz):Prop where
 ok: ∃ (Z:Nat->Prop) (ρ:Nat->Nat) (t:T) (h':Hp),post t h'/\T.sub Z h.aj (t.ren ρ) v.aI/\(∀ i ob,h' i=some ob-> ∃ ob',h.aj (ρ i)=some ob'/\ ¬ Z (ρ i)/\Gv Z h.aj ρ ob ob') /\
  (∀ i j,(h' i).isSome=true->(h' j).isSome=true->ρ i=ρ j->i=j)/\t.ids (fun i=>(h0.aj i).isSome=true\/i=n)/\nG (fun i=>(h0.aj i).isSome=true\/i=n) h' /\
  ∀ i,(h0.aj i).isSome=true->(h' i).isSome=true->ρ i=i
def aaF(h0:Hz)(n:Nat)(post:T->Hp->Prop)(rs:List RV):Qz
 | .exit _,_,_,_=>False
 |_,m,h,_=>match resV m h rs with
  |some v=>v.seq fun v=>jG h0 n post v h
  |none=>False
theorem oC.of{f:FuncId}{ac:gu}{rs:List RV}{nt nx n:Nat}{args:List V}{h0:Hz}{post:T->Hp->Prop}(B:Body P f ac rs nt)(hn:args.length<=nt)(hin: ∃ t h',post t h')(ha:T.QF nx (V.aT args)=true)(hg:tX nx h0=true)
  (H:az P nt nx ac (aaF h0 n post rs) (zu 0 args) h0 nx):aO P f (V.aT args) h0.aj n post:=by
 obtain⟨fn,c,h1,h2,h3,h4,h5⟩:=B.ex
 have hG:=nR hg
 refine aO.xX (nx:=nx) h1 h2 h3 h4 B.cl h5 hin (zQ ha) (fun i ob hi=>⟨(hG i ob hi).1,(hG i ob hi).2.1⟩) ?_
 have:=pU (P:=P) (N:=nt) (pn:=nx) (s:=⟨V.aT args++List.replicate (nt-(V.aT args).length) T.un,h0.aj,nx,nx⟩) B.dst (by simp[ig]; omega) zx rfl rfl H
 refine lN ?_ this
 rintro e s ⟨m,h,a1,a2,a3,a4,a5⟩
 have key: ∀ {m h},Rp m s.fr->s.hp=Hz.aj h->(match resV m h rs with|some v=>v.seq fun v=>jG h0 n post v h|none=>False)-> ∃ s1,ER s1 s/\Ret h0.aj n post rs s1:=by
  intro m h a2 a3 q
  split at q
  ·rename_i v hv
   rw[V.seq_eq] at q
   obtain⟨b1,b2⟩:=Jm a2 a3 hv
   obtain⟨Z,ρ,t,h',c1,c2,c3,c4,c5,c6,c7⟩:=q.ok
   exact⟨s,.refl _,b1,Z,ρ,t,h',c1,by rw[b2,a3]; exact c2,by rw[a3]; exact c3,c4,c5,c6,c7⟩
  ·exact q.elim
 cases e with
 |exit j=>exact a5.elim
 |normal=>exact key a2 a3 a5
 |ret=>exact key a2 a3 a5
theorem jG.one{h0 h:Hz}{n c j:Nat}{post:T->Hp->Prop}{v:V}{o:OV}{t:T}(hj:h.get j=some o)(hg:o.good (j+1)=true)(hf:o.Iw=true)(hc:(h0.get c).isSome=true->j=c)(hc':(h0.get c).isSome=true\/c=n)
  (ht:t.ids (fun i=>i=c)) (hv:bZ [t.ren fun _=>j] [v.aI]) (hp:post t (Hz.aj [(c,some o)])):jG h0 n post v h:=by
 have hgood:=(OV.Aw hg).2
 have hM: ∀ i,i=c->(h0.aj i).isSome=true\/i=n:=by
  rintro i rfl
  rcases hc' with h|h
  ·left; simpa [Hz.aj] using h
  ·exact .inr h
 have hx: ∀ i ob,Hz.aj [(c,some o)] i=some ob->i=c/\ob=o.aF:=fun i ob hi=>by
  simp only[Hz.aj,Hz.get] at hi
  cases hb:Nat.beq c i with
  |true=>rw[hb] at hi; simp only[cond_true,Option.map_some,Option.some.injEq] at hi; exact⟨(jm hb).symm,hi.symm⟩
  |false=>rw[hb] at hi; simp at hi
 refine⟨fun i=>i≠j,fun _=>j,t,Hz.aj [(c,some o)],hp,(hv _ _).1,fun i ob hi=>?_,fun i i' hi hi' _=>?_,T.bH hM _ ht,fun i ob hi=>?_,fun i hi hi'=>?_⟩
 ·obtain⟨rfl,rfl⟩:=hx i ob hi
  refine⟨o.aF,aK hj,by simp,rfl,rfl,?_,wU hgood⟩
  rw[OV.zI hf]; exact dB _
 ·obtain⟨oi,hi⟩:=Option.isSome_iff_exists.1 hi
  obtain⟨oj,hi'⟩:=Option.isSome_iff_exists.1 hi'
  rw[(hx _ _ hi).1,(hx _ _ hi').1]
 ·obtain⟨rfl,rfl⟩:=hx i ob hi
  exact⟨hM _ rfl,T.ak (fun _ h=>h.elim) _ (OV.DU hf)⟩
 ·obtain⟨oi,hi'⟩:=Option.isSome_iff_exists.1 hi'
  obtain⟨rfl,_⟩:=hx _ _ hi'
  exact hc (by simpa [Hz.aj] using hi)
theorem ah.heap{f:FuncId}{args:List V}{h:Hz}{n:Nat}{K:V->Hz->Prop}{KW:Nat->V->Hz->Prop}{post:T->Hp->Prop}(S:aO P f (V.aT args) h.aj n post)(hK: ∀ t hp,post t hp-> ∃ v h',t=v.aI/\hp=Hz.aj h'/\K v h'):ah P false none f args h n K KW :=
 ⟨.inl (S.mono fun t hp q=>by
  obtain⟨v,h',h1,h2,h3⟩:=hK t hp q
  exact⟨v,h',h1,h2,(fun e=>by cases e),h3⟩)⟩
end
section
variable {P:Program}
def LoopN(body:(nY->AS->Prop)->AS->Prop)(Q:nY->AS->Prop):Nat->AS->Prop
 |0,_=>False
 |k+1,s=>body (fun e s'=>match e with| .normal=>LoopN body Q k s'|e=>Q e s') s
open Classical in
theorem vS.ofN{b:gu}{Q:nY->AS->Prop}{k:Nat}{s:AS}(h:LoopN (aw P b) Q k s):vS (aw P b) Q s:=by
 let I:AS->Nat->Prop:=fun s n=>LoopN (aw P b) Q n s
 let μ:AS->Nat:=fun s=>if hh: ∃ n,I s n then Classical.choose (N8 _ (Classical.choose_spec hh)) else 0
 have hμ: ∀ s,(∃ n,I s n)->I s (μ s)/\ ∀ k,I s k->μ s<=k:=by
  intro s hh
  have e:μ s=Classical.choose (N8 _ (Classical.choose_spec hh)):=dif_pos hh
  rw[e]
  exact Classical.choose_spec (N8 _ (Classical.choose_spec hh))
 refine⟨fun s=> ∃ n,I s n,μ,⟨s,⟨s,.refl _,.inl rfl⟩,k,h⟩,fun s hI=>?_⟩
 have h2:=(hμ s hI).1
 generalize hm:μ s=m at h2
 cases m with
 |zero=>exact h2.elim
 |succ m =>
  have h3:aw P b (fun e s'=>match e with| .normal=>LoopN (aw P b) Q m s'|e=>Q e s') s:=h2
  refine lN ?_ h3
  intro e s' q
  cases e with
  |normal=>exact⟨s',⟨s',.refl _,.inl rfl⟩,⟨m,q⟩,by have:=(hμ s' ⟨m,q⟩).2 m q; omega⟩
  |exit j=>exact q
  |ret=>exact q
def azN(P:Program)(N pn:Nat)(b:gu)(Q:Qz):Nat->Fm->Hz->Nat->Prop
 |0,_,_,_=>False
 |k+1,m,h,nx=>az P N pn b (fun e m' h' nx'=>match e with| .normal=>azN P N pn b Q k m' h' nx'|e=>Q e m' h' nx') m h nx
theorem aY.times{N pn nx:Nat}{b:gu}{Q:Qz}{m:Fm}{h:Hz}(k:Nat)(hd:qp N b=true)(H:azN P N pn b Q k m h nx):aY P N pn b Q m h nx:=by
 refine⟨fun fr hl R=>vS.ofN (k:=k) ?_⟩
 have key: ∀ (k:Nat) {m:Fm} {h:Hz} {nx:Nat} {s:AS},s.fr.length=N->Rp m s.fr->s.hp=h.aj->s.pin=pn->s.nx=nx->azN P N pn b Q k m h nx->LoopN (aw P b) (Lift N pn Q) k s:=by
  intro k
  induction k with
  |zero=>intro m h nx s _ _ _ _ _ H; exact H.elim
  |succ k ih =>
   intro m h nx s a1 a2 a3 a4 a5 H
   subst a5
   have:=pU (P:=P) (N:=N) (pn:=pn) (s:=s) hd a1 a2 a3 a4 H
   show aw P b _ s
   refine lN ?_ this
   rintro e s' ⟨m',h',b1,b2,b3,b4,b5⟩
   cases e with
   |normal=>exact ih b1 b2 b3 b4 rfl b5
   |exit j=>exact⟨m',h',b1,b2,b3,b4,b5⟩
   |ret=>exact⟨m',h',b1,b2,b3,b4,b5⟩
 exact key k hl R rfl rfl rfl H
end
section
variable {P:Program}
end
section
variable {P:Program}
theorem nT{o:OV}(q:o.Iw=true)(ρ:Nat->Nat):o.aF.ren ρ=o.aF:=by
 have:=OV.zI q ρ
 unfold Ob.ren
 rw[this]
theorem pX{j:Nat}{o:OV}{i:Nat}:Hz.aj [(j,some o)] i=if i=j then some o.aF else none:=by
 simp only[Hz.aj,Hz.get]
 cases hb:Nat.beq j i with
 |true=>rw[if_pos (jm hb).symm]; rfl
 |false=>rw[if_neg (fun e=>Nat.ne_of_beq_eq_false hb e.symm)]; rfl
theorem dA{j i:Nat}{o:Option OV}{h:Hz}:Hz.aj ((j,o)::h) i=if i=j then o.map OV.aF else h.aj i:=by
 simp only[Hz.aj,Hz.get]
 cases hb:Nat.beq j i with
 |true=>rw[if_pos (jm hb).symm]; rfl
 |false=>rw[if_neg (fun e=>Nat.ne_of_beq_eq_false hb e.symm)]; rfl
theorem ah.Ez{f:FuncId}{ts args:List V}{h:Hz}{i n:Nat}{o0:OV}{K:V->Hz->Prop}{KW:Nat->V->Hz->Prop}{post:T->Hp->Prop}(H:aO P f (V.aT ts) (Hz.aj [(0,some o0)]) 1 post)
  (ha:T.bT (fun _=>i) (V.aT ts)=V.aT args) (hid:T.QF 1 (V.aT ts)=true) (hg:o0.good 1=true) (hf:o0.Iw=true) (hi:h.get i=some o0) (hn:h.get n=none)
  (hK: ∀ t hp,post t hp->(∃ v o,hp=Hz.aj [(0,some o)]/\o.Iw=true/\t.ren (nameAt (fun _=>i) 1 n)=v.aI/\K v ((i,some o)::h)) \/
   (∃ v o,hp=Hz.aj [(1,some o)]/\o.Iw=true/\t.ren (nameAt (fun _=>i) 1 n)=v.aI/\K v ((n,some o)::(i,none)::h))):ah P false none f args h n K KW:=by
 have hin:i≠n:=by rintro rfl; rw[hi] at hn; cases hn
 have hl0: ∀ j:Nat,j<1->(Hz.aj [(0,some o0)] j).isSome=true:=fun j hj=>by rw[pX,if_pos (by omega)]; rfl
 have hsome: ∀ j,(Hz.aj [(0,some o0)] j).isSome=true->j=0:=fun j hj=>by
  rw[pX] at hj; split at hj
  ·assumption
  ·cases hj
 refine ah.heap (post:=fun t' h'=> ∃ t h1,post t h1/\t'=t.ren (nameAt (fun _=>i) 1 n)/\h'=placed (fun _=>i) 1 n (Hz.aj [(0,some o0)]) h.aj h1) ?_ ?_
 ·rw[<- ha]
  refine aO.place H (T.ak hl0 _ (zQ hid)) (fun j ob hj=>?_) (by rw[pX]; rfl) (fun j ob hj=>?_) (fun a b h1 h2 _=>by rw[hsome a h1,hsome b h2])
  ·rw[pX] at hj; split at hj
   ·cases hj
    have hz:T.aN (fun _=>False) o0.aF.l:=OV.DU hf
    exact⟨T.ak (fun _ h=>h.elim) _ hz,(OV.Aw hg).2⟩
   ·cases hj
  ·rw[pX] at hj; split at hj
   ·cases hj
    rw[nT hf]; exact aK hi
   ·cases hj
 ·rintro t' h' ⟨t,h1,hp,rfl,rfl⟩
  have inj: ∀ a b,((Hz.aj [(0,some o0)] a).isSome=true\/a=1)->((Hz.aj [(0,some o0)] b).isSome=true\/b=1)->nameAt (fun _=>i) 1 n a=nameAt (fun _=>i) 1 n b->a=b:=by
   intro a b ha hb e
   rcases ha with ha|rfl<;>rcases hb with hb|rfl
   ·rw[hsome a ha,hsome b hb]
   ·rw[hsome a ha] at e; exact absurd e hin
   ·rw[hsome b hb] at e; exact absurd e.symm hin
   ·rfl
  have at0: ∀ h1,placed (fun _=>i) 1 n (Hz.aj [(0,some o0)]) h.aj h1 i=(h1 0).map (Ob.ren (nameAt (fun _=>i) 1 n)):=fun h1=>mY (h:=h.aj) (h1:=h1) inj (i:=0) (.inl (hl0 0 (by decide)))
  have Zz: ∀ h1,placed (fun _=>i) 1 n (Hz.aj [(0,some o0)]) h.aj h1 n=(h1 1).map (Ob.ren (nameAt (fun _=>i) 1 n)):=fun h1=>mY (h:=h.aj) (h1:=h1) inj (i:=1) (.inr rfl)
  have atO: ∀ h1 j,j≠i->j≠n->placed (fun _=>i) 1 n (Hz.aj [(0,some o0)]) h.aj h1 j=h.aj j:=fun h1 j g1 g2=>yT (by
   rintro⟨a,ha,e⟩
   rcases ha with ha|rfl
   ·rw[hsome a ha] at e; exact g1 e.symm
   ·exact g2 e.symm)
  rcases hK t h1 hp with ⟨v,o,rfl,ho,hv,hk⟩|⟨v,o,rfl,ho,hv,hk⟩
  ·refine⟨v,_,hv,?_,hk⟩
   funext j
   rw[dA]
   by_cases e1:j=i
   ·subst e1; rw[if_pos rfl,at0,pX,if_pos rfl,Option.map_some,nT ho]; rfl
   ·rw[if_neg e1]
    by_cases e2:j=n
    ·subst e2; rw[Zz,pX,if_neg (by decide)]; simp only[Hz.aj,hn]; rfl
    ·exact atO _ j e1 e2
  ·refine⟨v,_,hv,?_,hk⟩
   funext j
   rw[dA,dA]
   by_cases e2:j=n
   ·subst e2; rw[if_pos rfl,Zz,pX,if_pos rfl,Option.map_some,nT ho]; rfl
   ·rw[if_neg e2]
    by_cases e1:j=i
    ·subst e1; rw[if_pos rfl,at0,pX,if_neg (by decide)]; rfl
    ·rw[if_neg e1]; exact atO _ j e1 e2
end
section
variable {P:Program}
def okR(ρ:Nat->Nat)(nx pn:Nat)(h:Hz):List (Nat×OV)->List Nat->Prop
 |[],[]=>True
 |(c,o)::r,n::s=>(Nat.blt c nx=true/\(Nat.blt c pn=true->n=c)/\Ec n s=true/\o.good nx=true /\
   ∃ o',h.get n=some o'/\o'.aF.ty=o.aF.ty/\o'.aF.k=o.aF.k/\bZ (T.bT ρ o.aF.l) o'.aF.l)/\okR ρ nx pn h r s
 |_,_=>False
theorem LC{ρ:Nat->Nat}{nx pn:Nat}{h:Hz}: ∀ {l:List (Nat×OV)} {s:List Nat},okR ρ nx pn h l s->hpL (xg l s)=(Jz l).aj:=by
 intro l
 induction l with
 |nil=>intro s q; cases s with
  |nil=>rfl
  |cons _ _=>exact q.elim
 |cons p r ih =>
  obtain⟨c,o⟩:=p
  intro s q
  cases s with
  |nil=>exact q.elim
  |cons n s =>
   simp only[xg,hpL]
   have e:Jz ((c,o)::r)=(c,some o)::Jz r:=rfl
   rw[e,aZ,ih q.2]; rfl
theorem LD{nx pn:Nat}{h:Hz}{Z:Nat->Prop}{ρ:Nat->Nat}: ∀ {l:List (Nat×OV)} {s:List Nat},okR ρ nx pn h l s->XE Z ρ h.aj nx pn (xg l s):=by
 intro l
 induction l with
 |nil=>intro s _; cases s<;>trivial
 |cons p r ih =>
  obtain⟨c,o⟩:=p
  intro s q
  cases s with
  |nil=>exact q.elim
  |cons n s =>
   obtain⟨⟨q1,q2,q3,q4,o',q6,q7,q8,q9⟩,q⟩:=q
   obtain⟨g1,g2⟩:=OV.Aw q4
   refine⟨⟨Nat.blt_eq.mp q1,fun hc=>q2 (Nat.blt_eq.mpr hc),Lu q3,g1,g2,o'.aF.l,?_,?_⟩,ih q⟩
   ·have:=aK q6
    show h.aj n=some ⟨o.aF.ty,o.aF.k,o'.aF.l⟩
    rw[this,<- q7,<- q8]
   ·exact q9 _ _
structure aaG{ι:Type}(inv:ι->Prop)(μ:ι->Nat)(vars:ι->Fm)(objs:ι->List (Nat×OV))(base:Fm)(nx pn:Nat)(i:ι)(m:Fm)(h:Hz):Prop where
 ok: ∃ j nw,inv j/\μ j<μ i/\nC (nH (objs j) nw) m (vars j)/\nC (nH (objs j) nw) m base/\okR (nH (objs j) nw) nx pn h (objs j) nw
theorem aY.CB{N pn nx0:Nat}(nx:Nat){b:gu}{Q:Qz}{m:Fm}{h:Hz}{ι:Type}(live:List Nat)(vars:ι->Fm)(objs:ι->List (Nat×OV))(inv:ι->Prop)(μ:ι->Nat)(i0:ι)(MC:List Nat)(hd:qp N b=true)(hp:pn<=nx)(hv: ∀ i,UW nx N (vars i)=true)(h0:inv i0)
  (he:nC (nH (objs i0) MC) m (vars i0)) (ho:okR (nH (objs i0) MC) nx pn h (objs i0) MC)
  (H:FN m live [] fun base=>nC (nH (objs i0) MC) m base/\UW nx N base=true/\ ∀ i,inv i->az P N pn b (fun e m' h' n'=>match e with
   | .normal=>aaG inv μ vars objs base nx pn i m' h'
   |e=>Q e m' h' n') (vars i++base) (Jz (objs i)) nx):aY P N pn b Q m h nx0:=by
 obtain⟨base,⟨hbs,hb,H⟩,hbm⟩:=x8 H (fun i v q=>by cases q)
 refine⟨fun fr hl R=>?_⟩
 have hall: ∀ i j v,Fm.get j (vars i++base)=some v->T.lt nx v.aI=true/\j<N:=fun i j v q=>by
  rcases get_append q with q|q
  ·exact sN (hv i) q
  ·exact sN hb q
 have wk: ∀ (i:ι) (nw:List Nat) (m':Fm) (h':Hz) (s':AS),s'.fr.length=N->Rp m' s'.fr->s'.hp=h'.aj->s'.pin=pn->nC (nH (objs i) nw) m' (vars i)->nC (nH (objs i) nw) m' base->okR (nH (objs i) nw) nx pn h' (objs i) nw ->
   Wk ⟨rQ N (vars i++base),(Jz (objs i)).aj,nx,pn⟩ s':=by
  intro i nw m' h' s' a1 a2 a3 a4 a5 a6 a7
  obtain⟨fr',hp',nx',pn'⟩:=s'
  simp only at a1 a2 a3 a4
  subst a3; subst a4
  rw[<- LC a7]
  have e:zl (xg (objs i) nw)=nH (objs i) nw:=funext fun _=>FQ
  refine Wk.objs (xg (objs i) nw) (Cc a1 a2 fun j v q=>?_) (Au fun j v q=>(hall i j v q).1) hp (by rw[e]; exact LD a7)
  rw[e]
  rcases get_append q with q|q
  ·exact qL a5 q
  ·exact qL a6 q
 refine vS.rule (fun i=>⟨rQ N (vars i++base),(Jz (objs i)).aj,nx,pn⟩) inv μ i0 h0 (wk i0 MC m h _ hl R rfl rfl he hbs ho) ?_
 intro i hi
 have:=pU (P:=P) (N:=N) (pn:=pn) (s:=⟨rQ N (vars i++base),(Jz (objs i)).aj,nx,pn⟩) hd uK (Ar fun j v q=>(hall i j v q).2) rfl rfl (H i hi)
 refine lN ?_ this
 rintro e s' ⟨m',h',a1,a2,a3,a4,a5⟩
 cases e with
 |normal =>
  obtain⟨j,nw,b1,b2,b3,b4,b5⟩:=a5.ok
  exact⟨j,⟨b1,b2⟩,wk j nw m' h' s' a1 a2 a3 a4 b3 b4 b5⟩
 |exit j=>exact⟨m',h',a1,a2,a3,a4,a5⟩
 |ret=>exact⟨m',h',a1,a2,a3,a4,a5⟩
end
section
variable {P:Program}
def FZ(Z:Nat->Prop)(h:Hz):Hz->Prop
 |[]=>True
 |(_,none)::r=>FZ Z h r
 |(i,some o)::r=>(∃ o',h.get i=some o'/\ ¬ Z i/\o'.aF.ty=o.aF.ty/\o'.aF.k=o.aF.k/\T.dI Z h.aj o.aF.l o'.aF.l/\o.aF.l.map T.kd=o'.aF.l.map T.kd/\o.aF.l.map gG=o'.aF.l.map gG)/\FZ Z h r
def Frz(h h2:Hz):Prop:= ∃ Z,FZ Z h h2
theorem DX{Z:Nat->Prop}{h:Hz}: ∀ {h2:Hz},FZ Z h h2-> ∀ {i:Nat} {o:OV},h2.get i=some o-> ∃ o',h.get i=some o'/\ ¬ Z i/\o'.aF.ty=o.aF.ty/\o'.aF.k=o.aF.k/\T.dI Z h.aj o.aF.l o'.aF.l/\o.aF.l.map T.kd=o'.aF.l.map T.kd/\o.aF.l.map gG=o'.aF.l.map gG:=by
 intro h2
 induction h2 with
 |nil=>intro _ i o e; cases e
 |cons p r ih =>
  obtain⟨j,u⟩:=p
  intro hf i o e
  simp only[Hz.get] at e
  cases u with
  |none =>
   cases hb:Nat.beq j i with
   |true=>rw[hb] at e; cases e
   |false=>rw[hb] at e; exact ih hf e
  |some u =>
   cases hb:Nat.beq j i with
   |true=>rw[hb] at e; cases e; rw[<- jm hb]; exact hf.1
   |false=>rw[hb] at e; exact ih hf.2 e
theorem Frz.wk{s _s1:AS}{fr:List T}{h h2:Hz}{nx pn:Nat}(f:Frz h h2)(w:Wk s ⟨fr,h2.aj,nx,pn⟩):Wk s ⟨fr,h.aj,nx,pn⟩:=by
 obtain⟨Z,f⟩:=f
 obtain⟨s1,w1,w2⟩:=w
 have F:VY Z ⟨fr,h2.aj,nx,pn⟩ ⟨fr,h.aj,nx,pn⟩:=by
  refine⟨dB _,fun i ob hi=>?_,rfl,rfl⟩
  simp only[Hz.aj,Option.map_eq_some_iff] at hi
  obtain⟨o,e1,rfl⟩:=hi
  obtain⟨o',a1,a2,a3,a4,a5,a6,a7⟩:=DX f e1
  exact⟨o'.aF,aK a1,a2,a3,a4,a5,a6,a7⟩
 exact⟨s1,w1.trans (.fz F (.refl _)),w2⟩
structure aaH{ι:Type}(inv:ι->Prop)(μ:ι->Nat)(vars:ι->Fm)(objs:ι->List (Nat×OV))(base:Fm)(nx pn:Nat)(i:ι)(m:Fm)(h:Hz):Prop where
 ok: ∃ h2 j nw,Frz h h2/\inv j/\μ j<μ i/\nC (nH (objs j) nw) m (vars j)/\nC (nH (objs j) nw) m base/\okR (nH (objs j) nw) nx pn h2 (objs j) nw
theorem aY.Xo{N pn nx0:Nat}(nx:Nat){b:gu}{Q:Qz}{m:Fm}{h:Hz}{ι:Type}(live:List Nat)(vars:ι->Fm)(objs:ι->List (Nat×OV))(inv:ι->Prop)(μ:ι->Nat)(i0:ι)(MC:List Nat)(h2:Hz)(hd:qp N b=true)(hp:pn<=nx)(hv: ∀ i,UW nx N (vars i)=true)(h0:inv i0)
  (he:nC (nH (objs i0) MC) m (vars i0)) (hf:Frz h h2) (ho:okR (nH (objs i0) MC) nx pn h2 (objs i0) MC)
  (H:FN m live [] fun base=>nC (nH (objs i0) MC) m base/\UW nx N base=true/\ ∀ i,inv i->az P N pn b (fun e m' h' n'=>match e with
   | .normal=>aaH inv μ vars objs base nx pn i m' h'
   |e=>Q e m' h' n') (vars i++base) (Jz (objs i)) nx):aY P N pn b Q m h nx0:=by
 obtain⟨base,⟨hbs,hb,H⟩,hbm⟩:=x8 H (fun i v q=>by cases q)
 refine⟨fun fr hl R=>?_⟩
 have hall: ∀ i j v,Fm.get j (vars i++base)=some v->T.lt nx v.aI=true/\j<N:=fun i j v q=>by
  rcases get_append q with q|q
  ·exact sN (hv i) q
  ·exact sN hb q
 have wk: ∀ (i:ι) (nw:List Nat) (m':Fm) (h' h2':Hz) (s':AS),s'.fr.length=N->Rp m' s'.fr->s'.hp=h'.aj->s'.pin=pn->Frz h' h2'->nC (nH (objs i) nw) m' (vars i)->nC (nH (objs i) nw) m' base->okR (nH (objs i) nw) nx pn h2' (objs i) nw ->
   Wk ⟨rQ N (vars i++base),(Jz (objs i)).aj,nx,pn⟩ s':=by
  intro i nw m' h' h2' s' a1 a2 a3 a4 af a5 a6 a7
  obtain⟨fr',hp',nx',pn'⟩:=s'
  simp only at a1 a2 a3 a4
  subst a3; subst a4
  refine af.wk (_s1:=⟨fr',h2'.aj,nx',pn'⟩) ?_
  rw[<- LC a7]
  have e:zl (xg (objs i) nw)=nH (objs i) nw:=funext fun _=>FQ
  refine Wk.objs (xg (objs i) nw) (Cc a1 a2 fun j v q=>?_) (Au fun j v q=>(hall i j v q).1) hp (by rw[e]; exact LD a7)
  rw[e]
  rcases get_append q with q|q
  ·exact qL a5 q
  ·exact qL a6 q
 refine vS.rule (fun i=>⟨rQ N (vars i++base),(Jz (objs i)).aj,nx,pn⟩) inv μ i0 h0 (wk i0 MC m h h2 _ hl R rfl rfl hf he hbs ho) ?_
 intro i hi
 have:=pU (P:=P) (N:=N) (pn:=pn) (s:=⟨rQ N (vars i++base),(Jz (objs i)).aj,nx,pn⟩) hd uK (Ar fun j v q=>(hall i j v q).2) rfl rfl (H i hi)
 refine lN ?_ this
 rintro e s' ⟨m',h',a1,a2,a3,a4,a5⟩
 cases e with
 |normal =>
  obtain⟨h2',j,nw,bf,b1,b2,b3,b4,b5⟩:=a5.ok
  exact⟨j,⟨b1,b2⟩,wk j nw m' h' h2' s' a1 a2 a3 a4 bf b3 b4 b5⟩
 |exit j=>exact⟨m',h',a1,a2,a3,a4,a5⟩
 |ret=>exact⟨m',h',a1,a2,a3,a4,a5⟩
theorem iE{Z:Nat->Prop}{h:Hz}{i:Nat}{o:OV}(e:h.get i=some o)(hz: ¬ Z i): ∃ o',h.get i=some o'/\ ¬ Z i/\o'.aF.ty=o.aF.ty/\o'.aF.k=o.aF.k/\T.dI Z h.aj o.aF.l o'.aF.l/\o.aF.l.map T.kd=o'.aF.l.map T.kd/\o.aF.l.map gG=o'.aF.l.map gG :=
 ⟨o,e,hz,rfl,rfl,dB _,rfl,rfl⟩
end
section
variable {P:Program}
theorem CW{t:T}(q:t.free=true)(ρ:Nat->Nat):t.ren ρ=t:=by
 have:T.bT ρ [t]=[t]:=qF _ ⟨fO q,trivial⟩
 simpa [T.bT] using this
theorem jG.SA{h0 h h2:Hz}{n:Nat}{post:T->Hp->Prop}{v u:V}(Z:Nat->Prop)(F:FZ Z h h2)(hg: ∀ i o,h2.get i=some o->(h0.aj i).isSome=true/\T.aN (fun i=>(h0.aj i).isSome=true) o.aF.l/\Ph o.aF.k o.aF.l=true)
  (hu:u.free=true) (hv:T.sub Z h.aj u.aI v.aI) (hp:post u.aI h2.aj):jG h0 n post v h:=by
 have hx: ∀ i ob,h2.aj i=some ob-> ∃ o,h2.get i=some o/\o.aF=ob:=fun i ob hi=>by
  simp only[Hz.aj,Option.map_eq_some_iff] at hi
  obtain⟨o,e1,e2⟩:=hi
  exact⟨o,e1,e2⟩
 have hfr:T.ids (fun _=>False) u.aI:=fO (V.jO u hu)
 refine⟨Z,id,u.aI,h2.aj,hp,by rw[FB]; exact hv,fun i ob hi=>?_,fun i j _ _ e=>e,T.bH (fun _ h=>h.elim) _ hfr,fun i ob hi=>?_,fun _ _ _=>rfl⟩
 ·obtain⟨o,e1,rfl⟩:=hx i ob hi
  obtain⟨o',a1,a2,a3,a4,a5,_,_⟩:=DX F e1
  exact⟨o'.aF,aK a1,a2,a3,a4,by rw[Ip]; exact a5,wU (hg i o e1).2.2⟩
 ·obtain⟨o,e1,rfl⟩:=hx i ob hi
  exact⟨.inl (hg i o e1).1,T.ak (fun _ h=>.inl h) _ (hg i o e1).2.1⟩
theorem ah.Ye{f:FuncId}{ts args:List V}{h:Hz}{i j n:Nat}{o0 TK o1:OV}{K:V->Hz->Prop}{KW:Nat->V->Hz->Prop}{post:T->Hp->Prop}(H:aO P f (V.aT ts) (Hz.aj [(0,some o0),(1,some o1)]) 2 post)
  (ha:T.bT (fun a=>bif Nat.beq a 0 then i else j) (V.aT ts)=V.aT args) (hid:T.QF 2 (V.aT ts)=true) (hg:tX 2 [(0,some o0),(1,some o1)]=true) (hf:o1.Iw=true)
  (h0:o0.aF.ren (fun a=>bif Nat.beq a 0 then i else j)=TK.aF) (hi:h.get i=some TK) (hj:h.get j=some o1) (hij:i≠j) (hn:h.get n=none) (hin:n≠i) (hjn:n≠j)
  (hK: ∀ t hp,post t hp-> ∃ v o,hp=Hz.aj [(0,some o0),(1,some o)]/\o.Iw=true/\t=v.aI/\v.free=true/\K v ((j,some o)::h)):ah P false none f args h n K KW:=by
 have hG:=nR hg
 have hlt: ∀ a:Nat,a<2->(Hz.aj [(0,some o0),(1,some o1)] a).isSome=true:=fun a ha=>by
  rw[dA,pX]; by_cases e:a=0
  ·rw[if_pos e]; rfl
  ·rw[if_neg e,if_pos (by omega)]; rfl
 have hsome: ∀ a,(Hz.aj [(0,some o0),(1,some o1)] a).isSome=true->a=0\/a=1:=fun a ha=>by
  rw[dA,pX] at ha; split at ha
  ·left; assumption
  ·split at ha
   ·right; assumption
   ·cases ha
 let ρ:Nat->Nat:=fun a=>bif Nat.beq a 0 then i else j
 have r0:ρ 0=i:=rfl
 have r1:ρ 1=j:=rfl
 have n0:nameAt ρ 2 n 0=i:=rfl
 have n1:nameAt ρ 2 n 1=j:=rfl
 have n2:nameAt ρ 2 n 2=n:=rfl
 have TS: ∀ a b,(Hz.aj [(0,some o0),(1,some o1)] a).isSome=true->(Hz.aj [(0,some o0),(1,some o1)] b).isSome=true->ρ a=ρ b->a=b:=by
  intro a b ha hb e
  rcases hsome a ha with rfl|rfl<;>rcases hsome b hb with rfl|rfl
  ·rfl
  ·exact absurd e hij
  ·exact absurd e.symm hij
  ·rfl
 have inj: ∀ a b,((Hz.aj [(0,some o0),(1,some o1)] a).isSome=true\/a=2)->((Hz.aj [(0,some o0),(1,some o1)] b).isSome=true\/b=2)->nameAt ρ 2 n a=nameAt ρ 2 n b->a=b:=by
  intro a b ha hb e
  rcases ha with ha|rfl
  ·rcases hb with hb|rfl
   ·rcases hsome a ha with rfl|rfl<;>rcases hsome b hb with rfl|rfl
    ·rfl
    ·exact absurd e hij
    ·exact absurd e.symm hij
    ·rfl
   ·rcases hsome a ha with rfl|rfl
    ·exact absurd e.symm hin
    ·exact absurd e.symm hjn
  ·rcases hb with hb|rfl
   ·rcases hsome b hb with rfl|rfl
    ·exact absurd e hin
    ·exact absurd e hjn
   ·rfl
 refine ah.heap (post:=fun t' h'=> ∃ t h1,post t h1/\t'=t.ren (nameAt ρ 2 n)/\h'=placed ρ 2 n (Hz.aj [(0,some o0),(1,some o1)]) h.aj h1) ?_ ?_
 ·rw[<- ha]
  refine aO.place H (T.ak hlt _ (zQ hid)) (fun a ob hob=>?_) (by rw[dA,pX]; rfl) (fun a ob hob=>?_) TS
  ·exact⟨T.ak hlt _ (hG a ob hob).2.1,(hG a ob hob).2.2⟩
  ·have hs:(Hz.aj [(0,some o0),(1,some o1)] a).isSome=true:=by rw[hob]; rfl
   rcases hsome a hs with rfl|rfl
   ·rw[dA,if_pos rfl] at hob; cases hob
    show h.aj i=_
    rw[aK hi]; exact congrArg some h0.symm
   ·rw[dA,pX,if_neg (by decide),if_pos rfl] at hob; cases hob
    show h.aj j=_
    rw[aK hj,nT hf]
 ·rintro t' h' ⟨t,h1,hp,rfl,rfl⟩
  obtain⟨v,o,rfl,ho,rfl,hvf,hk⟩:=hK t h1 hp
  refine⟨v,_,CW (V.jO v hvf) _,?_,hk⟩
  funext a
  rw[dA]
  have at0:placed ρ 2 n (Hz.aj [(0,some o0),(1,some o1)]) h.aj (Hz.aj [(0,some o0),(1,some o)]) i=(Hz.aj [(0,some o0),(1,some o)] 0).map (Ob.ren (nameAt ρ 2 n)):=mY (h:=h.aj) (h1:=Hz.aj [(0,some o0),(1,some o)]) inj (i:=0) (.inl (hlt 0 (by decide)))
  have Zz:placed ρ 2 n (Hz.aj [(0,some o0),(1,some o1)]) h.aj (Hz.aj [(0,some o0),(1,some o)]) j=(Hz.aj [(0,some o0),(1,some o)] 1).map (Ob.ren (nameAt ρ 2 n)):=mY (h:=h.aj) (h1:=Hz.aj [(0,some o0),(1,some o)]) inj (i:=1) (.inl (hlt 1 (by decide)))
  have at2:placed ρ 2 n (Hz.aj [(0,some o0),(1,some o1)]) h.aj (Hz.aj [(0,some o0),(1,some o)]) n=(Hz.aj [(0,some o0),(1,some o)] 2).map (Ob.ren (nameAt ρ 2 n)):=mY (h:=h.aj) (h1:=Hz.aj [(0,some o0),(1,some o)]) inj (i:=2) (.inr rfl)
  by_cases e1:a=j
  ·subst e1; rw[if_pos rfl,Zz,dA,pX,if_neg (by decide),if_pos rfl,Option.map_some,nT ho]; rfl
  ·rw[if_neg e1]
   by_cases e0:a=i
   ·subst e0
    rw[at0,dA,if_pos rfl,aK hi,<- h0]
    refine congrArg some ?_
    have hc:T.bT (nameAt ρ 2 n) o0.aF.l=T.bT ρ o0.aF.l:=oQ (M:=(· <2)) (fun b hb=>if_neg (by omega)) _ (hG 0 o0.aF (by rw[dA,if_pos rfl]; rfl)).2.1
    unfold Ob.ren
    rw[hc]
   ·by_cases e2:a=n
    ·subst e2; rw[at2,dA,pX,if_neg (by decide),if_neg (by decide)]; simp only[Hz.aj,hn]; rfl
    ·exact yT (by
      rintro⟨b,hb,e⟩
      rcases hb with hb|rfl
      ·rcases hsome b hb with rfl|rfl
       ·exact e0 e.symm
       ·exact e1 e.symm
      ·exact e2 e.symm)
theorem ah.new2{f:FuncId}{args:List V}{h:Hz}{n:Nat}{_v:V}{o0 TK o1:OV}{K:V->Hz->Prop}{KW:Nat->V->Hz->Prop}(H:jA P f (V.aT args) (Hz.aj []) 0 1 fun t hp=>t= .ptr 0 0 0/\hp=Hz.aj [(0,some o0),(1,some o1)])
  (ha:V.cu args=true) (hf:o1.Iw=true) (h0:o0.aF.ren (fun a=>n+a)=TK.aF) (hi0:T.aN (· <2) o0.aF.l) (hn: ∀ m,n<=m->h.get m=none) (hK:KW 1 (.ptr n 0 0) ((n,some TK)::(n+1,some o1)::h)):ah P false none f args h n K KW:=by
 have hz:T.bT (fun a=>a) (V.aT args)=V.aT args:=qF _ (bV (V.fE _ ha))
 have e0:(Hz.aj [])=(no:Hp):=rfl
 have hp:=jA.place H (ρ:=fun a=>a) (h:=h.aj) (n:=n) (T.ak (fun _ h=>h.elim) _ (bV (V.fE _ ha))) (fun i ob hi=>by cases hi) (fun i hi=>by cases hi) (fun i ob hi=>by cases hi) (fun i j hi=>by cases hi)
 rw[hz] at hp
 refine⟨.inr (.inl ⟨rfl,rfl,1,hp.mono ?_⟩)⟩
 rintro t' h' ⟨t,h1,⟨rfl,rfl⟩,rfl,rfl⟩
 refine⟨.ptr n 0 0,_,?_,?_,hK⟩
 ·show T.ptr (yJ (fun a=>a) 0 1 n 0) 0 0=T.ptr n 0 0
  rw[show yJ (fun a=>a) 0 1 n 0=n+(0-0) from if_pos (by omega)]; rfl
 ·have nk: ∀ a,a<=1->yJ (fun a=>a) 0 1 n a=n+a:=fun a ha=>by
   rw[show yJ (fun a=>a) 0 1 n a=n+(a-0) from if_pos (by omega)]; rfl
  have inj: ∀ a b,(((Hz.aj []) a).isSome=true\/(0<=a/\a<=0+1))->(((Hz.aj []) b).isSome=true\/(0<=b/\b<=0+1))->yJ (fun a=>a) 0 1 n a=yJ (fun a=>a) 0 1 n b->a=b:=by
   intro a b ha hb e
   rcases ha with ha|ha
   ·cases ha
   rcases hb with hb|hb
   ·cases hb
   rw[nk a (by omega),nk b (by omega)] at e; omega
  funext a
  rw[dA,dA]
  by_cases c0:a=n
  ·subst c0
   rw[if_pos rfl]
   have:=vJ (h:=h.aj) (h1:=Hz.aj [(0,some o0),(1,some o1)]) inj (i:=0) (.inr (by omega))
   rw[nk 0 (by omega)] at this
   refine Eq.trans this ?_
   rw[dA,if_pos rfl,Option.map_some,Option.map_some,Option.map_some,<- h0]
   refine congrArg some ?_
   unfold Ob.ren
   rw[oQ (M:=(· <2)) (fun b hb=>nk b (by omega)) _ hi0]
  ·rw[if_neg c0]
   by_cases c1:a=n+1
   ·subst c1
    rw[if_pos rfl]
    have:=vJ (h:=h.aj) (h1:=Hz.aj [(0,some o0),(1,some o1)]) inj (i:=1) (.inr (by omega))
    rw[nk 1 (by omega)] at this
    refine Eq.trans this ?_
    rw[dA,pX,if_neg (by decide),if_pos rfl,Option.map_some,nT hf]; rfl
   ·rw[if_neg c1]
    exact wV (by
     rintro⟨b,hb,e⟩
     rcases hb with hb|hb
     ·cases hb
     rw[nk b (by omega)] at e; omega)
structure XK(o0 o1:OV)(v:V)(h:Hz):Prop where
 ok: ∃ a b TK,v= .ptr a 0 0/\a≠b/\h.get a=some TK/\o0.aF.ren (fun i=>bif Nat.beq i 0 then a else b)=TK.aF/\h.get b=some o1
def Zl(o0 o1:OV)(rs:List RV):Qz
 | .exit _,_,_,_=>False
 |_,m,h,_=>match resV m h rs with
  |some v=>v.seq fun v=>XK o0 o1 v h
  |none=>False
theorem Ya.of{f:FuncId}{ac:gu}{rs:List RV}{nt:Nat}{args:List V}{o0 o1:OV}(B:Body P f ac rs nt)(hn:args.length<=nt)(ha:V.cu args=true)(hg:tX 2 [(0,some o0),(1,some o1)]=true)(hf:o1.Iw=true)
  (H:az P nt 0 ac (Zl o0 o1 rs) (zu 0 args) [] 0):jA P f (V.aT args) (Hz.aj []) 0 1 fun t hp=>t= .ptr 0 0 0/\hp=Hz.aj [(0,some o0),(1,some o1)]:=by
 obtain⟨fn,c,h1,h2,h3,h4,h5⟩:=B.ex
 have hG:=nR hg
 refine jA.xX (nx:=0) h1 h2 h3 h4 B.cl h5 ⟨_,_,rfl,rfl⟩ (T.ak (fun _ h=>h.elim) _ (bV (V.fE _ ha))) (fun i ob hi=>by cases hi) ?_
 have:=pU (P:=P) (N:=nt) (pn:=0) (s:=⟨V.aT args++List.replicate (nt-(V.aT args).length) T.un,(Hz.aj []),0,0⟩) B.dst (by simp[ig]; omega) zx rfl rfl H
 refine lN ?_ this
 rintro e s ⟨m,h,a1,a2,a3,a4,a5⟩
 have key: ∀ {m h},Rp m s.fr->s.hp=Hz.aj h->(match resV m h rs with|some v=>v.seq fun v=>XK o0 o1 v h|none=>False)-> ∃ s1,ER s1 s/\Ws (Hz.aj []) (fun i=>0<=i/\i<=0+1) (fun t hp=>t= .ptr 0 0 0/\hp=Hz.aj [(0,some o0),(1,some o1)]) rs s1:=by
  intro m h a2 a3 q
  split at q
  ·rename_i v hv
   rw[V.seq_eq] at q
   obtain⟨b1,b2⟩:=Jm a2 a3 hv
   obtain⟨a,b,TK,rfl,hab,q0,e0,q1⟩:=q.ok
   have hx: ∀ i ob,Hz.aj [(0,some o0),(1,some o1)] i=some ob->(i=0/\ob=o0.aF)\/(i=1/\ob=o1.aF):=fun i ob hi=>by
    rw[dA,pX] at hi; split at hi
    ·left; cases hi; exact⟨by assumption,rfl⟩
    ·split at hi
     ·right; cases hi; exact⟨by assumption,rfl⟩
     ·cases hi
   refine⟨s,.refl _,b1,fun _=>False,fun i=>bif Nat.beq i 0 then a else b,.ptr 0 0 0,Hz.aj [(0,some o0),(1,some o1)],⟨rfl,rfl⟩,by rw[b2]; exact aC _,fun i ob hi=>?_,fun i j hi hj e=>?_,?_,fun i ob hi=>?_,fun i hi=>by cases hi⟩
   ·rw[a3]
    rcases hx i ob hi with ⟨rfl,rfl⟩|⟨rfl,rfl⟩
    ·refine⟨TK.aF,aK q0,fun h=>h,by rw[<- e0]; rfl,by rw[<- e0]; rfl,?_,wU (hG 0 o0.aF (by rw[dA,if_pos rfl]; rfl)).2.2⟩
     rw[<- e0]; exact dB _
    ·refine⟨o1.aF,aK q1,fun h=>h,rfl,rfl,?_,wU (hG 1 o1.aF (by rw[dA,pX,if_neg (by decide),if_pos rfl])).2.2⟩
     rw[OV.zI hf]; exact dB _
   ·obtain⟨oi,hi⟩:=Option.isSome_iff_exists.1 hi
    obtain⟨oj,hj⟩:=Option.isSome_iff_exists.1 hj
    rcases hx i oi hi with ⟨rfl,_⟩|⟨rfl,_⟩<;>rcases hx j oj hj with ⟨rfl,_⟩|⟨rfl,_⟩
    ·rfl
    ·exact absurd e hab
    ·exact absurd e.symm hab
    ·rfl
   ·exact .inr ⟨by decide,by decide⟩
   ·have hw: ∀ k:Nat,k<2->((Hz.aj []:Hp) k).isSome=true\/(0<=k/\k<=0+1):=fun k hk=>.inr (by omega)
    have:=hG i ob hi
    exact⟨hw i this.1,T.ak hw _ this.2.1⟩
  ·exact q.elim
 cases e with
 |exit j=>exact a5.elim
 |normal=>exact key a2 a3 a5
 |ret=>exact key a2 a3 a5
end
section
variable {P:Program} {H:Type} {enc:TypeId×Value->H}
inductive Sh where
 |int
 |u64
 |str
 |bool
 |sl (k:Nat) (s:Sh)
 |st (l:List Sh)
mutual
def Sh.cells:Sh->Nat
 | .st l=>Sh.tq l
 |_=>1
def Sh.tq:List Sh->Nat
 |[]=>0
 |s::l=>s.cells+Sh.tq l
end
def Sh.kd:Sh->Nat
 | .st l=>Sh.tq l+1
 |_=>0
mutual
def Sh.fits(P:Program):Sh->TypeId->Bool
 | .int,t=>match P.underlying t with|some (.int .i64)=>true|_=>false
 | .u64,t=>match P.underlying t with|some (.int .u64)=>true|_=>false
 | .str,t=>match P.underlying t with|some .string=>true|_=>false
 | .bool,t=>match P.underlying t with|some .bool=>true|_=>false
 | .sl k s,t=>match P.underlying t with
  |some (.slice e)=>s.fits P e&&Nat.beq s.kd k&&Nat.beq (P.cellsOf e) s.cells&&Nat.blt 0 s.cells
  |_=>false
 | .st l,t=>match P.underlying t with
  |some (.struct fs)=>Sh.Ig P l fs.toList 0&&Nat.beq (P.cellsOf t) (Sh.tq l)
  |_=>false
def Sh.Ig(P:Program):List Sh->List Field->Nat->Bool
 |[],[],_=>true
 |s::l,f::fs,off=>s.fits P f.type&&Nat.beq f.offset off&&Nat.beq (P.cellsOf f.type) s.cells&&Sh.Ig P l fs (off+s.cells)
 |_,_,_=>false
end
mutual
def Sh.aI:Sh->DataW H->T
 | .int,.lit (.int _ n)=>.int n
 | .u64,.lit (.int _ n)=>.lit (.int .u64 n)
 | .str,.lit (.string l)=>.lit (.string ⟨l.toArray⟩)
 | .bool,.lit (.bool b)=>.bool b
 | .sl k s,.slice es _=>.sl k false (es.map s.aI)
 | .sl k _,.nil=>.sl k false []
 | .st l,.agg ds=>.agg (Sh.xk l ds)
 |_,_=>.any
def Sh.xk:List Sh->List (DataW H)->List T
 |s::l,d::ds=>(s.aI d).cells++Sh.xk l ds
 |_,_=>[]
end
def PE(v:Value):Prop:= ∀ n,v≠ .int .u8 n
mutual
def Sh.wf:Sh->DataW H->Prop
 | .int,d=> ∃ n,d= .lit (.int .i64 n)/\(Lit.int .i64 n).wf=true
 | .u64,d=> ∃ n,d= .lit (.int .u64 n)/\(Lit.int .u64 n).wf=true
 | .str,d=> ∃ l,d= .lit (.string l)
 | .bool,d=> ∃ b,d= .lit (.bool b)
 | .sl _ s,d=>d= .nil\/ ∃ es sp,d= .slice es sp/\ ∀ x∈es,s.wf x
 | .st l,d=> ∃ ds,d= .agg ds/\Sh.Jo l ds
def Sh.Jo:List Sh->List (DataW H)->Prop
 |[],ds=>ds=[]
 |s::l,ds=> ∃ d r,ds=d::r/\s.wf d/\Sh.Jo l r
end
structure Rd(E:Env)(s:Sh)(d:DataW H)(cs:List Value):Prop where
 rep:aG E (s.aI d) cs
 len:cs.length=s.cells
 one: ∀ v∈cs,v.oneCell'=true
 u8: ∀ v∈cs,PE v
 free:(s.aI d).free=true
 kd:(s.aI d).kd=s.kd
 wf:s.wf d
structure RdL(E:Env)(l:List Sh)(ds:List (DataW H))(cs:List Value):Prop where
 rep:aS E (Sh.xk l ds) cs
 len:cs.length=Sh.tq l
 one: ∀ v∈cs,v.oneCell'=true
 u8: ∀ v∈cs,PE v
 free:T.cu (Sh.xk l ds)=true
 cnt:(Sh.xk l ds).length=Sh.tq l
 wf:Sh.Jo l ds
theorem Ol{E:Env}{k:Nat}: ∀ {l:List T} {vs:List Value},l.length*aV k<=vs.length->(∀ j t,l[j]? =some t->t.kd=k/\(∀ v∈(vs.drop (j*aV k)).take (aV k),v.oneCell'=true)/\aG E t ((vs.drop (j*aV k)).take (aV k)))->aA E k l vs:=by
 intro l
 induction l with
 |nil=>intro vs _ _; trivial
 |cons t ts ih =>
  intro vs hl H
  simp only[List.length_cons,Nat.add_mul,Nat.one_mul] at hl
  obtain⟨h1,h2,h3⟩:=H 0 t rfl
  simp only[Nat.zero_mul,List.drop_zero] at h2 h3
  refine⟨h1,by omega,h2,h3,ih (by simp; omega) fun j u hj=>?_⟩
  have:=H (j+1) u (by simpa using hj)
  rw[List.drop_drop]
  rw[Nat.add_mul,Nat.one_mul,Nat.add_comm (j*aV k)] at this
  exact this
theorem RH{E:Env}: ∀ {a b:List T} {x y:List Value},aS E a x->aS E b y->aS E (a++b) (x++y):=by
 intro a
 induction a with
 |nil=>intro b x y h1 h2; simp only[aS] at h1; subst h1; exact h2
 |cons t a ih =>
  intro b x y h1 h2
  simp only[aS] at h1
  obtain⟨hk,v,r,rfl,h3,h4,h5⟩:=h1
  simp only[List.cons_append,aS]
  exact⟨hk,v,r++y,rfl,h3,h4,ih h5 h2⟩
theorem RI{a b:List T}(ha:T.cu a=true)(hb:T.cu b=true):T.cu (a++b)=true:=by
 rw[fP] at *
 intro t ht
 rcases List.mem_append.1 ht with h|h
 ·exact ha t h
 ·exact hb t h
theorem LG{E:Env}{t:T}{cs:List Value}(h:aG E t cs)(hl:t.kd=0->cs.length=1)(h1: ∀ v∈cs,v.oneCell'=true):aS E t.cells cs:=by
 have other: ∀ t:T,t.cells=[t]->t.kd=0->aG E t cs->(t.kd=0->cs.length=1)->aS E t.cells cs:=by
  intro t e k h hl
  rw[e]
  have:=hl k
  match cs,this with
  |[v],_=>simp only[aS]; exact⟨k,v,[],rfl,h1 v (by simp),h,rfl⟩
 cases t with
 |agg l=>simp only[aG] at h; exact h
 |_=>exact other _ rfl rfl h hl
theorem Om{t:T}(h:t.free=true):T.cu t.cells=true:=by
 cases t with
 |agg l=>exact h
 |_=>simp only[T.cells,T.cu,Bool.and_true]; exact h
theorem RJ{t:T}:t.cells.length=aV t.kd:=by
 cases t with
 |agg l=>rfl
 |_=>rfl
theorem Sh.lG(s:Sh):aV s.kd=s.cells:=by
 cases s<;>rfl
theorem cell?_at{w:World}{a:Addr}{v:Value}(h:w.cell? a=some v): ∃ cur ty m,w.heap[a.block]? =some (.cells cur ty m)/\a.spot=none/\cur.toList[a.off]? =some v:=by
 unfold World.cell? at h
 split at h
 ·rename_i c t f e
  split at h
  ·cases h
  ·rename_i hs
   exact⟨c,t,f,e,by simpa using hs,by simpa using h⟩
 ·cases h
theorem Ih{w:World}{base:Nat}{a:Addr}{n:Nat}{cs:List Value}(h:w.cells? base a n=some cs)(hn:0<n): ∃ cur ty m,w.heap[a.block]? =some (.cells cur ty m)/\a.spot=none/\cs=(cur.toList.drop a.off).take n:=by
 obtain⟨_,hl,hc⟩:=World.cells?_some h
 have h0:=hc 0 hn
 have e0:a.add 0=a:=by simp[Addr.add]
 rw[e0,List.getElem?_eq_getElem (by omega)] at h0
 obtain⟨cur,ty,m,h1,h2,_⟩:=cell?_at h0
 refine⟨cur,ty,m,h1,h2,?_⟩
 have key: ∀ j,j<n->cur.toList[a.off+j]? =cs[j]? :=by
  intro j hj
  have:=hc j hj
  rw[List.getElem?_eq_getElem (by omega)] at this
  obtain⟨cur',ty',m',g1,g2,g3⟩:=cell?_at this
  have eb:(a.add j).block=a.block:=by unfold Addr.add; split<;>rfl
  have eo:(a.add j).off=a.off+j:=by
   obtain⟨b,o,sp⟩:=a
   simp only at h2; subst h2
   rw[Go.WideShapes.add_plain]
  rw[eb,h1] at g1
  cases g1
  rw[eo] at g3
  rw[g3,List.getElem?_eq_getElem (by omega)]
 apply List.ext_getElem?
 intro j
 by_cases hj:j<n
 ·rw[List.getElem?_take,if_pos hj,List.getElem?_drop,key j hj]
 ·rw[List.getElem?_eq_none (by omega),List.getElem?_eq_none (by simp; omega)]
def Az(E:Env):Prop:= ∀ b cur ty m,E.w.heap[b]? =some (.cells cur ty m)->(∃ v∈cur.toList,PE v)->E.S b
theorem UZ{E:Env}{s:Sh}{k:Nat}{base:Nat}{spare:Nat->Bool}{held:Bool}(hS:Az E){t e:TypeId}(ht:P.underlying t=some (.slice e))(hk:s.kd=k)(hce:P.cellsOf e=s.cells)(hpos:0<s.cells)
  (ih: ∀ (n:Nat) (cs:List Value) (d:DataW H) (ps:List MemPlace),DataW.trod enc P E.w base spare held n e cs=some (d,ps)->Rd E s d cs)
  {n:Nat} {cs:List Value} {d:DataW H} {ps:List MemPlace} (h:DataW.trod enc P E.w base spare held n t cs=some (d,ps)):Rd E (.sl k s) d cs:=by
 rcases DataW.trod_slice ht h with ⟨rfl,hx⟩|⟨a,len,cap,elems,rest,m,_,rfl,hx,hb,hl,hm,hlen,hel,_,_⟩
 ·cases hx
  refine⟨?_,rfl,(fun v hv=>by rw[List.mem_singleton] at hv; subst hv; rfl),(fun v hv=>by rw[List.mem_singleton] at hv; subst hv; intro n e; cases e),rfl,rfl,.inl rfl⟩
  simp only[Sh.aI,aG]
  exact⟨none,0,rfl,Nat.le_refl _,nofun,.inl trivial⟩
 ·cases hx
  have hlen':(elems.map (·.1)).length=len:=by simpa using hlen
  refine⟨?_,rfl,(fun v hv=>by rw[List.mem_singleton] at hv; subst hv; rfl),(fun v hv=>by rw[List.mem_singleton] at hv; subst hv; intro n e; cases e),rfl,rfl,.inr ⟨_,_,rfl,fun x hx=>?_⟩⟩
  rotate_left
  ·obtain⟨y,hy,rfl⟩:=List.mem_map.1 hx
   obtain⟨i,hi,rfl⟩:=List.getElem_of_mem hy
   have:=hel i (by omega)
   rw[List.getElem?_eq_getElem hi] at this
   obtain⟨cs',_,h2⟩:=Option.bind_eq_some_iff.1 this
   exact(ih _ _ _ _ h2).wf
  simp only[Sh.aI,aG,List.length_map]
  refine⟨some a,cap,by rw[hlen],by omega,nofun,?_⟩
  by_cases h0:len=0
  ·left
   have:elems=[]:=List.length_eq_zero_iff.1 (by omega)
   rw[this]; rfl
  ·right
   have get: ∀ i,i<len-> ∃ cs',E.w.cells? base (a.add (i*s.cells)) s.cells=some cs'/\ ∃ x,elems[i]? =some x/\Rd E s x.1 cs':=by
    intro i hi
    have:=hel i hi
    rw[hce,List.getElem?_eq_getElem (by omega)] at this
    obtain⟨cs',h1,h2⟩:=Option.bind_eq_some_iff.1 this
    exact⟨cs',h1,elems[i],List.getElem?_eq_getElem (by omega),ih _ _ _ _ h2⟩
   obtain⟨cs0,c1,x0,_,r0⟩:=get 0 (by omega)
   obtain⟨cur,ty,mm,g1,g2,g3⟩:=Ih c1 hpos
   have ea:a.add (0*s.cells)=a:=by simp[Addr.add]
   rw[ea] at g1 g2 g3
   obtain⟨b,off,sp⟩:=a
   simp only at g1 g2 g3
   subst g2
   have hsub: ∀ i,i<len-> ∃ x,elems[i]? =some x/\Rd E s x.1 ((cur.toList.drop (off+i*s.cells)).take s.cells):=by
    intro i hi
    obtain⟨cs',q1,x,q2,q3⟩:=get i hi
    obtain⟨cur',ty',m',k1,k2,k3⟩:=Ih q1 hpos
    rw[Go.WideShapes.add_plain] at k1 k3
    simp only at k1 k3
    rw[g1] at k1; cases k1
    rw[k3] at q3
    exact⟨x,q2,q3⟩
   have hcur:len*s.cells<=(cur.toList.drop off).length:=by
    obtain⟨x,_,q⟩:=hsub (len-1) (by omega)
    have:=q.len
    rw[List.length_take,List.length_drop] at this
    rw[List.length_drop]
    have e:len*s.cells=(len-1)*s.cells+s.cells:=by
     conv=>lhs; rw[show len=(len-1)+1 by omega,Nat.add_mul,Nat.one_mul]
    omega
   refine⟨b,off,cur,ty,mm,rfl,hS b cur ty mm g1 ?_,g1,?_,?_⟩
   ·have hl0:=r0.len
    match hcs:cs0,hl0 with
    |[],hl0=>simp at hl0; omega
    |v::r,_ =>
     refine⟨v,?_,r0.u8 v (by simp)⟩
     have:v∈(cur.toList.drop off).take s.cells:=by rw[<- g3]; simp
     exact List.mem_of_mem_drop (List.mem_of_mem_take this)
   ·rw[bY]
    intro t ht
    rw[List.mem_map] at ht
    obtain⟨d,hd,rfl⟩:=ht
    rw[List.mem_map] at hd
    obtain⟨x,hx,rfl⟩:=hd
    obtain⟨i,hi,rfl⟩:=List.getElem_of_mem hx
    obtain⟨x',q1,q2⟩:=hsub i (by omega)
    rw[List.getElem?_eq_getElem hi] at q1
    cases q1
    exact fO q2.free
   ·refine Ol (by rw[List.length_map,List.length_map,hlen,<- hk,Sh.lG]; exact hcur) fun j t hj=>?_
    rw[<- hk,Sh.lG]
    have hjl:j<len:=by
     rcases Nat.lt_or_ge j len with h|h
     ·exact h
     ·rw[List.getElem?_eq_none (by simp; omega)] at hj; cases hj
    obtain⟨x,q1,q2⟩:=hsub j hjl
    rw[List.getElem?_map,List.getElem?_map,q1] at hj
    simp only[Option.map_some,Option.some.injEq] at hj
    subst hj
    rw[List.drop_drop]
    exact⟨q2.kd,q2.one,q2.rep⟩
mutual
theorem Sh.read{E:Env}{base:Nat}{spare:Nat->Bool}{held:Bool}(hS:Az E):(s:Sh)->(t:TypeId)->s.fits P t=true->(n:Nat)->(cs:List Value)->(d:DataW H)->(ps:List MemPlace) ->
  DataW.trod enc P E.w base spare held n t cs=some (d,ps)->Rd E s d cs
 | .int,t,hf,n,cs,d,ps,h=>by
  simp only[Sh.fits] at hf
  split at hf
  ·rename_i e
   obtain⟨z,rfl,hx,hwf⟩:=DataW.trod_int e h
   cases hx
   refine⟨by simp[Sh.aI,aG],rfl,(fun v hv=>by rw[List.mem_singleton] at hv; subst hv; rfl),(fun v hv=>by rw[List.mem_singleton] at hv; subst hv; intro n e; cases e),rfl,rfl,⟨z,rfl,hwf⟩⟩
  ·cases hf
 | .u64,t,hf,n,cs,d,ps,h=>by
  simp only[Sh.fits] at hf
  split at hf
  ·rename_i e
   obtain⟨z,rfl,hx,hwf⟩:=DataW.trod_int e h
   cases hx
   refine⟨by simp[Sh.aI,aG],rfl,(fun v hv=>by rw[List.mem_singleton] at hv; subst hv; rfl),(fun v hv=>by rw[List.mem_singleton] at hv; subst hv; intro n e; cases e),rfl,rfl,⟨z,rfl,hwf⟩⟩
  ·cases hf
 | .str,t,hf,n,cs,d,ps,h=>by
  simp only[Sh.fits] at hf
  split at hf
  ·rename_i e
   obtain⟨z,rfl,hx,_⟩:=DataW.trod_string e h
   cases hx
   refine⟨by simp[Sh.aI,aG],rfl,(fun v hv=>by rw[List.mem_singleton] at hv; subst hv; rfl),(fun v hv=>by rw[List.mem_singleton] at hv; subst hv; intro n e; cases e),rfl,rfl,⟨_,rfl⟩⟩
  ·cases hf
 | .bool,t,hf,n,cs,d,ps,h=>by
  simp only[Sh.fits] at hf
  split at hf
  ·rename_i e
   obtain⟨z,rfl,hx⟩:=DataW.trod_bool e h
   cases hx
   refine⟨by simp[Sh.aI,aG],rfl,(fun v hv=>by rw[List.mem_singleton] at hv; subst hv; rfl),(fun v hv=>by rw[List.mem_singleton] at hv; subst hv; intro n e; cases e),rfl,rfl,⟨_,rfl⟩⟩
  ·cases hf
 | .sl k s,t,hf,n,cs,d,ps,h=>by
  simp only[Sh.fits] at hf
  split at hf
  ·rename_i e he
   simp only[Bool.and_eq_true] at hf
   obtain⟨⟨⟨f1,f2⟩,f3⟩,f4⟩:=hf
   exact UZ hS he (Nat.eq_of_beq_eq_true f2) (Nat.eq_of_beq_eq_true f3) (Nat.blt_eq.mp f4) (Sh.read hS s e f1) h
  ·cases hf
 | .st l,t,hf,n,cs,d,ps,h=>by
  simp only[Sh.fits] at hf
  split at hf
  ·rename_i fs he
   simp only[Bool.and_eq_true] at hf
   obtain⟨xs,m,_,hx,hlen,hxl,hg⟩:=DataW.trod_struct he h
   cases hx
   have hct:=Nat.eq_of_beq_eq_true hf.2
   have R:=Sh.XL hS l fs.toList 0 hf.1 m cs xs (by simpa using hxl) (fun i f hi=>by
    have:=hg i f (by simpa using hi)
    rw[<- this]) (by rw[hlen,hct]; simp)
   simp only[List.drop_zero] at R
   refine⟨by simp only[Sh.aI,aG]; exact R.rep,by rw[hlen,hct]; rfl,R.one,R.u8,R.free,?_,⟨_,rfl,R.wf⟩⟩
   show(Sh.xk l _).length+1=Sh.tq l+1
   rw[R.cnt]
  ·cases hf
theorem Sh.XL{E:Env}{base:Nat}{spare:Nat->Bool}{held:Bool}(hS:Az E):(l:List Sh)->(fs:List Field)->(off:Nat)->Sh.Ig P l fs off=true->(n:Nat)->(cs:List Value)->(xs:List (DataW H×List MemPlace))->xs.length=fs.length ->
  (∀ (i:Nat) (f:Field),fs[i]? =some f->DataW.trod enc P E.w base spare held n f.type ((cs.drop f.offset).take (P.cellsOf f.type))=xs[i]?)->cs.length=off+Sh.tq l->RdL E l (xs.map (·.1)) (cs.drop off)
 |[],[],off,hf,n,cs,xs,hl,hx,hc=>by
  have:xs=[]:=List.length_eq_zero_iff.1 (by simpa using hl)
  subst this
  have:cs.drop off=[]:=List.drop_eq_nil_of_le (by rw[hc]; simp[Sh.tq])
  rw[this]
  exact⟨rfl,rfl,(fun v hv=>by cases hv),(fun v hv=>by cases hv),rfl,rfl,rfl⟩
 |s::l,f::fs,off,hf,n,cs,xs,hl,hx,hc=>by
  simp only[Sh.Ig,Bool.and_eq_true] at hf
  obtain⟨⟨⟨f1,f2⟩,f3⟩,f4⟩:=hf
  have e2:=Nat.eq_of_beq_eq_true f2
  have e3:=Nat.eq_of_beq_eq_true f3
  match xs,hl with
  |x::xs,hl =>
   have h0:=hx 0 f rfl
   rw[e2,e3] at h0
   have R0:=Sh.read hS s f.type f1 n _ x.1 x.2 h0
   simp only[Sh.tq] at hc
   have R1:=Sh.XL hS l fs (off+s.cells) f4 n cs xs (by simpa using hl) (fun i g hi=>by
    have:=hx (i+1) g (by simpa using hi)
    simpa using this) (by omega)
   have e:cs.drop off=(cs.drop off).take s.cells++cs.drop (off+s.cells):=by
    rw[<- List.drop_drop,List.take_append_drop]
   rw[e]
   have h1:(s.aI x.1).kd=0->((cs.drop off).take s.cells).length=1:=by
    intro hk
    rw[R0.len,<- Sh.lG,<- R0.kd,hk]; rfl
   refine⟨?_,?_,?_,?_,?_,?_,⟨_,_,rfl,R0.wf,R1.wf⟩⟩
   ·simp only[List.map_cons,Sh.xk]
    exact RH (LG R0.rep h1 R0.one) R1.rep
   ·rw[List.length_append,R0.len,R1.len]; rfl
   ·intro v hv
    rcases List.mem_append.1 hv with h|h
    ·exact R0.one v h
    ·exact R1.one v h
   ·intro v hv
    rcases List.mem_append.1 hv with h|h
    ·exact R0.u8 v h
    ·exact R1.u8 v h
   ·simp only[List.map_cons,Sh.xk]
    exact RI (Om R0.free) R1.free
   ·simp only[List.map_cons,Sh.xk,List.length_append,RJ,R0.kd,Sh.lG,R1.cnt]; rfl
 |[],_::_,_,hf,_,_,_,_,_,_=>by simp[Sh.Ig] at hf
 |_::_,[],_,hf,_,_,_,_,_,_=>by simp[Sh.Ig] at hf
end
end
open Go.ChangeShapes Go.WideShapes Go.RowKit
section
variable {P:Program} {H:Type} {enc:TypeId×Value->H}
theorem Ii{W:World}(h:Lib.TabIs P W "strings.asciiSpace" .u8 Lib.asciiSpaceTab): ∀ g cs,sZ P g=some cs-> ∃ ty m,W.heap[g]? =some (.cells cs ty m):=by
 intro g cs hg
 unfold sZ at hg
 split at hg
 ·rename_i e
  cases hg
  unfold Lib.TabIs World.var? at h
  rw[e] at h
  simp only[Option.bind_some] at h
  split at h
  ·rename_i c ty m hc
   cases h
   exact⟨ty,m,hc⟩
  ·cases h
 ·cases hg
def U0(P:Program)(W:World):Env:=⟨W,fun g=>g<W.heap.size/\sZ P g=none,fun _=>.nilFunc,fun _=>0,no⟩
def Zm(P:Program):Fr P:=⟨fun g=>(sZ P g).isSome=true⟩
theorem U1{g:Nat}{cs:Array Value}(h:sZ P g=some cs): ∀ v∈cs.toList,¬ PE v:=by
 unfold sZ at h
 split at h
 ·cases h
  intro v hv hn
  simp only[List.mem_map] at hv
  obtain⟨z,_,rfl⟩:=hv
  exact hn z rfl
 ·cases h
theorem WX{W:World}(hgl: ∀ g cs,sZ P g=some cs-> ∃ ty m,W.heap[g]? =some (.cells cs ty m)):Az (U0 P W):=by
 intro b cur ty m hb hv
 refine⟨(Array.getElem?_eq_some_iff.1 hb).1,?_⟩
 cases hg:sZ P b with
 |none=>rfl
 |some cs =>
  obtain⟨ty',m',h⟩:=hgl b cs hg
  rw[show W.heap[b]? =_ from hb] at h
  cases h
  obtain⟨v,hv1,hv2⟩:=hv
  exact absurd hv2 (U1 hg v hv1)
theorem U2{W:World}(hgl: ∀ g cs,sZ P g=some cs-> ∃ ty m,W.heap[g]? =some (.cells cs ty m)):qw (Zm P) (U0 P W):=by
 refine⟨(fun i ob hi=>by cases hi),(fun i ob g hi=>by cases hi),(fun i j oi oj g _ hi=>by cases hi),fun g hg=>hg.1,fun g hg=>?_,fun g hs hg=>?_,fun g cs hg=>⟨?_,hgl g cs hg⟩⟩
 ·obtain⟨cs,hc⟩:=Option.isSome_iff_exists.1 hg
  obtain⟨ty,m,h⟩:=hgl g cs hc
  exact(Array.getElem?_eq_some_iff.1 h).1
 ·have h1:=hs.2
  have h2:(sZ P g).isSome=true:=hg
  rw[h1] at h2; cases h2
 ·show(sZ P g).isSome=true
  rw[hg]; rfl
def Sh.args:List Sh->List (DataW H)->List T
 |s::l,d::ds=>s.aI d::Sh.args l ds
 |_,_=>[]
def Sh.LH(P:Program):List Sh->List TypeId->Bool
 |[],[]=>true
 |s::l,t::ts=>s.fits P t&&Sh.LH P l ts
 |_,_=>false
theorem WY{E:Env}{s:Sh}{t:TypeId}{d:DataW H}{v:Value}{W:World}{base:Nat}(hf:s.fits P t=true)(R:Rd E s d v.cells.toList)(hok:Value.okWide P W .any base t v):iR E (s.aI d) v:=by
 cases s with
 |st l =>
  simp only[Sh.fits] at hf
  split at hf
  ·rename_i fs he
   obtain⟨cs,rfl,_⟩:=okWide_struct he hok
   refine .inl ⟨by rw[R.kd]; exact Nat.succ_ne_zero _,cs,rfl,R.rep⟩
  ·cases hf
 |int =>
  simp only[Sh.fits] at hf
  split at hf
  ·rename_i he
   obtain⟨n,rfl⟩:=okWide_int he hok
   exact .inr ⟨R.kd,R.rep⟩
  ·cases hf
 |u64 =>
  simp only[Sh.fits] at hf
  split at hf
  ·rename_i he
   obtain⟨n,rfl⟩:=okWide_int he hok
   exact .inr ⟨R.kd,R.rep⟩
  ·cases hf
 |str =>
  simp only[Sh.fits] at hf
  split at hf
  ·rename_i he
   obtain⟨n,rfl⟩:=okWide_string he hok
   exact .inr ⟨R.kd,R.rep⟩
  ·cases hf
 |bool =>
  simp only[Sh.fits] at hf
  split at hf
  ·rename_i he
   obtain⟨n,rfl⟩:=okWide_bool he hok
   exact .inr ⟨R.kd,R.rep⟩
  ·cases hf
 |sl k s =>
  simp only[Sh.fits] at hf
  split at hf
  ·rename_i e he
   obtain⟨a,len,cap,rfl⟩:=okWide_slice he hok
   exact .inr ⟨R.kd,R.rep⟩
  ·cases hf
theorem U3{E:Env}{base:Nat}{spare:Nat->Bool}{held:Bool}{b2:Nat}(hS:Az E): ∀ {LJ:List Sh} {ts:List TypeId} {vs:List Value} {ds:List (DataW H)} {ps:List MemPlace},Sh.LH P LJ ts=true->DataW.TrodAll enc P E.w base spare held ts vs ds ps ->
  (∀ (j:Nat) (t:TypeId) (v:Value),ts[j]? =some t->vs[j]? =some v->Value.okWide P E.w .any b2 t v)->bn E (Sh.args LJ ds) vs/\T.cu (Sh.args LJ ds)=true/\Sh.Jo LJ ds:=by
 intro LJ
 induction LJ with
 |nil =>
  intro ts vs ds ps hf hA hok
  cases ts with
  |nil =>
   match vs,ds,hA with
   |[],[],_=>exact⟨rfl,rfl,rfl⟩
  |cons t ts=>cases hf
 |cons s LJ ih =>
  intro ts vs ds ps hf hA hok
  cases ts with
  |nil=>cases hf
  |cons t ts =>
   match vs,ds,hA with
   |v::vs,d::ds,⟨p,q,⟨n,h1⟩,h2,_⟩ =>
    simp only[Sh.LH,Bool.and_eq_true] at hf
    have R:=Sh.read hS s t hf.1 n _ d p h1
    obtain⟨i1,i2,i3⟩:=ih hf.2 h2 fun j t' v' a b=>hok (j+1) t' v' (by simpa using a) (by simpa using b)
    refine⟨?_,?_,⟨d,ds,rfl,R.wf,i3⟩⟩
    ·simp only[Sh.args,bC]
     exact⟨v,vs,rfl,WY hf.1 R (hok 0 t v rfl rfl),i1⟩
    ·simp only[Sh.args,T.cu,Bool.and_eq_true]
     exact⟨R.free,i2⟩
theorem RN{W:World}(hgl: ∀ g cs,sZ P g=some cs-> ∃ ty m,W.heap[g]? =some (.cells cs ty m)){f:FuncId}{LJ:List Sh}{ts:List TypeId}{args:Array Value}{ds:List (DataW H)}{ps:List MemPlace}{b2:Nat}{u:Value}
  (hf:Sh.LH P LJ ts=true) (hA:DataW.TrodAll enc P W 0 (fun _=>true) true ts args.toList ds ps) (hok: ∀ (j:Nat) (t:TypeId) (v:Value),ts[j]? =some t->args[j]? =some v->Value.okWide P W .any b2 t v)
  (S:Sh.Jo LJ ds->sH P f (Sh.args LJ ds) (.lit u)):Calls P f args W fun e W'=>e= .returned u/\Below W.heap.size W W':=by
 obtain⟨hr,hfr,hwf⟩:=U3 (E:=U0 P W) (WX hgl) hf hA (fun j t v a b=>hok j t v a (by simpa using b))
 obtain⟨_,_,hcall⟩:=(S hwf).call 0
 have:=hcall (Zm P) (fun _=>False) (U0 P W) args.toList (U2 hgl) rfl hr (bV hfr) (zi _) (fun h=>h)
 refine this.mono ?_
 rintro e w' ⟨v,t,E2,rfl,rfl,⟨rfl,_⟩,hv,_,hext,_⟩
 refine⟨by rw[aH.1 hv],hext.os,hext.tape,hext.output,hext.size,fun g hg=>hext.w g ?_⟩
 cases hq:sZ P g with
 |none=>exact .inl ⟨hg,hq⟩
 |some cs=>right; show(sZ P g).isSome=true; rw[hq]; rfl
theorem Gu(hl:laidOutB P=true){W W':World}(hb:Below W.heap.size W W'){sp:Nat->Bool}: ∀ {ts:List TypeId} {vs:List Value} {ds:List (DataW H)} {ps:List MemPlace},(∀ t∈ts,P.readableRec t=true/\t<P.types.size) ->
  DataW.TrodAll enc P W 0 (fun _=>true) true ts vs ds ps->(∀ x∈ps,x.block<W.heap.size)->(∀ x∈ps,sp x.block=true)->DataW.TrodAll enc P W' 0 sp true ts vs ds ps:=by
 intro ts
 induction ts with
 |nil =>
  intro vs ds ps _ h _ _
  match vs,ds,h with
  |[],[],h=>exact h
 |cons t ts ih =>
  intro vs ds ps hr h hlt hsp
  match vs,ds,h with
  |v::vs,d::ds,⟨p,q,h1,h2,e⟩ =>
   subst e
   refine⟨p,q,?_,ih (fun t ht=>hr t (by simp[ht])) h2 (fun x hx=>hlt x (by simp[hx])) (fun x hx=>hsp x (by simp[hx])),rfl⟩
   obtain⟨r1,r2⟩:=hr t (by simp)
   exact WideElems.Trod_stays hl r1 r2 h1 (fun x hx=>hb.same (hlt x (by simp[hx]))) (fun x hx=>hsp x (by simp[hx]))
theorem LK{W:World}(hgl: ∀ g cs,sZ P g=some cs-> ∃ ty m,W.heap[g]? =some (.cells cs ty m)){f:FuncId}{fn:Func}{s:ChangeSpec}{LJ:List Sh}{args:Array Value}{ds gs:List (DataW H)}{before:List MemPlace}{b2:Nat}{tb:TypeId}
  (hl:laidOutB P=true) (hrd: ∀ t∈fn.params.toList,P.readableRec t=true/\t<P.types.size) (hvars:s.vars=[]) (hres:fn.resultTypes= #[tb]) (htb:P.underlying tb=some .bool)
  (hspec:s.fn H ds= {results:=[.lit (.bool true)],args:=ds})
  (hf:Sh.LH P LJ fn.params.toList=true) (hval: ∀ (j:Nat) (t:TypeId) (v:Value),fn.params[j]? =some t->args[j]? =some v->Value.okWide P W .any b2 t v)
  (hW:DataW.Whole enc P fn.params.toList s.vars false W args.toList ds gs before) (S:Sh.Jo LJ ds->sH P f (Sh.args LJ ds) (.bool true)) :
  Calls P f args W fun e W'=> ∃ v,e= .returned v/\s.post enc P fn false true false false W args v W':=by
 have hW':=hW
 obtain⟨p,q,hA,hV,hpq,hfz,hnd⟩:=hW
 have hV0:gs=[]/\q=[]:=by
  rw[hvars] at hV
  cases gs with
  |nil=>exact⟨rfl,hV⟩
  |cons _ _=>exact hV.elim
 obtain⟨rfl,rfl⟩:=hV0
 subst hpq
 refine(RN hgl hf hA (fun j t v a b=>hval j t v (by simpa using a) b) S).mono ?_
 rintro e W' ⟨rfl,hb⟩
 have hlt: ∀ x∈p,x.block<W.heap.size:=fun x hx=>by simpa using hW'.lt x (by simp[hx])
 refine⟨_,rfl,?_⟩
 have hold: ∀ x∈p,(fun b=>decide (b<W.heap.size)) x.block=true:=fun x hx=>by simpa using hlt x hx
 refine⟨ds,[],p++[],[],p,[],hW',?_,?_,?_,World.keptBut_mono (fun x hx=>⟨by simpa using hx,?_⟩) (hb.frame (· ∈p)),fun h=>by cases h⟩
 ·rw[List.append_nil,hspec,hres]
  exact trodAll_mk1 (shut_bool htb true)
 ·rw[List.append_nil,hspec]
  exact Gu hl hb hrd hA hlt hold
 ·rw[List.append_nil,hspec,hvars]; rfl
 ·right; simpa using hx
end
end Go.Ab
