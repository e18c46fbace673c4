/-
 The typed layer, part 9: contracts of functions; loops.
-/
import Derived.Defers
import Derived.Shelf.SlSortCmp.WholeK
import Derived.Deep.Slices
import Derived.Carry
import Derived.RowKit
import Derived.Stop.LaidErr
import Derived.Deep.DeepHandedRow
import Derived.Deep.DeepWitnessRowRef
import Derived.Lib.LaidTab
import Derived.Test.YtkomllaebngbfaaGreatDoorLf
import Derived.Test.YtkomllaebngbfaaGreatDoorLd
import Derived.Test.YtkomllaebngbfaaGreatDoorLe
namespace Go.Ab
section
variable {P:Program}
structure Body(P:Program)(f:FuncId)(ac:dU)(rs:List RV)(nt:Nat):Prop where
 ex: ∃ fn c,P.funcs[f]? =some fn/\fn.body=some c/\comp P c=some ac/\jZ P fn.results.toList=some rs/\fn.ntmps=nt
 cl:callable P f
 dst:qR nt ac=true
def Vt(m:Fm)(h:Hz):RV->Option V
 | .slot t=>m.get t
 | .cell a k=>match m.get a with
  |some v=>match ldZ h k v with|some (u,.no)=>some u|_=>none
  |none=>none
def Qx(m:Fm)(h:Hz):List RV->Option (List V)
 |[]=>some []
 |r::rs=>match Vt m h r,Qx m h rs with
  |some v,some l=>some (v::l)
  |_,_=>none
def resV(m:Fm)(h:Hz)(rs:List RV):Option V :=
 match Qx m h rs with
 |some [v]=>some v
 |some l=>some (.iF l)
 |none=>none
theorem Vu{m:Fm}{h:Hz}{s:AS}(R:Rp m s.fr)(hh:s.hp=h.aI){r:RV}{v:V}(q:Vt m h r=some v):r.ok s/\r.val s=v.aG:=by
 cases r with
 |slot t=>exact⟨trivial,R.getD q⟩
 |cell a k =>
  simp only[Vt] at q
  split at q
  ·rename_i u hu
   split at q
   ·rename_i w hw
    cases q
    have:=Vm (x:=.t a) hh hw trivial (R.ev (x:=.t a) hu)
    exact this
   ·cases q
  ·cases q
theorem MX{m:Fm}{h:Hz}{s:AS}(R:Rp m s.fr)(hh:s.hp=h.aI): ∀ {rs:List RV} {l:List V},Qx m h rs=some l->zL s rs/\rs.map (RV.val s)=V.bQ l:=by
 intro rs
 induction rs with
 |nil=>intro l q; cases q; exact⟨trivial,rfl⟩
 |cons r rs ih =>
  intro l q
  simp only[Qx] at q
  split at q
  ·rename_i v l' h1 h2
   cases q
   obtain⟨a1,a2⟩:=Vu R hh h1
   obtain⟨b1,b2⟩:=ih h2
   exact⟨⟨a1,b1⟩,by simp only[List.map_cons,V.bQ]; rw[a2,b2]⟩
  ·cases q
theorem Qy{m:Fm}{h:Hz}{s:AS}(R:Rp m s.fr)(hh:s.hp=h.aI){rs:List RV}{v:V}(q:resV m h rs=some v):zL s rs/\resT s rs=v.aG:=by
 unfold resV at q
 split at q
 ·rename_i u e
  cases q
  obtain⟨a,b⟩:=MX R hh e
  refine⟨a,?_⟩
  cases rs with
  |nil=>simp[V.bQ] at b
  |cons r rs =>
   cases rs with
   |nil=>simp only[List.map_cons,List.map_nil,V.bQ,List.cons.injEq,and_true] at b; exact b
   |cons r' rs=>simp[V.bQ] at b
 ·rename_i l hne e
  cases q
  obtain⟨a,b⟩:=MX R hh e
  refine⟨a,?_⟩
  match rs,b,e with
  |[],b,_=>simp only[resT,V.aG]; rw[b]
  |[r],b,e =>
   cases l with
   |nil=>simp[V.bQ] at b
   |cons u l =>
    cases l with
    |nil=>exact absurd rfl (hne u)
    |cons w l=>simp[V.bQ] at b
  |r::r'::rs,b,_=>simp only[resT,V.aG]; rw[b]
 ·cases q
structure ak(res v:V)(h:Hz):Prop where
 ok:T.sub (fun _=>True) h.aI res.aG v.aG
def abO(rs:List RV)(res:V):Qz
 | .exit _,_,_,_=>False
 |_,m,h,_=>match resV m h rs with
  |some v=>v.seq fun v=>ak res v h
  |none=>False
def Dx:Nat->List V->Fm
 |_,[]=>[]
 |i,v::r=>(i,v)::Dx (i+1) r
theorem Po: ∀ {l:List V} {i j:Nat} {v:V},(Dx i l).get j=some v-> ∃ k,j=i+k/\l[k]? =some v:=by
 intro l
 induction l with
 |nil=>intro i j v q; cases q
 |cons u r ih =>
  intro i j v q
  simp only[Dx,Fm.get] at q
  cases hb:Nat.beq i j with
  |true=>rw[hb] at q; cases q; exact⟨0,(ku hb).symm,rfl⟩
  |false =>
   rw[hb] at q
   obtain⟨k,e1,e2⟩:=ih q
   exact⟨k+1,by omega,by simpa using e2⟩
theorem Gs{l:List V}{n:Nat}:Rp (Dx 0 l) (V.bQ l++List.replicate n T.un):=by
 intro i v q
 obtain⟨k,e1,e2⟩:=Po q
 have e:i=k:=by omega
 subst e
 have hk:i<l.length:=(List.getElem?_eq_some_iff.1 e2).1
 rw[List.getElem?_append_left (by rw[jd]; exact hk),nS,List.getElem?_map,e2]
 rfl
theorem X9:(no:Hp)=Hz.aI []:=rfl
@[reducible] def aj(P:Program)(f:FuncId)(args:List V)(res:V):Prop:=oV P f (V.bQ args) res.aG
theorem aj.of{f:FuncId}{ac:dU}{rs:List RV}{nt:Nat}{args:List V}{res:V}(B:Body P f ac rs nt)(hn:args.length<=nt)(hf:V.aT args=true)(hr:res.free=true)(H:az P nt 0 ac (abO rs res) (Dx 0 args) [] 0):aj P f args res:=by
 obtain⟨fn,c,h1,h2,h3,h4,h5⟩:=B.ex
 have Ej:res.aG.ids (fun _=>False):=eH (V.qJ res hr)
 refine rE.EF (o:=none) h1 h2 h3 h4 B.cl h5 (V.lT args hf) (fun _ _=>OQ _ Ej) (fun _=>T.aV (fun _ h=>h.elim) _ Ej) (fun _ h=>by cases h) ?_
 have:=wG (P:=P) (N:=nt) (pn:=0) (s:=⟨V.bQ args++List.replicate (nt-(V.bQ args).length) T.un,no,0,0⟩) B.dst (by simp[jd]; omega) Gs X9 rfl H
 refine oU ?_ this
 rintro e s ⟨m,h,a1,a2,a3,a4,a5⟩
 have key: ∀ {m h},Rp m s.fr->s.hp=Hz.aI h->(match resV m h rs with|some v=>v.seq fun v=>ak res v h|none=>False)->zL s rs/\T.sub (fun _=>True) s.hp res.aG (resT s rs):=by
  intro m h a2 a3 q
  split at q
  ·rename_i v hv
   rw[V.seq_eq] at q
   obtain⟨b1,b2⟩:=Qy a2 a3 hv
   exact⟨b1,by rw[b2,a3]; exact q.ok⟩
  ·exact q.elim
 cases e with
 |exit j=>exact a5.elim
 |normal=>exact key a2 a3 a5
 |ret=>exact key a2 a3 a5
theorem ak.int{a b:Int}{h:Hz}(e:a=b):ak (.int a) (.int b) h:=⟨by subst e; exact fQ _⟩
theorem ak.bool{a b:Bool}{h:Hz}(e:a=b):ak (.bool a) (.bool b) h:=⟨by subst e; exact fQ _⟩
theorem ak.row{a b:Rw}{k:Nat}{f:Bool}{h:Hz}(e:a=b):ak (.row k false a) (.row k f b) h:=⟨by
 subst e; simp only[V.aG,T.sub]; exact⟨.inl trivial,.inl trivial,fun h=>by cases h⟩⟩
theorem ah.pure{dr:Bool}{f:FuncId}{args:List V}{res:V}{h:Hz}{n:Nat}{K:V->Hz->Prop}{KW:Nat->V->Hz->Prop}(S:aj P f args res)(hr:res.free=true)(hK:K res h):ah P dr none f args h n K KW :=
 ⟨.inl (rE.use S (gY _) ⟨res,h,rfl,rfl,fun _=>⟨rfl,V.qJ res hr⟩,hK⟩)⟩
theorem ah.eY{dr:Bool}{b:Bool}{f:FuncId}{args:List V}{res:V}{h:Hz}{n:Nat}{K:V->Hz->Prop}{KW:Nat->V->Hz->Prop}(S:b=true->aj P f args res)(hr:res.free=true)(hK:K res h):ah P dr (some b) f args h n K KW :=
 ⟨.inl (.inl ⟨res,fun e=>rE.use (S e) (gY _) ⟨rfl,rfl⟩,hr,hK⟩)⟩
theorem PY.pure{f:FuncId}{args:List V}{res:V}{h:Hz}{n:Nat}{K:V->Hz->Prop}(S:aj P f args res)(hr:res.free=true)(hK:K res h):PY P f args h n K :=
 ⟨res,none,T.aV (fun _ h=>h.elim) _ (eH (V.qJ res hr)),(fun _ h=>by cases h),fun hp _=>(rE.frame S hp n),hK⟩
def IY(m:Fm):List Nat->Fm->(Fm->Prop)->Prop
 |[],acc,K=>K acc
 |d::r,acc,K=>match m.get d with
  |some v=>v.seq fun v=>IY m r ((d,v)::acc) K
  |none=>False
theorem Dy{m:Fm}: ∀ {l:List Nat} {acc:Fm} {K:Fm->Prop},IY m l acc K->(∀ i v,acc.get i=some v->m.get i=some v)-> ∃ b,K b/\ ∀ i v,Fm.get i b=some v->m.get i=some v:=by
 intro l
 induction l with
 |nil=>intro acc K q ha; exact⟨acc,q,ha⟩
 |cons d r ih =>
  intro acc K q ha
  simp only[IY] at q
  split at q
  ·rename_i v hv
   rw[V.seq_eq] at q
   refine ih q ?_
   intro i u hu
   simp only[Fm.get] at hu
   cases hb:Nat.beq d i with
   |true=>rw[hb] at hu; cases hu; rw[<- ku hb]; exact hv
   |false=>rw[hb] at hu; exact ha i u hu
  ·exact q.elim
def IZ(m':Fm):Fm->Prop
 |[]=>True
 |p::r=>(∃ v,m'.get p.1=some v/\p.2.aG=v.aG)/\IZ m' r
theorem I4{m':Fm}: ∀ {m0:Fm},IZ m' m0-> ∀ {i:Nat} {v:V},m0.get i=some v-> ∃ u,m'.get i=some u/\v.aG=u.aG:=by
 intro m0
 induction m0 with
 |nil=>intro _ i v q; cases q
 |cons p r ih =>
  intro hs i v q
  simp only[Fm.get] at q
  cases hb:Nat.beq p.1 i with
  |true=>rw[hb] at q; cases q; rw[<- ku hb]; exact hs.1
  |false=>rw[hb] at q; exact ih hs.2 q
def Ya(nx N:Nat):Fm->Bool
 |[]=>true
 |p::r=>T.lt nx p.2.aG&&Nat.blt p.1 N&&Ya nx N r
theorem zi{nx N:Nat}: ∀ {m:Fm},Ya nx N m=true-> ∀ {i:Nat} {v:V},m.get i=some v->T.lt nx v.aG=true/\i<N:=by
 intro m
 induction m with
 |nil=>intro _ i v q; cases q
 |cons p r ih =>
  intro hs i v q
  simp only[Ya,Bool.and_eq_true] at hs
  simp only[Fm.get] at q
  cases hb:Nat.beq p.1 i with
  |true=>rw[hb] at q; cases q; exact⟨hs.1.1,by rw[<- ku hb]; simpa using hs.1.2⟩
  |false=>rw[hb] at q; exact ih hs.2 q
def xF(N:Nat)(m:Fm):List T:=(List.range N).map fun i=>match m.get i with|some v=>v.aG|none=>.any
theorem yH{N:Nat}{m:Fm}:(xF N m).length=N:=by simp[xF]
theorem Gt{N:Nat}{m:Fm}(hN: ∀ i v,m.get i=some v->i<N):Rp m (xF N m):=by
 intro i v q
 simp only[xF,List.getElem?_map,List.getElem?_range (hN i v q),Option.map_some,q]
theorem QA{Z:Nat->Prop}{h:Hp}: ∀ {a b:List T},a.length=b.length->(∀ (i:Nat) (t u:T),a[i]? =some t->b[i]? =some u->T.sub Z h t u)->T.eU Z h a b:=by
 intro a
 induction a with
 |nil=>intro b hl _; cases b with|nil=>trivial|cons _ _=>simp at hl
 |cons t a ih =>
  intro b hl H
  cases b with
  |nil=>simp at hl
  |cons u b=>exact⟨H 0 t u rfl rfl,ih (by simpa using hl) fun i t u h1 h2=>H (i+1) t u (by simpa using h1) (by simpa using h2)⟩
theorem QB{Z:Nat->Prop}{h:Hp}{t:T}:T.sub Z h .any t:=by cases t<;>simp[T.sub]
theorem Vw{N:Nat}{m0 m:Fm}{fr:List T}{Z:Nat->Prop}{h:Hp}(hl:fr.length=N)(R:Rp m fr)(hs: ∀ i v,m0.get i=some v-> ∃ u,m.get i=some u/\v.aG=u.aG):T.eU Z h (xF N m0) fr:=by
 refine QA (by rw[yH,hl]) fun i t u h1 h2=>?_
 simp only[xF,List.getElem?_map] at h1
 have hi:i<N:=by
  rcases Nat.lt_or_ge i N with h|h
  ·exact h
  ·rw[List.getElem?_eq_none (by simpa using h)] at h1; cases h1
 rw[List.getElem?_range hi] at h1
 simp only[Option.map_some,Option.some.injEq] at h1
 split at h1
 ·rename_i v hv
  obtain⟨w,hw,e⟩:=hs i v hv
  have:=R i w hw
  rw[h2] at this
  simp only[Option.some.injEq] at this
  subst h1; rw[this,e]; exact fQ _
 ·subst h1; exact QB
theorem Gu{N nx:Nat}{m:Fm}(hg: ∀ i v,m.get i=some v->T.lt nx v.aG=true):T.aH (· <nx) (xF N m):=by
 rw[bH]
 intro t ht
 simp only[xF,List.mem_map] at ht
 obtain⟨i,_,e⟩:=ht
 split at e
 ·rename_i v hv; subst e; exact FP (hg i v hv)
 ·subst e; simp[T.ids]
def OV.good(nx:Nat):OV->Bool
 | .row _ k r x=>(match r with| .nil=>true|r=>Nat.beq r.kd k)&&H8 k x&&T.LM nx (V.bQ x)&& !(Nat.beq k dK)
 | .box _ k v=>H8 k [v]&&T.lt nx v.aG&& !(Nat.beq k dK)
 | .map _ _ x=>x.all fun e=>T.lt nx e.2.aG
def Gv(nx:Nat):Hz->Bool
 |[]=>true
 |(i,some o)::r=>Nat.blt i nx&&o.good nx&&Gv nx r
 |(_,none)::r=>Gv nx r
theorem QC{n:Nat}: ∀ {l:List T},T.LM n l=true->T.aH (· <n) l:=by
 intro l
 induction l with
 |nil=>intro _; trivial
 |cons t l ih =>
  intro q
  simp only[T.LM,Bool.and_eq_true] at q
  exact⟨FP q.1,ih q.2⟩
theorem Rw.ids{M:Nat->Prop}(r:Rw):T.aH M r.bQ:=by
 rw[bH]
 intro t ht
 cases r<;>simp only[Rw.bQ,List.mem_map,List.not_mem_nil] at ht<;>obtain⟨x,_,rfl⟩:=ht<;>simp[eS,T.ids,T.aH,OT,MG,IJ,OU,EG,uj]
theorem Rw.kds{r:Rw}: ∀ t∈r.bQ,t.kd=r.kd:=by
 intro t ht
 cases r<;>simp only[Rw.bQ,List.mem_map,List.not_mem_nil] at ht<;>obtain⟨x,_,rfl⟩:=ht<;>rfl
theorem Yb{k:Nat}{l:List V}(q:H8 k l=true): ∀ t∈V.bQ l,t.kd=k:=by
 intro t ht
 rw[nS,List.mem_map] at ht
 obtain⟨v,hv,rfl⟩:=ht
 exact V.Ko (EK q v hv)
theorem QD{k:Nat}{l:List T}(hk:k≠dK)(h: ∀ t∈l,t.kd=k):WH k l=true:=by
 unfold WH
 have:(k==1000000007)=false:=by simpa using hk
 rw[this]; simp only[cond_false,List.all_eq_true,beq_iff_eq]; exact h
theorem OV.EL{nx:Nat}{o:OV}(q:o.good nx=true):T.aH (· <nx) o.bJ.l/\WH o.bJ.k o.bJ.l=true:=by
 cases o with
 |row ty k r x =>
  simp only[OV.good,Bool.and_eq_true,Bool.not_eq_true'] at q
  obtain⟨⟨⟨q1,q2⟩,q3⟩,q4⟩:=q
  simp only[OV.bJ]
  refine⟨dV.2 ⟨r.ids,QC q3⟩,QD (Nat.ne_of_beq_eq_false q4) fun t ht=>?_⟩
  rcases List.mem_append.1 ht with ht|ht
  ·split at q1
   ·cases ht
   ·rw[<- ku q1]; exact Rw.kds t ht
  ·exact Yb q2 t ht
 |box ty k v =>
  simp only[OV.good,Bool.and_eq_true,Bool.not_eq_true'] at q
  obtain⟨⟨q1,q2⟩,q3⟩:=q
  simp only[OV.bJ]
  refine⟨⟨FP q2,trivial⟩,QD (Nat.ne_of_beq_eq_false q3) fun t ht=>?_⟩
  rw[List.mem_singleton] at ht; subst ht; exact Si q1
 |map ty es x =>
  simp only[OV.good,List.all_eq_true] at q
  simp only[OV.bJ]
  refine⟨?_,?_⟩
  ·rw[bH]
   intro t ht
   rcases List.mem_append.1 ht with ht|ht
   ·rw[List.mem_map] at ht
    obtain⟨e,_,rfl⟩:=ht
    simp[J6,T.ids,T.aH]
   ·rw[List.mem_map] at ht
    obtain⟨e,he,rfl⟩:=ht
    simp only[XR,T.ids,T.aH]; exact⟨trivial,FP (q e he),trivial⟩
  ·unfold WH
   simp[dK,jC,J6,XR]
theorem Gw{nx:Nat}: ∀ {h:Hz},Gv nx h=true->HpG nx h.aI:=by
 intro h
 induction h with
 |nil=>intro _ i ob e; simp[Hz.aI,Hz.get] at e
 |cons p r ih =>
  obtain⟨j,o⟩:=p
  intro q
  rw[dI]
  cases o with
  |none=>exact Xy (ih q)
  |some o =>
   simp only[Gv,Bool.and_eq_true] at q
   obtain⟨g1,g2⟩:=OV.EL q.1.2
   exact Xx (ih q.2) (by simpa using q.1.1) g1 g2
def yJ(nx:Nat):Hz->Hz
 |[]=>[]
 |(i,o)::r=>bif Nat.blt i nx then(i,o)::yJ nx r else yJ nx r
theorem Gx{nx i:Nat}(hi:i<nx): ∀ {h:Hz},(yJ nx h).get i=h.get i:=by
 intro h
 induction h with
 |nil=>rfl
 |cons p r ih =>
  obtain⟨j,o⟩:=p
  simp only[yJ]
  cases hb:Nat.blt j nx with
  |true=>simp only[cond_true,Hz.get]; cases Nat.beq j i<;>simp[ih]
  |false =>
   simp only[cond_false,Hz.get]
   have hne:Nat.beq j i=false:=by
    cases e:Nat.beq j i with
    |false=>rfl
    |true =>
     have:=ku e; subst this
     have:Nat.blt j nx=true:=by simpa using hi
     rw[this] at hb; cases hb
   rw[hne]; exact ih
structure abP{ι:Type}(inv:ι->Prop)(μ:ι->Nat)(vars:ι->Fm)(base:Fm)(hs:Hz)(nx:Nat)(i:ι)(m:Fm)(h:Hz):Prop where
 ok: ∃ j,inv j/\μ j<μ i/\IZ m (vars j)/\IZ m base/\yJ nx h=hs
theorem get_append{a b:Fm}{i:Nat}{v:V}(q:Fm.get i (a++b)=some v):a.get i=some v\/Fm.get i b=some v:=by
 induction a with
 |nil=>exact .inr q
 |cons p r ih =>
  simp only[List.cons_append,Fm.get] at q ⊢
  cases hb:Nat.beq p.1 i with
  |true=>rw[hb] at q; exact .inl q
  |false=>rw[hb] at q; exact ih q
theorem aX.same{N pn nx:Nat}{b:dU}{Q:Qz}{m:Fm}{h:Hz}{ι:Type}(live:List Nat)(vars:ι->Fm)(inv:ι->Prop)(μ:ι->Nat)(i0:ι)(hd:qR N b=true)(hp:pn<=nx)(hg:Gv nx h=true)(hv: ∀ i,Ya nx N (vars i)=true)(h0:inv i0)(he:IZ m (vars i0))
  (H:IY m live [] fun base=>Ya nx N base=true/\ ∀ i,inv i->az P N pn b (fun e m' h' n'=>match e with
   | .normal=>abP inv μ vars base (yJ nx h) nx i m' h'
   |e=>Q e m' h' n') (vars i++base) h nx):aX P N pn b Q m h nx:=by
 obtain⟨base,⟨hb,H⟩,hbm⟩:=Dy H (fun i v q=>by cases q)
 refine⟨fun fr hl R=>?_⟩
 have hall: ∀ i j v,Fm.get j (vars i++base)=some v->T.lt nx v.aG=true/\j<N:=fun i j v q=>by
  rcases get_append q with q|q
  ·exact zi (hv i) q
  ·exact zi hb q
 have wk: ∀ (i:ι) (m':Fm) (h':Hz) (s':AS),s'.fr.length=N->Rp m' s'.fr->s'.hp=h'.aI->s'.pin=pn->IZ m' (vars i)->(∀ j v,Fm.get j base=some v-> ∃ u,m'.get j=some u/\v.aG=u.aG)->yJ nx h'=yJ nx h ->
   Wk ⟨xF N (vars i++base),h.aI,nx,pn⟩ s':=by
  intro i m' h' s' a1 a2 a3 a4 a5 a6 a7
  obtain⟨fr',hp',nx',pn'⟩:=s'
  simp only at a1 a2 a3 a4
  subst a3; subst a4
  refine Wk.same (Vw a1 a2 fun j v q=>?_) (Gu fun j v q=>(hall i j v q).1) (Gw hg) (fun j hj=>?_) hp
  ·rcases get_append q with q|q
   ·exact I4 a5 q
   ·exact a6 j v q
  ·simp only[Hz.aI]; rw[<- Gx hj,a7,Gx hj]
 refine xJ.rule (fun i=>⟨xF N (vars i++base),h.aI,nx,pn⟩) inv μ i0 h0 (wk i0 m h _ hl R rfl rfl he (fun j v q=>⟨v,hbm j v q,rfl⟩) rfl) ?_
 intro i hi
 have:=wG (P:=P) (N:=N) (pn:=pn) (s:=⟨xF N (vars i++base),h.aI,nx,pn⟩) hd yH (Gt fun j v q=>(hall i j v q).2) rfl rfl (H i hi)
 refine oU ?_ this
 rintro e s' ⟨m',h',a1,a2,a3,a4,a5⟩
 cases e with
 |normal =>
  obtain⟨j,b1,b2,b3,b4,b5⟩:=a5.ok
  exact⟨j,⟨b1,b2⟩,wk j m' h' s' a1 a2 a3 a4 b3 (fun j v q=>I4 b4 q) b5⟩
 |exit j=>exact⟨m',h',a1,a2,a3,a4,a5⟩
 |ret=>exact⟨m',h',a1,a2,a3,a4,a5⟩
end
def sq(l:List ay)(c:dU):dU:=.seq (.reg false l) c
def qm(d x:Nat):ay:=o d (.mv (.t x))
def aK(d:Nat)(n:Int):ay:=o d (.mv (.c (.int n)))
def qv(d:Nat)(b:Bool):ay:=o d (.mv (.c (.bool b)))
def qb(op:BinOp)(d x y:Nat):ay:=o d (.bin op (.t x) (.t y))
def qk(op:BinOp)(d x:Nat)(n:Int):ay:=o d (.bin op (.t x) (.c (.int n)))
def ql(d k x:Nat):ay:=o d (.ld k (.t x))
def qf(d a k x:Nat):ay:=o d (.fa a k (.t x))
def qi(d k x y:Nat):ay:=o d (.ia k (.t x) (.t y))
def qn(d x:Nat):ay:=o d (.len false (.t x))
def qo(d a b:Nat):ay:=o d (.pick (.t a) (.c (.bool true)) (.t b))
def qa(d a b:Nat):ay:=o d (.pick (.t a) (.t b) (.c (.bool false)))
def qx(d x:Nat):ay:=o d (.not (.t x))
def qe(d x i:Nat):ay:=o d (.ex (.t x) i)
def qB(d:Nat)(ty:TypeId)(k x:Nat):ay:=o d (.box ty k (.t x))
def qs(k x y:Nat):ay:=ov (.st k (.t x) (.t y))
def qC(d:Nat)(f:FuncId)(l:List Nat):ay:=o d (.call f (l.map .t))
def ay.w(q:ay)(g:Nat):ay:=⟨q.d,q.op,some (g,true),q.fl,q.ne,q.ad,q.ar⟩
def ay.n(q:ay)(g:Nat):ay:=⟨q.d,q.op,some (g,false),q.fl,q.ne,q.ad,q.ar⟩
theorem Body.of{P:Program}{f:FuncId}{fn:Func}{ac:dU}{rs:List RV}{nt:Nat}(h1:P.funcs[f]? =some fn)(h2:(fn.body.isSome,comp P (fn.body.getD .skip),jZ P fn.results.toList,fn.ntmps,qR nt ac)=(true,some ac,some rs,nt,true))(h3:callable P f):Body P f ac rs nt:=by
 simp only[Prod.mk.injEq] at h2
 obtain⟨a,b,c,d,e⟩:=h2
 obtain⟨cd,hc⟩:=Option.isSome_iff_exists.1 a
 rw[hc] at b
 exact⟨⟨fn,cd,h1,hc,b,c,d⟩,h3,e⟩
section
variable {P:Program}
def jf(a b:List T):Prop:= ∀ (Z:Nat->Prop) (h:Hp),T.eU Z h a b
theorem jf.refl(a:List T):jf a a:=fun _ _=>gY a
def OV.WW:OV->Bool
 | .row _ _ _ x=>V.aT x
 | .box _ _ v=>v.free
 | .map _ _ x=>V.aT (x.map (·.2))
theorem OV.Kt{o:OV}(q:o.WW=true):T.aH (fun _=>False) o.bJ.l:=by
 cases o with
 |row ty k r x=>exact dV.2 ⟨r.ids,dD (V.lT x q)⟩
 |box ty k v=>exact⟨eH (V.qJ v q),trivial⟩
 |map ty es x =>
  simp only[OV.WW] at q
  refine dV.2 ⟨bH.2 fun t ht=>?_,bH.2 fun t ht=>?_⟩
  ·obtain⟨e,_,rfl⟩:=List.mem_map.1 ht
   simp[J6,T.ids,T.aH]
  ·obtain⟨e,he,rfl⟩:=List.mem_map.1 ht
   simp only[XR,T.ids,T.aH]
   refine⟨trivial,?_,trivial⟩
   have:=dD (V.lT _ q)
   rw[bH] at this
   exact this _ (by rw[nS,List.map_map]; exact List.mem_map.2 ⟨e,he,rfl⟩)
theorem OV.Jr{o:OV}(q:o.WW=true)(ρ:Nat->Nat):T.eX ρ o.bJ.l=o.bJ.l:=uF _ (OV.Kt q)
def tX:List (Nat×OV)->List Nat->Nat->Nat
 |(c,_)::r,n::s,i=>bif Nat.beq i c then n else tX r s i
 |_,_,i=>i
def EY(n:Nat):List Nat->Bool
 |[]=>true
 |m::r=> !(Nat.beq n m)&&EY n r
def Sm(nx pn:Nat)(h:Hz):List (Nat×OV)->List Nat->Prop
 |[],[]=>True
 |(c,o)::r,n::s=>(Nat.blt c nx=true/\(Nat.blt c pn=true->n=c)/\EY n s=true/\o.good nx=true/\o.WW=true /\
   ∃ o',h.get n=some o'/\o'.bJ.ty=o.bJ.ty/\o'.bJ.k=o.bJ.k/\jf o.bJ.l o'.bJ.l)/\Sm nx pn h r s
 |_,_=>False
def Aq:List (Nat×OV)->List Nat->List (Nat×Nat×Ob)
 |(c,o)::r,n::s=>(c,n,o.bJ)::Aq r s
 |_,_=>[]
def QE(l:List (Nat×OV)):Hz:=l.map fun p=>(p.1,some p.2)
theorem MZ: ∀ {l:List (Nat×OV)} {s:List Nat} {i:Nat},BA (Aq l s) i=tX l s i:=by
 intro l
 induction l with
 |nil=>intro s i; cases s<;>rfl
 |cons p r ih =>
  obtain⟨c,o⟩:=p
  intro s i
  cases s with
  |nil=>rfl
  |cons n s =>
   simp only[Aq,BA,tX]
   rw[ih]
   cases hb:Nat.beq i c with
   |true=>rw[if_pos (ku hb)]; rfl
   |false=>rw[if_neg (Nat.ne_of_beq_eq_false hb)]; rfl
theorem Yc{nx pn:Nat}{h:Hz}: ∀ {l:List (Nat×OV)} {s:List Nat},Sm nx pn h l s->hpL (Aq l s)=(QE l).aI:=by
 intro l
 induction l with
 |nil=>intro s q; cases s with
  |nil=>rfl
  |cons _ _=>exact q.elim
 |cons p r ih =>
  obtain⟨c,o⟩:=p
  intro s q
  cases s with
  |nil=>exact q.elim
  |cons n s =>
   simp only[Aq,hpL]
   have e:QE ((c,o)::r)=(c,some o)::QE r:=rfl
   rw[e,dI,ih q.2]; rfl
theorem Na{n:Nat}: ∀ {l:List (Nat×OV)} {s:List Nat},EY n s=true-> ¬ JR (Aq l s) n:=by
 intro l
 induction l with
 |nil=>intro s _ q; cases s<;>exact q
 |cons p r ih =>
  obtain⟨c,o⟩:=p
  intro s hs q
  cases s with
  |nil=>exact q
  |cons m s =>
   simp only[EY,Bool.and_eq_true] at hs
   simp only[Aq,JR] at q
   rcases q with q|q
   ·rw[q,Nat.beq_refl] at hs; cases hs.1
   ·exact ih hs.2 q
theorem Yd{nx pn:Nat}{h:Hz}{Z:Nat->Prop}{ρ:Nat->Nat}: ∀ {l:List (Nat×OV)} {s:List Nat},Sm nx pn h l s->YP Z ρ h.aI nx pn (Aq l s):=by
 intro l
 induction l with
 |nil=>intro s _; cases s<;>trivial
 |cons p r ih =>
  obtain⟨c,o⟩:=p
  intro s q
  cases s with
  |nil=>exact q.elim
  |cons n s =>
   obtain⟨⟨q1,q2,q3,q4,q5,o',q6,q7,q8,q9⟩,q⟩:=q
   obtain⟨g1,g2⟩:=OV.EL q4
   refine⟨⟨Nat.blt_eq.mp q1,fun hc=>q2 (Nat.blt_eq.mpr hc),Na q3,g1,g2,o'.bJ.l,?_,?_⟩,ih q⟩
   ·have:=cu q6
    show h.aI n=some ⟨o.bJ.ty,o.bJ.k,o'.bJ.l⟩
    rw[this,<- q7,<- q8]
   ·show T.eU Z h.aI (T.eX ρ o.bJ.l) o'.bJ.l
    rw[OV.Jr q5]; exact q9 _ _
def rC(ρ:Nat->Nat)(m':Fm):Fm->Prop
 |[]=>True
 |(i,v)::r=>(∃ u,m'.get i=some u/\jf [v.aG.ren ρ] [u.aG])/\rC ρ m' r
theorem zk{ρ:Nat->Nat}{m':Fm}: ∀ {m0:Fm},rC ρ m' m0-> ∀ {i:Nat} {v:V},m0.get i=some v-> ∃ u,m'.get i=some u/\jf [v.aG.ren ρ] [u.aG]:=by
 intro m0
 induction m0 with
 |nil=>intro _ i v q; cases q
 |cons p r ih =>
  obtain⟨j,w⟩:=p
  intro hs i v q
  simp only[Fm.get] at q
  cases hb:Nat.beq j i with
  |true=>rw[hb] at q; cases q; rw[<- ku hb]; exact hs.1
  |false=>rw[hb] at q; exact ih hs.2 q
theorem jf.eq{a b:T}(h:a=b):jf [a] [b]:=by subst h; exact .refl _
theorem I5{N:Nat}{m0 m:Fm}{fr:List T}{Z:Nat->Prop}{h:Hp}{ρ:Nat->Nat}(hl:fr.length=N)(R:Rp m fr)(hs: ∀ i v,m0.get i=some v-> ∃ u,m.get i=some u/\jf [v.aG.ren ρ] [u.aG]):T.eU Z h (T.eX ρ (xF N m0)) fr:=by
 refine QA (by rw[yA,yH,hl]) fun i t u h1 h2=>?_
 have e: ∀ l:List T,T.eX ρ l=l.map (T.ren ρ):=by
  intro l
  induction l with
  |nil=>rfl
  |cons a l ih=>simp only[T.eX,List.map_cons,ih]
 rw[e] at h1
 simp only[xF,List.getElem?_map] at h1
 have hi:i<N:=by
  rcases Nat.lt_or_ge i N with h|h
  ·exact h
  ·rw[List.getElem?_eq_none (by simpa using h)] at h1; cases h1
 rw[List.getElem?_range hi] at h1
 simp only[Option.map_some,Option.some.injEq] at h1
 split at h1
 ·rename_i v hv
  obtain⟨w,hw,e⟩:=hs i v hv
  have:=R i w hw
  rw[h2] at this
  simp only[Option.some.injEq] at this
  subst h1; rw[this]; exact(e Z h).1
 ·subst h1; exact QB
structure abQ{ι:Type}(inv:ι->Prop)(μ:ι->Nat)(vars:ι->Fm)(objs:ι->List (Nat×OV))(base:Fm)(nx pn:Nat)(i:ι)(m:Fm)(h:Hz):Prop where
 ok: ∃ j nw,inv j/\μ j<μ i/\rC (tX (objs j) nw) m (vars j)/\rC (tX (objs j) nw) m base/\Sm nx pn h (objs j) nw
theorem aX.objs{N pn nx0:Nat}(nx:Nat){b:dU}{Q:Qz}{m:Fm}{h:Hz}{ι:Type}(live:List Nat)(vars:ι->Fm)(objs:ι->List (Nat×OV))(inv:ι->Prop)(μ:ι->Nat)(i0:ι)(WJ:List Nat)(hd:qR N b=true)(hp:pn<=nx)(hv: ∀ i,Ya nx N (vars i)=true)(h0:inv i0)
  (he:rC (tX (objs i0) WJ) m (vars i0)) (ho:Sm nx pn h (objs i0) WJ)
  (H:IY m live [] fun base=>rC (tX (objs i0) WJ) m base/\Ya nx N base=true/\ ∀ i,inv i->az P N pn b (fun e m' h' n'=>match e with
   | .normal=>abQ inv μ vars objs base nx pn i m' h'
   |e=>Q e m' h' n') (vars i++base) (QE (objs i)) nx):aX P N pn b Q m h nx0:=by
 obtain⟨base,⟨hbs,hb,H⟩,hbm⟩:=Dy H (fun i v q=>by cases q)
 refine⟨fun fr hl R=>?_⟩
 have hall: ∀ i j v,Fm.get j (vars i++base)=some v->T.lt nx v.aG=true/\j<N:=fun i j v q=>by
  rcases get_append q with q|q
  ·exact zi (hv i) q
  ·exact zi hb q
 have wk: ∀ (i:ι) (nw:List Nat) (m':Fm) (h':Hz) (s':AS),s'.fr.length=N->Rp m' s'.fr->s'.hp=h'.aI->s'.pin=pn->rC (tX (objs i) nw) m' (vars i)->rC (tX (objs i) nw) m' base->Sm nx pn h' (objs i) nw ->
   Wk ⟨xF N (vars i++base),(QE (objs i)).aI,nx,pn⟩ s':=by
  intro i nw m' h' s' a1 a2 a3 a4 a5 a6 a7
  obtain⟨fr',hp',nx',pn'⟩:=s'
  simp only at a1 a2 a3 a4
  subst a3; subst a4
  rw[<- Yc a7]
  refine Wk.objs (Aq (objs i) nw) (I5 a1 a2 fun j v q=>?_) (Gu fun j v q=>(hall i j v q).1) hp (Yd a7)
  have e:BA (Aq (objs i) nw)=tX (objs i) nw:=funext fun _=>MZ
  rw[e]
  rcases get_append q with q|q
  ·exact zk a5 q
  ·exact zk a6 q
 refine xJ.rule (fun i=>⟨xF N (vars i++base),(QE (objs i)).aI,nx,pn⟩) inv μ i0 h0 (wk i0 WJ m h _ hl R rfl rfl he hbs ho) ?_
 intro i hi
 have:=wG (P:=P) (N:=N) (pn:=pn) (s:=⟨xF N (vars i++base),(QE (objs i)).aI,nx,pn⟩) hd yH (Gt fun j v q=>(hall i j v q).2) rfl rfl (H i hi)
 refine oU ?_ this
 rintro e s' ⟨m',h',a1,a2,a3,a4,a5⟩
 cases e with
 |normal =>
  obtain⟨j,nw,b1,b2,b3,b4,b5⟩:=a5.ok
  exact⟨j,⟨b1,b2⟩,wk j nw m' h' s' a1 a2 a3 a4 b3 b4 b5⟩
 |exit j=>exact⟨m',h',a1,a2,a3,a4,a5⟩
 |ret=>exact⟨m',h',a1,a2,a3,a4,a5⟩
theorem aX.nil{N pn nx:Nat}{b:dU}{Q:Qz}{m:Fm}{h:Hz}(d ty k:Nat){k':Nat}{r:Rw}(hd:m.get d=some (.row k' true r))(hr:r.bQ=[])(hk:qK k=true)(hN:Nat.blt d N=true)
  (H:aX P N pn b Q ((d,.own nx)::m) ((nx,some (.row ty k .nil []))::h) (nx+1)):aX P N pn b Q m h nx:=by
 refine⟨fun fr hl R=>?_⟩
 have hdl:d<fr.length:=by rw[hl]; exact Nat.blt_eq.mp hN
 have hget:fr.getD d .any= .sl k' true []:=by
  rw[R.getD hd]; simp only[V.aG,hr]
 have H':=H.ok (fr.set d (.own nx)) (by simpa using hl) (fun i v q=>by
  simp only[Fm.get] at q
  cases hb:Nat.beq d i with
  |true=>rw[hb] at q; cases q; rw[<- ku hb]; simp[hdl,V.aG]
  |false =>
   rw[hb] at q
   rw[List.getElem?_set_ne (Nat.ne_of_beq_eq_false hb)]; exact R i v q)
 have e:Hz.aI ((nx,some (.row ty k .nil []))::h)=upd h.aI nx (some ⟨ty,k,[]⟩):=by rw[dI]; rfl
 rw[e] at H'
 obtain⟨I,μ,⟨s0,w0,i0⟩,round⟩:=H'
 exact⟨I,μ,⟨s0,Wk.Xu d ty k hget hk w0,i0⟩,round⟩
structure Eh(h0:Hz)(n:Nat)(post:T->Hp->Prop)(v:V)(h:Hz):Prop where
 ok: ∃ (Z:Nat->Prop) (ρ:Nat->Nat) (t:T) (h':Hp),post t h'/\T.sub Z h.aI (t.ren ρ) v.aG/\(∀ i ob,h' i=some ob-> ∃ ob',h.aI (ρ i)=some ob'/\ ¬ Z (ρ i)/\LP Z h.aI ρ ob ob') /\
  (∀ i j,(h' i).isSome=true->(h' j).isSome=true->ρ i=ρ j->i=j)/\t.ids (fun i=>(h0.aI i).isSome=true\/i=n)/\lW (fun i=>(h0.aI i).isSome=true\/i=n) h' /\
  ∀ i,(h0.aI i).isSome=true->(h' i).isSome=true->ρ i=i
def abR(h0:Hz)(n:Nat)(post:T->Hp->Prop)(rs:List RV):Qz
 | .exit _,_,_,_=>False
 |_,m,h,_=>match resV m h rs with
  |some v=>v.seq fun v=>Eh h0 n post v h
  |none=>False
theorem Ls.of{f:FuncId}{ac:dU}{rs:List RV}{nt nx n:Nat}{args:List V}{h0:Hz}{post:T->Hp->Prop}(B:Body P f ac rs nt)(hn:args.length<=nt)(hin: ∃ t h',post t h')(ha:T.LM nx (V.bQ args)=true)(hg:Gv nx h0=true)
  (H:az P nt nx ac (abR h0 n post rs) (Dx 0 args) h0 nx):bF P f (V.bQ args) h0.aI n post:=by
 obtain⟨fn,c,h1,h2,h3,h4,h5⟩:=B.ex
 have hG:=Gw hg
 refine bF.EF (nx:=nx) h1 h2 h3 h4 B.cl h5 hin (QC ha) (fun i ob hi=>⟨(hG i ob hi).1,(hG i ob hi).2.1⟩) ?_
 have:=wG (P:=P) (N:=nt) (pn:=nx) (s:=⟨V.bQ args++List.replicate (nt-(V.bQ args).length) T.un,h0.aI,nx,nx⟩) B.dst (by simp[jd]; omega) Gs rfl rfl H
 refine oU ?_ this
 rintro e s ⟨m,h,a1,a2,a3,a4,a5⟩
 have key: ∀ {m h},Rp m s.fr->s.hp=Hz.aI h->(match resV m h rs with|some v=>v.seq fun v=>Eh h0 n post v h|none=>False)-> ∃ s1,AB s1 s/\ZT h0.aI n post rs s1:=by
  intro m h a2 a3 q
  split at q
  ·rename_i v hv
   rw[V.seq_eq] at q
   obtain⟨b1,b2⟩:=Qy a2 a3 hv
   obtain⟨Z,ρ,t,h',c1,c2,c3,c4,c5,c6,c7⟩:=q.ok
   exact⟨s,.refl _,b1,Z,ρ,t,h',c1,by rw[b2,a3]; exact c2,by rw[a3]; exact c3,c4,c5,c6,c7⟩
  ·exact q.elim
 cases e with
 |exit j=>exact a5.elim
 |normal=>exact key a2 a3 a5
 |ret=>exact key a2 a3 a5
theorem Eh.one{h0 h:Hz}{n c j:Nat}{post:T->Hp->Prop}{v:V}{o:OV}{t:T}(hj:h.get j=some o)(hg:o.good (j+1)=true)(hf:o.WW=true)(hc:(h0.get c).isSome=true->j=c)(hc':(h0.get c).isSome=true\/c=n)
  (ht:t.ids (fun i=>i=c)) (hv:jf [t.ren fun _=>j] [v.aG]) (hp:post t (Hz.aI [(c,some o)])):Eh h0 n post v h:=by
 have hgood:=(OV.EL hg).2
 have hM: ∀ i,i=c->(h0.aI i).isSome=true\/i=n:=by
  rintro i rfl
  rcases hc' with h|h
  ·left; simpa [Hz.aI] using h
  ·exact .inr h
 have hx: ∀ i ob,Hz.aI [(c,some o)] i=some ob->i=c/\ob=o.bJ:=fun i ob hi=>by
  simp only[Hz.aI,Hz.get] at hi
  cases hb:Nat.beq c i with
  |true=>rw[hb] at hi; simp only[cond_true,Option.map_some,Option.some.injEq] at hi; exact⟨(ku hb).symm,hi.symm⟩
  |false=>rw[hb] at hi; simp at hi
 refine⟨fun i=>i≠j,fun _=>j,t,Hz.aI [(c,some o)],hp,(hv _ _).1,fun i ob hi=>?_,fun i i' hi hi' _=>?_,T.aV hM _ ht,fun i ob hi=>?_,fun i hi hi'=>?_⟩
 ·obtain⟨rfl,rfl⟩:=hx i ob hi
  refine⟨o.bJ,cu hj,by simp,rfl,rfl,?_,JQ hgood⟩
  rw[OV.Jr hf]; exact gY _
 ·obtain⟨oi,hi⟩:=Option.isSome_iff_exists.1 hi
  obtain⟨oj,hi'⟩:=Option.isSome_iff_exists.1 hi'
  rw[(hx _ _ hi).1,(hx _ _ hi').1]
 ·obtain⟨rfl,rfl⟩:=hx i ob hi
  exact⟨hM _ rfl,T.aA (fun _ h=>h.elim) _ (OV.Kt hf)⟩
 ·obtain⟨oi,hi'⟩:=Option.isSome_iff_exists.1 hi'
  obtain⟨rfl,_⟩:=hx _ _ hi'
  exact hc (by simpa [Hz.aI] using hi)
theorem ah.heap{f:FuncId}{args:List V}{h:Hz}{n:Nat}{K:V->Hz->Prop}{KW:Nat->V->Hz->Prop}{post:T->Hp->Prop}(S:bF P f (V.bQ args) h.aI n post)(hK: ∀ t hp,post t hp-> ∃ v h',t=v.aG/\hp=Hz.aI h'/\K v h'):ah P false none f args h n K KW :=
 ⟨.inl (S.mono fun t hp q=>by
  obtain⟨v,h',h1,h2,h3⟩:=hK t hp q
  exact⟨v,h',h1,h2,(fun e=>by cases e),h3⟩)⟩
end
section
variable {P:Program}
def LoopN(body:(nD->AS->Prop)->AS->Prop)(Q:nD->AS->Prop):Nat->AS->Prop
 |0,_=>False
 |k+1,s=>body (fun e s'=>match e with| .normal=>LoopN body Q k s'|e=>Q e s') s
open Classical in
theorem xJ.ofN{b:dU}{Q:nD->AS->Prop}{k:Nat}{s:AS}(h:LoopN (aw P b) Q k s):xJ (aw P b) Q s:=by
 let I:AS->Nat->Prop:=fun s n=>LoopN (aw P b) Q n s
 let μ:AS->Nat:=fun s=>if hh: ∃ n,I s n then Classical.choose (Dp _ (Classical.choose_spec hh)) else 0
 have hμ: ∀ s,(∃ n,I s n)->I s (μ s)/\ ∀ k,I s k->μ s<=k:=by
  intro s hh
  have e:μ s=Classical.choose (Dp _ (Classical.choose_spec hh)):=dif_pos hh
  rw[e]
  exact Classical.choose_spec (Dp _ (Classical.choose_spec hh))
 refine⟨fun s=> ∃ n,I s n,μ,⟨s,⟨s,.refl _,.inl rfl⟩,k,h⟩,fun s hI=>?_⟩
 have h2:=(hμ s hI).1
 generalize hm:μ s=m at h2
 cases m with
 |zero=>exact h2.elim
 |succ m =>
  have h3:aw P b (fun e s'=>match e with| .normal=>LoopN (aw P b) Q m s'|e=>Q e s') s:=h2
  refine oU ?_ h3
  intro e s' q
  cases e with
  |normal=>exact⟨s',⟨s',.refl _,.inl rfl⟩,⟨m,q⟩,by have:=(hμ s' ⟨m,q⟩).2 m q; omega⟩
  |exit j=>exact q
  |ret=>exact q
def azN(P:Program)(N pn:Nat)(b:dU)(Q:Qz):Nat->Fm->Hz->Nat->Prop
 |0,_,_,_=>False
 |k+1,m,h,nx=>az P N pn b (fun e m' h' nx'=>match e with| .normal=>azN P N pn b Q k m' h' nx'|e=>Q e m' h' nx') m h nx
theorem aX.times{N pn nx:Nat}{b:dU}{Q:Qz}{m:Fm}{h:Hz}(k:Nat)(hd:qR N b=true)(H:azN P N pn b Q k m h nx):aX P N pn b Q m h nx:=by
 refine⟨fun fr hl R=>xJ.ofN (k:=k) ?_⟩
 have key: ∀ (k:Nat) {m:Fm} {h:Hz} {nx:Nat} {s:AS},s.fr.length=N->Rp m s.fr->s.hp=h.aI->s.pin=pn->s.nx=nx->azN P N pn b Q k m h nx->LoopN (aw P b) (Lift N pn Q) k s:=by
  intro k
  induction k with
  |zero=>intro m h nx s _ _ _ _ _ H; exact H.elim
  |succ k ih =>
   intro m h nx s a1 a2 a3 a4 a5 H
   subst a5
   have:=wG (P:=P) (N:=N) (pn:=pn) (s:=s) hd a1 a2 a3 a4 H
   show aw P b _ s
   refine oU ?_ this
   rintro e s' ⟨m',h',b1,b2,b3,b4,b5⟩
   cases e with
   |normal=>exact ih b1 b2 b3 b4 rfl b5
   |exit j=>exact⟨m',h',b1,b2,b3,b4,b5⟩
   |ret=>exact⟨m',h',b1,b2,b3,b4,b5⟩
 exact key k hl R rfl rfl rfl H
end
section
variable {P:Program}
theorem I7{Z:Nat->Prop}{h:Hp}{t u:T}: ∀ {fr:List T} {j:Nat},fr[j]? =some u->T.sub Z h t u->T.eU Z h (fr.set j t) fr
 |[],_,e,_=>by simp at e
 |a::r,0,e,q=>by
  simp only[List.getElem?_cons_zero,Option.some.injEq] at e; subst e
  exact⟨q,gY _⟩
 |a::r,j+1,e,q=>by
  simp only[List.getElem?_cons_succ] at e
  exact⟨fQ _,I7 e q⟩
theorem aX.fzV{N pn nx:Nat}{b:dU}{Q:Qz}{m:Fm}{h:Hz}(d i:Nat)(u v:V)(hd:m.get d=some v)(hN:Nat.blt d N=true)(hs:T.sub (fun j=>j=i) h.aI u.aG v.aG)
  (H:aX P N pn b Q ((d,u)::m) ((i,none)::h) nx):aX P N pn b Q m h nx:=by
 refine⟨fun fr hl R=>?_⟩
 have hdl:d<fr.length:=by rw[hl]; exact Nat.blt_eq.mp hN
 have hget:fr[d]? =some v.aG:=R d _ hd
 have H':=H.ok (fr.set d u.aG) (by simpa using hl) (fun j v q=>by
  simp only[Fm.get] at q
  cases hb:Nat.beq d j with
  |true=>rw[hb] at q; cases q; rw[<- ku hb]; simp[hdl]
  |false =>
   rw[hb] at q
   rw[List.getElem?_set_ne (Nat.ne_of_beq_eq_false hb)]; exact R j v q)
 obtain⟨I,μ,⟨s0,⟨s1,w1,w2⟩,i0⟩,round⟩:=H'
 have F:TY (fun j=>j=i) ⟨fr.set d u.aG,Hz.aI ((i,none)::h),nx,pn⟩ ⟨fr,h.aI,nx,pn⟩:=by
  refine⟨I7 hget hs,fun j ob hj=>?_,rfl,rfl⟩
  have hne:j≠i:=by
   rintro rfl
   simp[Hz.aI,Hz.get] at hj
  have hj':h.aI j=some ob:=by
   have hb:Nat.beq i j=false:=by
    cases hb:Nat.beq i j with
    |false=>rfl
    |true=>exact absurd (Nat.eq_of_beq_eq_true hb).symm hne
   simp only[Hz.aI,Hz.get,hb] at hj ⊢; exact hj
  exact⟨ob,hj',hne,rfl,rfl,gY _,rfl,rfl⟩
 exact⟨I,μ,⟨s0,⟨s1,w1.trans (.fz F (.refl _)),w2⟩,i0⟩,round⟩
theorem aX.fz{N pn nx:Nat}{b:dU}{Q:Qz}{m:Fm}{h:Hz}(d i k:Nat)(r:Rw)(hd:m.get d=some (.own i))(hN:Nat.blt d N=true)(hs:T.sub (fun j=>j=i) h.aI (V.row k false r).aG (V.own i).aG)
  (H:aX P N pn b Q ((d,.row k false r)::m) ((i,none)::h) nx):aX P N pn b Q m h nx:=aX.fzV d i _ _ hd hN hs H
end
section
variable {P:Program}
end
section
variable {P:Program}
def okR(ρ:Nat->Nat)(nx pn:Nat)(h:Hz):List (Nat×OV)->List Nat->Prop
 |[],[]=>True
 |(c,o)::r,n::s=>(Nat.blt c nx=true/\(Nat.blt c pn=true->n=c)/\EY n s=true/\o.good nx=true /\
   ∃ o',h.get n=some o'/\o'.bJ.ty=o.bJ.ty/\o'.bJ.k=o.bJ.k/\jf (T.eX ρ o.bJ.l) o'.bJ.l)/\okR ρ nx pn h r s
 |_,_=>False
theorem Vx{ρ:Nat->Nat}{nx pn:Nat}{h:Hz}: ∀ {l:List (Nat×OV)} {s:List Nat},okR ρ nx pn h l s->hpL (Aq l s)=(QE l).aI:=by
 intro l
 induction l with
 |nil=>intro s q; cases s with
  |nil=>rfl
  |cons _ _=>exact q.elim
 |cons p r ih =>
  obtain⟨c,o⟩:=p
  intro s q
  cases s with
  |nil=>exact q.elim
  |cons n s =>
   simp only[Aq,hpL]
   have e:QE ((c,o)::r)=(c,some o)::QE r:=rfl
   rw[e,dI,ih q.2]; rfl
theorem Vy{nx pn:Nat}{h:Hz}{Z:Nat->Prop}{ρ:Nat->Nat}: ∀ {l:List (Nat×OV)} {s:List Nat},okR ρ nx pn h l s->YP Z ρ h.aI nx pn (Aq l s):=by
 intro l
 induction l with
 |nil=>intro s _; cases s<;>trivial
 |cons p r ih =>
  obtain⟨c,o⟩:=p
  intro s q
  cases s with
  |nil=>exact q.elim
  |cons n s =>
   obtain⟨⟨q1,q2,q3,q4,o',q6,q7,q8,q9⟩,q⟩:=q
   obtain⟨g1,g2⟩:=OV.EL q4
   refine⟨⟨Nat.blt_eq.mp q1,fun hc=>q2 (Nat.blt_eq.mpr hc),Na q3,g1,g2,o'.bJ.l,?_,?_⟩,ih q⟩
   ·have:=cu q6
    show h.aI n=some ⟨o.bJ.ty,o.bJ.k,o'.bJ.l⟩
    rw[this,<- q7,<- q8]
   ·exact q9 _ _
structure abS{ι:Type}(inv:ι->Prop)(μ:ι->Nat)(vars:ι->Fm)(objs:ι->List (Nat×OV))(base:Fm)(nx pn:Nat)(i:ι)(m:Fm)(h:Hz):Prop where
 ok: ∃ j nw,inv j/\μ j<μ i/\rC (tX (objs j) nw) m (vars j)/\rC (tX (objs j) nw) m base/\okR (tX (objs j) nw) nx pn h (objs j) nw
theorem aX.Tn{N pn nx0:Nat}(nx:Nat){b:dU}{Q:Qz}{m:Fm}{h:Hz}{ι:Type}(live:List Nat)(vars:ι->Fm)(objs:ι->List (Nat×OV))(inv:ι->Prop)(μ:ι->Nat)(i0:ι)(WJ:List Nat)(hd:qR N b=true)(hp:pn<=nx)(hv: ∀ i,Ya nx N (vars i)=true)(h0:inv i0)
  (he:rC (tX (objs i0) WJ) m (vars i0)) (ho:okR (tX (objs i0) WJ) nx pn h (objs i0) WJ)
  (H:IY m live [] fun base=>rC (tX (objs i0) WJ) m base/\Ya nx N base=true/\ ∀ i,inv i->az P N pn b (fun e m' h' n'=>match e with
   | .normal=>abS inv μ vars objs base nx pn i m' h'
   |e=>Q e m' h' n') (vars i++base) (QE (objs i)) nx):aX P N pn b Q m h nx0:=by
 obtain⟨base,⟨hbs,hb,H⟩,hbm⟩:=Dy H (fun i v q=>by cases q)
 refine⟨fun fr hl R=>?_⟩
 have hall: ∀ i j v,Fm.get j (vars i++base)=some v->T.lt nx v.aG=true/\j<N:=fun i j v q=>by
  rcases get_append q with q|q
  ·exact zi (hv i) q
  ·exact zi hb q
 have wk: ∀ (i:ι) (nw:List Nat) (m':Fm) (h':Hz) (s':AS),s'.fr.length=N->Rp m' s'.fr->s'.hp=h'.aI->s'.pin=pn->rC (tX (objs i) nw) m' (vars i)->rC (tX (objs i) nw) m' base->okR (tX (objs i) nw) nx pn h' (objs i) nw ->
   Wk ⟨xF N (vars i++base),(QE (objs i)).aI,nx,pn⟩ s':=by
  intro i nw m' h' s' a1 a2 a3 a4 a5 a6 a7
  obtain⟨fr',hp',nx',pn'⟩:=s'
  simp only at a1 a2 a3 a4
  subst a3; subst a4
  rw[<- Vx a7]
  have e:BA (Aq (objs i) nw)=tX (objs i) nw:=funext fun _=>MZ
  refine Wk.objs (Aq (objs i) nw) (I5 a1 a2 fun j v q=>?_) (Gu fun j v q=>(hall i j v q).1) hp (by rw[e]; exact Vy a7)
  rw[e]
  rcases get_append q with q|q
  ·exact zk a5 q
  ·exact zk a6 q
 refine xJ.rule (fun i=>⟨xF N (vars i++base),(QE (objs i)).aI,nx,pn⟩) inv μ i0 h0 (wk i0 WJ m h _ hl R rfl rfl he hbs ho) ?_
 intro i hi
 have:=wG (P:=P) (N:=N) (pn:=pn) (s:=⟨xF N (vars i++base),(QE (objs i)).aI,nx,pn⟩) hd yH (Gt fun j v q=>(hall i j v q).2) rfl rfl (H i hi)
 refine oU ?_ this
 rintro e s' ⟨m',h',a1,a2,a3,a4,a5⟩
 cases e with
 |normal =>
  obtain⟨j,nw,b1,b2,b3,b4,b5⟩:=a5.ok
  exact⟨j,⟨b1,b2⟩,wk j nw m' h' s' a1 a2 a3 a4 b3 b4 b5⟩
 |exit j=>exact⟨m',h',a1,a2,a3,a4,a5⟩
 |ret=>exact⟨m',h',a1,a2,a3,a4,a5⟩
end
section
variable {P:Program}
def aaH(Z:Nat->Prop)(h:Hz):Hz->Prop
 |[]=>True
 |(_,none)::r=>aaH Z h r
 |(i,some o)::r=>(∃ o',h.get i=some o'/\ ¬ Z i/\o'.bJ.ty=o.bJ.ty/\o'.bJ.k=o.bJ.k/\T.eU Z h.aI o.bJ.l o'.bJ.l/\o.bJ.l.map T.kd=o'.bJ.l.map T.kd/\o.bJ.l.map jC=o'.bJ.l.map jC)/\aaH Z h r
def Frz(h h2:Hz):Prop:= ∃ Z,aaH Z h h2
structure acW{ι:Type}(inv:ι->Prop)(μ:ι->Nat)(vars:ι->Fm)(objs:ι->List (Nat×OV))(base:Fm)(nx pn:Nat)(i:ι)(m:Fm)(h:Hz):Prop where
 ok: ∃ h2 j nw,Frz h h2/\inv j/\μ j<μ i/\rC (tX (objs j) nw) m (vars j)/\rC (tX (objs j) nw) m base/\okR (tX (objs j) nw) nx pn h2 (objs j) nw
end
section
variable {P:Program}
structure acX(o0 o1:OV)(v:V)(h:Hz):Prop where
 ok: ∃ a b o0',v= .ptr a 0 0/\a≠b/\h.get a=some o0'/\o0.bJ.ren (fun i=>bif Nat.beq i 0 then a else b)=o0'.bJ/\h.get b=some o1
end
section
variable {P:Program}
end
section
variable {P:Program}
structure Dfr where
 d:Nat
 g:FuncId
 x:Nat
 y:Nat
def abT:List Oper->Option Dfr
 |[o1,o2]=>match o1.op,o1.dst,o1.guard,o2.op,o2.dst,o2.guard with
  | .makeFunc (.func g) ⟨[]⟩ ⟨[.tmp x,.tmp y]⟩,some d,none,.defer ⟨.value (.tmp e),⟨[]⟩,⟨[]⟩⟩,none,none=>bif Nat.beq d e then some ⟨d,g,x,y⟩ else none
  |_,_,_,_,_,_=>none
 |_=>none
def Vz(P:Program):Code->Option (dU×Dfr×dU)
 | .seq (.region id ops false) c=>match abT ops.toList with
  |some i=>(comp P c).map fun b=>(.skip,i,b)
  |none=>match comp P (.region id ops false),Vz P c with
   |some a,some (a',i,b)=>some (.seq a a',i,b)
   |_,_=>none
 | .seq a c=>match comp P a,Vz P c with
  |some a,some (a',i,b)=>some (.seq a a',i,b)
  |_,_=>none
 |_=>none
def Ye(P:Program)(f:FuncId)(ts:List T)(h:Hp)(n:Nat)(post:Hp->Prop):Prop :=
 ∀ (F:Fr P) (M:Nat->Prop) (E:Env) (vs:List Value),pY F E->E.h=h->bK E ts vs->T.aH M ts->lW M h-> ¬ M n ->
  CallsD P f vs.toArray .returning E.w fun e u w'=>u= .returning/\Ends F M E n (fun _ h'=>post h') e w'
structure acY(P:Program)(f:FuncId)(a b:dU)(i:Dfr)(rs:List RV)(nt:Nat):Prop where
 ex: ∃ fn c,P.funcs[f]? =some fn/\fn.body=some c/\Vz P c=some (a,i,b)/\jZ P fn.results.toList=some rs/\fn.ntmps=nt
 cl:callable P f
 dst:(qR nt a&&qR nt b&&Nat.blt i.d nt)=true
structure ac2(P:Program)(g:FuncId)(us:List V)(h:Hz)(nx pn:Nat)(K:Hz->Prop):Prop where
 ok:T.LM pn (V.bQ us)=true/\Ye P g (V.bQ us) h.aI nx fun hp=> ∃ h':Hz,hp=h'.aI/\K h'
end
section
variable {P:Program}
end
section
variable {P:Program}
structure TabAt(P:Program)(f:Nat)(o:Option Z4):Prop where
 use: ∀ {b},o=some b-> ∃ fn c,P.funcs[f]? =some fn/\fn.body=some c/\comp P c=some b.code/\jZ P fn.results.toList=some b.rs/\callable P f/\fn.ntmps=b.nt
theorem TabAt.leaf{n f:Nat}{c:dU}{rs:List RV}{nt:Nat}(B:Body P n c rs nt):TabAt P f (bif Nat.beq f n then some ⟨c,rs,nt⟩ else none):=⟨fun {b} h=>by
 cases hb:Nat.beq f n with
 |false=>rw[hb] at h; cases h
 |true =>
  rw[hb] at h; cases h
  have:=Dl hb; subst this
  obtain⟨fn,c,h1,h2,h3,h4,h5⟩:=B.ex
  exact⟨fn,c,h1,h2,h3,h4,B.cl,h5⟩⟩
theorem TabAt.node{f:Nat}{c:Bool}{x y:Option Z4}(hx:TabAt P f x)(hy:TabAt P f y):TabAt P f (bif c then x else y):=⟨fun {b} h=>by
 cases c with
 |true=>exact hx.use h
 |false=>exact hy.use h⟩
end
section
variable {P:Program} {H:Type} {enc:TypeId×Value->H}
inductive Sh where
 |int
 |u64
 |str
 |bool
 |sl (k:Nat) (s:Sh)
 |st (l:List Sh)
mutual
def Sh.cells:Sh->Nat
 | .st l=>Sh.uU l
 |_=>1
def Sh.uU:List Sh->Nat
 |[]=>0
 |s::l=>s.cells+Sh.uU l
end
def Sh.kd:Sh->Nat
 | .st l=>Sh.uU l+1
 |_=>0
mutual
def Sh.fits(P:Program):Sh->TypeId->Bool
 | .int,t=>match P.underlying t with|some (.int .i64)=>true|_=>false
 | .u64,t=>match P.underlying t with|some (.int .u64)=>true|_=>false
 | .str,t=>match P.underlying t with|some .string=>true|_=>false
 | .bool,t=>match P.underlying t with|some .bool=>true|_=>false
 | .sl k s,t=>match P.underlying t with
  |some (.slice e)=>s.fits P e&&Nat.beq s.kd k&&Nat.beq (P.cellsOf e) s.cells&&Nat.blt 0 s.cells
  |_=>false
 | .st l,t=>match P.underlying t with
  |some (.struct fs)=>Sh.I8 P l fs.toList 0&&Nat.beq (P.cellsOf t) (Sh.uU l)
  |_=>false
def Sh.I8(P:Program):List Sh->List Field->Nat->Bool
 |[],[],_=>true
 |s::l,f::fs,off=>s.fits P f.type&&Nat.beq f.offset off&&Nat.beq (P.cellsOf f.type) s.cells&&Sh.I8 P l fs (off+s.cells)
 |_,_,_=>false
end
mutual
def Sh.aG:Sh->DataW H->T
 | .int,.lit (.int _ n)=>.int n
 | .u64,.lit (.int _ n)=>.lit (.int .u64 n)
 | .str,.lit (.string l)=>.lit (.string ⟨l.toArray⟩)
 | .bool,.lit (.bool b)=>.bool b
 | .sl k s,.slice es _=>.sl k false (es.map s.aG)
 | .sl k _,.nil=>.sl k false []
 | .st l,.agg ds=>.agg (Sh.xX l ds)
 |_,_=>.any
def Sh.xX:List Sh->List (DataW H)->List T
 |s::l,d::ds=>(s.aG d).cells++Sh.xX l ds
 |_,_=>[]
end
def QF(v:Value):Prop:= ∀ n,v≠ .int .u8 n
mutual
def Sh.wf:Sh->DataW H->Prop
 | .int,d=> ∃ n,d= .lit (.int .i64 n)/\(Lit.int .i64 n).wf=true
 | .u64,d=> ∃ n,d= .lit (.int .u64 n)/\(Lit.int .u64 n).wf=true
 | .str,d=> ∃ l,d= .lit (.string l)
 | .bool,d=> ∃ b,d= .lit (.bool b)
 | .sl _ s,d=>d= .nil\/ ∃ es sp,d= .slice es sp/\ ∀ x∈es,s.wf x
 | .st l,d=> ∃ ds,d= .agg ds/\Sh.G9 l ds
def Sh.G9:List Sh->List (DataW H)->Prop
 |[],ds=>ds=[]
 |s::l,ds=> ∃ d r,ds=d::r/\s.wf d/\Sh.G9 l r
end
structure Rd(E:Env)(s:Sh)(d:DataW H)(cs:List Value):Prop where
 rep:aF E (s.aG d) cs
 len:cs.length=s.cells
 one: ∀ v∈cs,v.oneCell'=true
 u8: ∀ v∈cs,QF v
 free:(s.aG d).free=true
 kd:(s.aG d).kd=s.kd
 wf:s.wf d
structure RdL(E:Env)(l:List Sh)(ds:List (DataW H))(cs:List Value):Prop where
 rep:aS E (Sh.xX l ds) cs
 len:cs.length=Sh.uU l
 one: ∀ v∈cs,v.oneCell'=true
 u8: ∀ v∈cs,QF v
 free:T.aT (Sh.xX l ds)=true
 cnt:(Sh.xX l ds).length=Sh.uU l
 wf:Sh.G9 l ds
theorem Nb{E:Env}{k:Nat}: ∀ {l:List T} {vs:List Value},l.length*aU k<=vs.length->(∀ j t,l[j]? =some t->t.kd=k/\(∀ v∈(vs.drop (j*aU k)).take (aU k),v.oneCell'=true)/\aF E t ((vs.drop (j*aU k)).take (aU k)))->aB E k l vs:=by
 intro l
 induction l with
 |nil=>intro vs _ _; trivial
 |cons t ts ih =>
  intro vs hl H
  simp only[List.length_cons,Nat.add_mul,Nat.one_mul] at hl
  obtain⟨h1,h2,h3⟩:=H 0 t rfl
  simp only[Nat.zero_mul,List.drop_zero] at h2 h3
  refine⟨h1,by omega,h2,h3,ih (by simp; omega) fun j u hj=>?_⟩
  have:=H (j+1) u (by simpa using hj)
  rw[List.drop_drop]
  rw[Nat.add_mul,Nat.one_mul,Nat.add_comm (j*aU k)] at this
  exact this
theorem Sr{E:Env}: ∀ {a b:List T} {x y:List Value},aS E a x->aS E b y->aS E (a++b) (x++y):=by
 intro a
 induction a with
 |nil=>intro b x y h1 h2; simp only[aS] at h1; subst h1; exact h2
 |cons t a ih =>
  intro b x y h1 h2
  simp only[aS] at h1
  obtain⟨hk,v,r,rfl,h3,h4,h5⟩:=h1
  simp only[List.cons_append,aS]
  exact⟨hk,v,r++y,rfl,h3,h4,ih h5 h2⟩
theorem Sv{a b:List T}(ha:T.aT a=true)(hb:T.aT b=true):T.aT (a++b)=true:=by
 rw[jv] at *
 intro t ht
 rcases List.mem_append.1 ht with h|h
 ·exact ha t h
 ·exact hb t h
theorem Nc{E:Env}{t:T}{cs:List Value}(h:aF E t cs)(hl:t.kd=0->cs.length=1)(h1: ∀ v∈cs,v.oneCell'=true):aS E t.cells cs:=by
 have other: ∀ t:T,t.cells=[t]->t.kd=0->aF E t cs->(t.kd=0->cs.length=1)->aS E t.cells cs:=by
  intro t e k h hl
  rw[e]
  have:=hl k
  match cs,this with
  |[v],_=>simp only[aS]; exact⟨k,v,[],rfl,h1 v (by simp),h,rfl⟩
 cases t with
 |agg l=>simp only[aF] at h; exact h
 |_=>exact other _ rfl rfl h hl
theorem Pq{t:T}(h:t.free=true):T.aT t.cells=true:=by
 cases t with
 |agg l=>exact h
 |_=>simp only[T.cells,T.aT,Bool.and_true]; exact h
theorem Sz{t:T}:t.cells.length=aU t.kd:=by
 cases t with
 |agg l=>rfl
 |_=>rfl
theorem Sh.mG(s:Sh):aU s.kd=s.cells:=by
 cases s<;>rfl
theorem cell?_at{w:World}{a:Addr}{v:Value}(h:w.cell? a=some v): ∃ cur ty m,w.heap[a.block]? =some (.cells cur ty m)/\a.spot=none/\cur.toList[a.off]? =some v:=by
 unfold World.cell? at h
 split at h
 ·rename_i c t f e
  split at h
  ·cases h
  ·rename_i hs
   exact⟨c,t,f,e,by simpa using hs,by simpa using h⟩
 ·cases h
theorem I9{w:World}{base:Nat}{a:Addr}{n:Nat}{cs:List Value}(h:w.cells? base a n=some cs)(hn:0<n): ∃ cur ty m,w.heap[a.block]? =some (.cells cur ty m)/\a.spot=none/\cs=(cur.toList.drop a.off).take n:=by
 obtain⟨_,hl,hc⟩:=World.cells?_some h
 have h0:=hc 0 hn
 have e0:a.add 0=a:=by simp[Addr.add]
 rw[e0,List.getElem?_eq_getElem (by omega)] at h0
 obtain⟨cur,ty,m,h1,h2,_⟩:=cell?_at h0
 refine⟨cur,ty,m,h1,h2,?_⟩
 have key: ∀ j,j<n->cur.toList[a.off+j]? =cs[j]? :=by
  intro j hj
  have:=hc j hj
  rw[List.getElem?_eq_getElem (by omega)] at this
  obtain⟨cur',ty',m',g1,g2,g3⟩:=cell?_at this
  have eb:(a.add j).block=a.block:=by unfold Addr.add; split<;>rfl
  have eo:(a.add j).off=a.off+j:=by
   obtain⟨b,o,sp⟩:=a
   simp only at h2; subst h2
   rw[Go.WideShapes.add_plain]
  rw[eb,h1] at g1
  cases g1
  rw[eo] at g3
  rw[g3,List.getElem?_eq_getElem (by omega)]
 apply List.ext_getElem?
 intro j
 by_cases hj:j<n
 ·rw[List.getElem?_take,if_pos hj,List.getElem?_drop,key j hj]
 ·rw[List.getElem?_eq_none (by omega),List.getElem?_eq_none (by simp; omega)]
def BR(E:Env):Prop:= ∀ b cur ty m,E.w.heap[b]? =some (.cells cur ty m)->(∃ v∈cur.toList,QF v)->E.S b
theorem VA{E:Env}{s:Sh}{k:Nat}{base:Nat}{spare:Nat->Bool}{held:Bool}(hS:BR E){t e:TypeId}(ht:P.underlying t=some (.slice e))(hk:s.kd=k)(hce:P.cellsOf e=s.cells)(hpos:0<s.cells)
  (ih: ∀ (n:Nat) (cs:List Value) (d:DataW H) (ps:List MemPlace),DataW.trod enc P E.w base spare held n e cs=some (d,ps)->Rd E s d cs)
  {n:Nat} {cs:List Value} {d:DataW H} {ps:List MemPlace} (h:DataW.trod enc P E.w base spare held n t cs=some (d,ps)):Rd E (.sl k s) d cs:=by
 rcases DataW.trod_slice ht h with ⟨rfl,hx⟩|⟨a,len,cap,elems,rest,m,_,rfl,hx,hb,hl,hm,hlen,hel,_,_⟩
 ·cases hx
  refine⟨?_,rfl,(fun v hv=>by rw[List.mem_singleton] at hv; subst hv; rfl),(fun v hv=>by rw[List.mem_singleton] at hv; subst hv; intro n e; cases e),rfl,rfl,.inl rfl⟩
  simp only[Sh.aG,aF]
  exact⟨none,0,rfl,Nat.le_refl _,nofun,.inl trivial⟩
 ·cases hx
  have hlen':(elems.map (·.1)).length=len:=by simpa using hlen
  refine⟨?_,rfl,(fun v hv=>by rw[List.mem_singleton] at hv; subst hv; rfl),(fun v hv=>by rw[List.mem_singleton] at hv; subst hv; intro n e; cases e),rfl,rfl,.inr ⟨_,_,rfl,fun x hx=>?_⟩⟩
  rotate_left
  ·obtain⟨y,hy,rfl⟩:=List.mem_map.1 hx
   obtain⟨i,hi,rfl⟩:=List.getElem_of_mem hy
   have:=hel i (by omega)
   rw[List.getElem?_eq_getElem hi] at this
   obtain⟨cs',_,h2⟩:=Option.bind_eq_some_iff.1 this
   exact(ih _ _ _ _ h2).wf
  simp only[Sh.aG,aF,List.length_map]
  refine⟨some a,cap,by rw[hlen],by omega,nofun,?_⟩
  by_cases h0:len=0
  ·left
   have:elems=[]:=List.length_eq_zero_iff.1 (by omega)
   rw[this]; rfl
  ·right
   have get: ∀ i,i<len-> ∃ cs',E.w.cells? base (a.add (i*s.cells)) s.cells=some cs'/\ ∃ x,elems[i]? =some x/\Rd E s x.1 cs':=by
    intro i hi
    have:=hel i hi
    rw[hce,List.getElem?_eq_getElem (by omega)] at this
    obtain⟨cs',h1,h2⟩:=Option.bind_eq_some_iff.1 this
    exact⟨cs',h1,elems[i],List.getElem?_eq_getElem (by omega),ih _ _ _ _ h2⟩
   obtain⟨cs0,c1,x0,_,r0⟩:=get 0 (by omega)
   obtain⟨cur,ty,mm,g1,g2,g3⟩:=I9 c1 hpos
   have ea:a.add (0*s.cells)=a:=by simp[Addr.add]
   rw[ea] at g1 g2 g3
   obtain⟨b,off,sp⟩:=a
   simp only at g1 g2 g3
   subst g2
   have hsub: ∀ i,i<len-> ∃ x,elems[i]? =some x/\Rd E s x.1 ((cur.toList.drop (off+i*s.cells)).take s.cells):=by
    intro i hi
    obtain⟨cs',q1,x,q2,q3⟩:=get i hi
    obtain⟨cur',ty',m',k1,k2,k3⟩:=I9 q1 hpos
    rw[Go.WideShapes.add_plain] at k1 k3
    simp only at k1 k3
    rw[g1] at k1; cases k1
    rw[k3] at q3
    exact⟨x,q2,q3⟩
   have hcur:len*s.cells<=(cur.toList.drop off).length:=by
    obtain⟨x,_,q⟩:=hsub (len-1) (by omega)
    have:=q.len
    rw[List.length_take,List.length_drop] at this
    rw[List.length_drop]
    have e:len*s.cells=(len-1)*s.cells+s.cells:=by
     conv=>lhs; rw[show len=(len-1)+1 by omega,Nat.add_mul,Nat.one_mul]
    omega
   refine⟨b,off,cur,ty,mm,rfl,hS b cur ty mm g1 ?_,g1,?_,?_⟩
   ·have hl0:=r0.len
    match hcs:cs0,hl0 with
    |[],hl0=>simp at hl0; omega
    |v::r,_ =>
     refine⟨v,?_,r0.u8 v (by simp)⟩
     have:v∈(cur.toList.drop off).take s.cells:=by rw[<- g3]; simp
     exact List.mem_of_mem_drop (List.mem_of_mem_take this)
   ·rw[bH]
    intro t ht
    rw[List.mem_map] at ht
    obtain⟨d,hd,rfl⟩:=ht
    rw[List.mem_map] at hd
    obtain⟨x,hx,rfl⟩:=hd
    obtain⟨i,hi,rfl⟩:=List.getElem_of_mem hx
    obtain⟨x',q1,q2⟩:=hsub i (by omega)
    rw[List.getElem?_eq_getElem hi] at q1
    cases q1
    exact eH q2.free
   ·refine Nb (by rw[List.length_map,List.length_map,hlen,<- hk,Sh.mG]; exact hcur) fun j t hj=>?_
    rw[<- hk,Sh.mG]
    have hjl:j<len:=by
     rcases Nat.lt_or_ge j len with h|h
     ·exact h
     ·rw[List.getElem?_eq_none (by simp; omega)] at hj; cases hj
    obtain⟨x,q1,q2⟩:=hsub j hjl
    rw[List.getElem?_map,List.getElem?_map,q1] at hj
    simp only[Option.map_some,Option.some.injEq] at hj
    subst hj
    rw[List.drop_drop]
    exact⟨q2.kd,q2.one,q2.rep⟩
mutual
theorem Sh.read{E:Env}{base:Nat}{spare:Nat->Bool}{held:Bool}(hS:BR E):(s:Sh)->(t:TypeId)->s.fits P t=true->(n:Nat)->(cs:List Value)->(d:DataW H)->(ps:List MemPlace) ->
  DataW.trod enc P E.w base spare held n t cs=some (d,ps)->Rd E s d cs
 | .int,t,hf,n,cs,d,ps,h=>by
  simp only[Sh.fits] at hf
  split at hf
  ·rename_i e
   obtain⟨z,rfl,hx,hwf⟩:=DataW.trod_int e h
   cases hx
   refine⟨by simp[Sh.aG,aF],rfl,(fun v hv=>by rw[List.mem_singleton] at hv; subst hv; rfl),(fun v hv=>by rw[List.mem_singleton] at hv; subst hv; intro n e; cases e),rfl,rfl,⟨z,rfl,hwf⟩⟩
  ·cases hf
 | .u64,t,hf,n,cs,d,ps,h=>by
  simp only[Sh.fits] at hf
  split at hf
  ·rename_i e
   obtain⟨z,rfl,hx,hwf⟩:=DataW.trod_int e h
   cases hx
   refine⟨by simp[Sh.aG,aF],rfl,(fun v hv=>by rw[List.mem_singleton] at hv; subst hv; rfl),(fun v hv=>by rw[List.mem_singleton] at hv; subst hv; intro n e; cases e),rfl,rfl,⟨z,rfl,hwf⟩⟩
  ·cases hf
 | .str,t,hf,n,cs,d,ps,h=>by
  simp only[Sh.fits] at hf
  split at hf
  ·rename_i e
   obtain⟨z,rfl,hx,_⟩:=DataW.trod_string e h
   cases hx
   refine⟨by simp[Sh.aG,aF],rfl,(fun v hv=>by rw[List.mem_singleton] at hv; subst hv; rfl),(fun v hv=>by rw[List.mem_singleton] at hv; subst hv; intro n e; cases e),rfl,rfl,⟨_,rfl⟩⟩
  ·cases hf
 | .bool,t,hf,n,cs,d,ps,h=>by
  simp only[Sh.fits] at hf
  split at hf
  ·rename_i e
   obtain⟨z,rfl,hx⟩:=DataW.trod_bool e h
   cases hx
   refine⟨by simp[Sh.aG,aF],rfl,(fun v hv=>by rw[List.mem_singleton] at hv; subst hv; rfl),(fun v hv=>by rw[List.mem_singleton] at hv; subst hv; intro n e; cases e),rfl,rfl,⟨_,rfl⟩⟩
  ·cases hf
 | .sl k s,t,hf,n,cs,d,ps,h=>by
  simp only[Sh.fits] at hf
  split at hf
  ·rename_i e he
   simp only[Bool.and_eq_true] at hf
   obtain⟨⟨⟨f1,f2⟩,f3⟩,f4⟩:=hf
   exact VA hS he (Nat.eq_of_beq_eq_true f2) (Nat.eq_of_beq_eq_true f3) (Nat.blt_eq.mp f4) (Sh.read hS s e f1) h
  ·cases hf
 | .st l,t,hf,n,cs,d,ps,h=>by
  simp only[Sh.fits] at hf
  split at hf
  ·rename_i fs he
   simp only[Bool.and_eq_true] at hf
   obtain⟨xs,m,_,hx,hlen,hxl,hg⟩:=DataW.trod_struct he h
   cases hx
   have hct:=Nat.eq_of_beq_eq_true hf.2
   have R:=Sh.Y3 hS l fs.toList 0 hf.1 m cs xs (by simpa using hxl) (fun i f hi=>by
    have:=hg i f (by simpa using hi)
    rw[<- this]) (by rw[hlen,hct]; simp)
   simp only[List.drop_zero] at R
   refine⟨by simp only[Sh.aG,aF]; exact R.rep,by rw[hlen,hct]; rfl,R.one,R.u8,R.free,?_,⟨_,rfl,R.wf⟩⟩
   show(Sh.xX l _).length+1=Sh.uU l+1
   rw[R.cnt]
  ·cases hf
theorem Sh.Y3{E:Env}{base:Nat}{spare:Nat->Bool}{held:Bool}(hS:BR E):(l:List Sh)->(fs:List Field)->(off:Nat)->Sh.I8 P l fs off=true->(n:Nat)->(cs:List Value)->(xs:List (DataW H×List MemPlace))->xs.length=fs.length ->
  (∀ (i:Nat) (f:Field),fs[i]? =some f->DataW.trod enc P E.w base spare held n f.type ((cs.drop f.offset).take (P.cellsOf f.type))=xs[i]?)->cs.length=off+Sh.uU l->RdL E l (xs.map (·.1)) (cs.drop off)
 |[],[],off,hf,n,cs,xs,hl,hx,hc=>by
  have:xs=[]:=List.length_eq_zero_iff.1 (by simpa using hl)
  subst this
  have:cs.drop off=[]:=List.drop_eq_nil_of_le (by rw[hc]; simp[Sh.uU])
  rw[this]
  exact⟨rfl,rfl,(fun v hv=>by cases hv),(fun v hv=>by cases hv),rfl,rfl,rfl⟩
 |s::l,f::fs,off,hf,n,cs,xs,hl,hx,hc=>by
  simp only[Sh.I8,Bool.and_eq_true] at hf
  obtain⟨⟨⟨f1,f2⟩,f3⟩,f4⟩:=hf
  have e2:=Nat.eq_of_beq_eq_true f2
  have e3:=Nat.eq_of_beq_eq_true f3
  match xs,hl with
  |x::xs,hl =>
   have h0:=hx 0 f rfl
   rw[e2,e3] at h0
   have R0:=Sh.read hS s f.type f1 n _ x.1 x.2 h0
   simp only[Sh.uU] at hc
   have R1:=Sh.Y3 hS l fs (off+s.cells) f4 n cs xs (by simpa using hl) (fun i g hi=>by
    have:=hx (i+1) g (by simpa using hi)
    simpa using this) (by omega)
   have e:cs.drop off=(cs.drop off).take s.cells++cs.drop (off+s.cells):=by
    rw[<- List.drop_drop,List.take_append_drop]
   rw[e]
   have h1:(s.aG x.1).kd=0->((cs.drop off).take s.cells).length=1:=by
    intro hk
    rw[R0.len,<- Sh.mG,<- R0.kd,hk]; rfl
   refine⟨?_,?_,?_,?_,?_,?_,⟨_,_,rfl,R0.wf,R1.wf⟩⟩
   ·simp only[List.map_cons,Sh.xX]
    exact Sr (Nc R0.rep h1 R0.one) R1.rep
   ·rw[List.length_append,R0.len,R1.len]; rfl
   ·intro v hv
    rcases List.mem_append.1 hv with h|h
    ·exact R0.one v h
    ·exact R1.one v h
   ·intro v hv
    rcases List.mem_append.1 hv with h|h
    ·exact R0.u8 v h
    ·exact R1.u8 v h
   ·simp only[List.map_cons,Sh.xX]
    exact Sv (Pq R0.free) R1.free
   ·simp only[List.map_cons,Sh.xX,List.length_append,Sz,R0.kd,Sh.mG,R1.cnt]; rfl
 |[],_::_,_,hf,_,_,_,_,_,_=>by simp[Sh.I8] at hf
 |_::_,[],_,hf,_,_,_,_,_,_=>by simp[Sh.I8] at hf
end
end
open Go.ChangeShapes Go.WideShapes Go.RowKit
section
variable {P:Program} {H:Type} {enc:TypeId×Value->H}
theorem Dz{W:World}(h:Lib.TabIs P W "strings.asciiSpace" .u8 Lib.asciiSpaceTab): ∀ g cs,uO P g=some cs-> ∃ ty m,W.heap[g]? =some (.cells cs ty m):=by
 intro g cs hg
 unfold uO at hg
 split at hg
 ·rename_i e
  cases hg
  unfold Lib.TabIs World.var? at h
  rw[e] at h
  simp only[Option.bind_some] at h
  split at h
  ·rename_i c ty m hc
   cases h
   exact⟨ty,m,hc⟩
  ·cases h
 ·cases hg
def VB(P:Program)(W:World):Env:=⟨W,fun g=>g<W.heap.size/\uO P g=none,fun _=>.nilFunc,fun _=>0,no⟩
def aaI(P:Program):Fr P:= {s:=fun g=>(uO P g).isSome=true}
theorem VD{g:Nat}{cs:Array Value}(h:uO P g=some cs): ∀ v∈cs.toList,¬ QF v:=by
 unfold uO at h
 split at h
 ·cases h
  intro v hv hn
  simp only[List.mem_map] at hv
  obtain⟨z,_,rfl⟩:=hv
  exact hn z rfl
 ·cases h
theorem Yf{W:World}(hgl: ∀ g cs,uO P g=some cs-> ∃ ty m,W.heap[g]? =some (.cells cs ty m)):BR (VB P W):=by
 intro b cur ty m hb hv
 refine⟨(Array.getElem?_eq_some_iff.1 hb).1,?_⟩
 cases hg:uO P b with
 |none=>rfl
 |some cs =>
  obtain⟨ty',m',h⟩:=hgl b cs hg
  rw[show W.heap[b]? =_ from hb] at h
  cases h
  obtain⟨v,hv1,hv2⟩:=hv
  exact absurd hv2 (VD hg v hv1)
theorem VE{W:World}(hgl: ∀ g cs,uO P g=some cs-> ∃ ty m,W.heap[g]? =some (.cells cs ty m)):pY (aaI P) (VB P W):=by
 refine⟨(fun i ob hi=>by cases hi),(fun i ob g hi=>by cases hi),(fun i j oi oj g _ hi=>by cases hi),fun g hg=>hg.1,fun g hg=>?_,fun g hs hg=>?_,fun g cs hg=>⟨?_,hgl g cs hg⟩⟩
 ·obtain⟨cs,hc⟩:=Option.isSome_iff_exists.1 hg
  obtain⟨ty,m,h⟩:=hgl g cs hc
  exact(Array.getElem?_eq_some_iff.1 h).1
 ·have h1:=hs.2
  have h2:(uO P g).isSome=true:=hg
  rw[h1] at h2; cases h2
 ·show(uO P g).isSome=true
  rw[hg]; rfl
def Sh.args:List Sh->List (DataW H)->List T
 |s::l,d::ds=>s.aG d::Sh.args l ds
 |_,_=>[]
def Sh.Nh(P:Program):List Sh->List TypeId->Bool
 |[],[]=>true
 |s::l,t::ts=>s.fits P t&&Sh.Nh P l ts
 |_,_=>false
theorem Yg{E:Env}{s:Sh}{t:TypeId}{d:DataW H}{v:Value}{W:World}{base:Nat}(hf:s.fits P t=true)(R:Rd E s d v.cells.toList)(hok:Value.okWide P W .any base t v):jB E (s.aG d) v:=by
 cases s with
 |st l =>
  simp only[Sh.fits] at hf
  split at hf
  ·rename_i fs he
   obtain⟨cs,rfl,_⟩:=okWide_struct he hok
   refine .inl ⟨by rw[R.kd]; exact Nat.succ_ne_zero _,cs,rfl,R.rep⟩
  ·cases hf
 |int =>
  simp only[Sh.fits] at hf
  split at hf
  ·rename_i he
   obtain⟨n,rfl⟩:=okWide_int he hok
   exact .inr ⟨R.kd,R.rep⟩
  ·cases hf
 |u64 =>
  simp only[Sh.fits] at hf
  split at hf
  ·rename_i he
   obtain⟨n,rfl⟩:=okWide_int he hok
   exact .inr ⟨R.kd,R.rep⟩
  ·cases hf
 |str =>
  simp only[Sh.fits] at hf
  split at hf
  ·rename_i he
   obtain⟨n,rfl⟩:=okWide_string he hok
   exact .inr ⟨R.kd,R.rep⟩
  ·cases hf
 |bool =>
  simp only[Sh.fits] at hf
  split at hf
  ·rename_i he
   obtain⟨n,rfl⟩:=okWide_bool he hok
   exact .inr ⟨R.kd,R.rep⟩
  ·cases hf
 |sl k s =>
  simp only[Sh.fits] at hf
  split at hf
  ·rename_i e he
   obtain⟨a,len,cap,rfl⟩:=okWide_slice he hok
   exact .inr ⟨R.kd,R.rep⟩
  ·cases hf
theorem VF{E:Env}{base:Nat}{spare:Nat->Bool}{held:Bool}{b2:Nat}(hS:BR E): ∀ {KY:List Sh} {ts:List TypeId} {vs:List Value} {ds:List (DataW H)} {ps:List MemPlace},Sh.Nh P KY ts=true->DataW.TrodAll enc P E.w base spare held ts vs ds ps ->
  (∀ (j:Nat) (t:TypeId) (v:Value),ts[j]? =some t->vs[j]? =some v->Value.okWide P E.w .any b2 t v)->bK E (Sh.args KY ds) vs/\T.aT (Sh.args KY ds)=true/\Sh.G9 KY ds:=by
 intro KY
 induction KY with
 |nil =>
  intro ts vs ds ps hf hA hok
  cases ts with
  |nil =>
   match vs,ds,hA with
   |[],[],_=>exact⟨rfl,rfl,rfl⟩
  |cons t ts=>cases hf
 |cons s KY ih =>
  intro ts vs ds ps hf hA hok
  cases ts with
  |nil=>cases hf
  |cons t ts =>
   match vs,ds,hA with
   |v::vs,d::ds,⟨p,q,⟨n,h1⟩,h2,_⟩ =>
    simp only[Sh.Nh,Bool.and_eq_true] at hf
    have R:=Sh.read hS s t hf.1 n _ d p h1
    obtain⟨i1,i2,i3⟩:=ih hf.2 h2 fun j t' v' a b=>hok (j+1) t' v' (by simpa using a) (by simpa using b)
    refine⟨?_,?_,⟨d,ds,rfl,R.wf,i3⟩⟩
    ·simp only[Sh.args,bT]
     exact⟨v,vs,rfl,Yg hf.1 R (hok 0 t v rfl rfl),i1⟩
    ·simp only[Sh.args,T.aT,Bool.and_eq_true]
     exact⟨R.free,i2⟩
theorem SA{W:World}(hgl: ∀ g cs,uO P g=some cs-> ∃ ty m,W.heap[g]? =some (.cells cs ty m)){f:FuncId}{KY:List Sh}{ts:List TypeId}{args:Array Value}{ds:List (DataW H)}{ps:List MemPlace}{b2:Nat}{u:Value}
  (hf:Sh.Nh P KY ts=true) (hA:DataW.TrodAll enc P W 0 (fun _=>true) true ts args.toList ds ps) (hok: ∀ (j:Nat) (t:TypeId) (v:Value),ts[j]? =some t->args[j]? =some v->Value.okWide P W .any b2 t v)
  (S:Sh.G9 KY ds->oV P f (Sh.args KY ds) (.lit u)):Calls P f args W fun e W'=>e= .returned u/\Below W.heap.size W W':=by
 obtain⟨hr,hfr,hwf⟩:=VF (E:=VB P W) (Yf hgl) hf hA (fun j t v a b=>hok j t v a (by simpa using b))
 obtain⟨_,_,hcall⟩:=(S hwf).call 0
 have:=hcall (aaI P) (fun _=>False) (VB P W) args.toList (VE hgl) rfl hr (dD hfr) (tV _) (fun h=>h)
 refine this.mono ?_
 rintro e w' ⟨v,t,E2,rfl,rfl,⟨rfl,_⟩,hv,_,hext,_⟩
 refine⟨by rw[aC.1 hv],hext.os,hext.tape,hext.output,hext.size,fun g hg=>hext.w g ?_⟩
 cases hq:uO P g with
 |none=>exact .inl ⟨hg,hq⟩
 |some cs=>right; show(uO P g).isSome=true; rw[hq]; rfl
theorem H9(hl:laidOutB P=true){W W':World}(hb:Below W.heap.size W W'){sp:Nat->Bool}: ∀ {ts:List TypeId} {vs:List Value} {ds:List (DataW H)} {ps:List MemPlace},(∀ t∈ts,P.readableRec t=true/\t<P.types.size) ->
  DataW.TrodAll enc P W 0 (fun _=>true) true ts vs ds ps->(∀ x∈ps,x.block<W.heap.size)->(∀ x∈ps,sp x.block=true)->DataW.TrodAll enc P W' 0 sp true ts vs ds ps:=by
 intro ts
 induction ts with
 |nil =>
  intro vs ds ps _ h _ _
  match vs,ds,h with
  |[],[],h=>exact h
 |cons t ts ih =>
  intro vs ds ps hr h hlt hsp
  match vs,ds,h with
  |v::vs,d::ds,⟨p,q,h1,h2,e⟩ =>
   subst e
   refine⟨p,q,?_,ih (fun t ht=>hr t (by simp[ht])) h2 (fun x hx=>hlt x (by simp[hx])) (fun x hx=>hsp x (by simp[hx])),rfl⟩
   obtain⟨r1,r2⟩:=hr t (by simp)
   exact WideElems.Trod_stays hl r1 r2 h1 (fun x hx=>hb.same (hlt x (by simp[hx]))) (fun x hx=>hsp x (by simp[hx]))
theorem Gy{W:World}(hgl: ∀ g cs,uO P g=some cs-> ∃ ty m,W.heap[g]? =some (.cells cs ty m)){f:FuncId}{fn:Func}{s:ChangeSpec}{KY:List Sh}{args:Array Value}{ds gs:List (DataW H)}{before:List MemPlace}{b2:Nat}{tb:TypeId}
  (hl:laidOutB P=true) (hrd: ∀ t∈fn.params.toList,P.readableRec t=true/\t<P.types.size) (hvars:s.vars=[]) (hres:fn.resultTypes= #[tb]) (htb:P.underlying tb=some .bool)
  (hspec:s.fn H ds= {results:=[.lit (.bool true)],args:=ds})
  (hf:Sh.Nh P KY fn.params.toList=true) (hval: ∀ (j:Nat) (t:TypeId) (v:Value),fn.params[j]? =some t->args[j]? =some v->Value.okWide P W .any b2 t v)
  (hW:DataW.Whole enc P fn.params.toList s.vars false W args.toList ds gs before) (S:Sh.G9 KY ds->oV P f (Sh.args KY ds) (.bool true)) :
  Calls P f args W fun e W'=> ∃ v,e= .returned v/\s.post enc P fn false true false false W args v W':=by
 have hW':=hW
 obtain⟨p,q,hA,hV,hpq,hfz,hnd⟩:=hW
 have hV0:gs=[]/\q=[]:=by
  rw[hvars] at hV
  cases gs with
  |nil=>exact⟨rfl,hV⟩
  |cons _ _=>exact hV.elim
 obtain⟨rfl,rfl⟩:=hV0
 subst hpq
 refine(SA hgl hf hA (fun j t v a b=>hval j t v (by simpa using a) b) S).mono ?_
 rintro e W' ⟨rfl,hb⟩
 have hlt: ∀ x∈p,x.block<W.heap.size:=fun x hx=>by simpa using hW'.lt x (by simp[hx])
 refine⟨_,rfl,?_⟩
 have hold: ∀ x∈p,(fun b=>decide (b<W.heap.size)) x.block=true:=fun x hx=>by simpa using hlt x hx
 refine⟨ds,[],p++[],[],p,[],hW',?_,?_,?_,World.keptBut_mono (fun x hx=>⟨by simpa using hx,?_⟩) (hb.frame (· ∈p)),fun h=>by cases h⟩
 ·rw[List.append_nil,hspec,hres]
  exact trodAll_mk1 (shut_bool htb true)
 ·rw[List.append_nil,hspec]
  exact H9 hl hb hrd hA hlt hold
 ·rw[List.append_nil,hspec,hvars]; rfl
 ·right; simpa using hx
end
noncomputable def Tr.VG(t:Tr):Nat->T :=
 Tr.rec (motive:=fun _=>Nat->T) (fun _=>T.un) (fun v _ _ gl gr n=>bif Nat.beq n 0 then v else bif Nat.beq (Nat.mod n 2) 1 then gl (Nat.div n 2) else gr (Nat.div (Nat.sub n 1) 2)) t
noncomputable def Tr.VH(t:Tr):Nat->T->Tr :=
 Tr.rec (motive:=fun _=>Nat->T->Tr) (fun _ _=>.lf) (fun v l r gl gr n u=>bif Nat.beq n 0 then .nd u l r else bif Nat.beq (Nat.mod n 2) 1 then .nd v (gl (Nat.div n 2) u) r else .nd v l (gr (Nat.div (Nat.sub n 1) 2) u)) t
theorem Tr.QG: ∀ (t:Tr) (n:Nat),t.VG n=t.get n:=by
 intro t
 induction t with
 |lf=>intro n; rfl
 |nd v l r hl hr =>
  intro n
  show(bif Nat.beq n 0 then v else bif Nat.beq (Nat.mod n 2) 1 then l.VG (Nat.div n 2) else r.VG (Nat.div (Nat.sub n 1) 2))=_
  rw[hl,hr]; rfl
theorem Tr.QH: ∀ (t:Tr) (n:Nat) (u:T),t.VH n u=t.set n u:=by
 intro t
 induction t with
 |lf=>intro n u; rfl
 |nd v l r hl hr =>
  intro n u
  show(bif Nat.beq n 0 then Tr.nd u l r else bif Nat.beq (Nat.mod n 2) 1 then .nd v (l.VH (Nat.div n 2) u) r else .nd v l (r.VH (Nat.div (Nat.sub n 1) 2) u))=_
  rw[hl,hr]; rfl
noncomputable def XS.Ku(s:XS)(x:X):T:=X.rec (motive:=fun _=>T) (fun n=>s.fr.VG n) (fun v=>v) x
theorem XS.VI(s:XS):s.Ku=s.ev:=by
 funext x
 cases x with
 |t n=>exact Tr.QG _ _
 |c v=>rfl
def abU(ev:X->T)(c a b:X):Option T :=
 match ev c with
 | .lit (.bool true)=>some (ev a)
 | .lit (.bool false)=>some (ev b)
 |_=>none
def bbX(ne:Bool)(x y:T):Option T :=
 match x,y with
 | .lit (.bool a),.lit (.bool b)=>some (.lit (.bool (bif ne then !(a==b) else a==b)))
 |_,_=>none
def acR:T->Option T
 | .lit (.bool b)=>some (.lit (.bool !b))
 |_=>none
def faX(hp:Hp)(off k:Nat):T->Option T
 | .ptr i j o=>uQ (hp i).isSome (.ptr i j (Nat.add o off))
 | .ref kt t=>uQ (!(Nat.beq kt 0)&&jc (aU kt) off k) (.ref k (t.part off k))
 |_=>none
def fvX(off k:Nat)(t:T):Option T:=uQ (!(Nat.beq t.kd 0)&&jc (aU t.kd) off k) (t.part off k)
def iaX(hp:Hp)(k:Nat)(x i:T):Option T :=
 match x,i with
 | .sl k' _ l,.lit (.int _ n)=>uQ (Nat.beq k' k&&JW n l.length) (.ref k (l.getD n.toNat .any))
 | .own o,.lit (.int _ n)=>match hp o with|some ob=>uQ (Nat.beq ob.k k&&JW n ob.l.length) (.ptr o n.toNat 0)|none=>none
 | .lF o lo hi,.lit (.int _ n)=>match hp o with|some ob=>uQ (Nat.beq ob.k k&&JW n (Nat.sub hi lo)) (.ptr o (Nat.add lo n.toNat) 0)|none=>none
 |_,_=>none
def ldX(hp:Hp)(k:Nat)(x:T):Option T :=
 match x with
 | .ref k' t=>uQ (Nat.beq k' k&&Nat.blt 0 (aU k)) t
 | .ptr i j off =>
  match hp i with
  |some ob =>
   bif Nat.blt j ob.l.length then
    bif Nat.beq off 0&&Nat.beq ob.k k then some (ob.l.getD j .any)
    else uQ (!(Nat.beq ob.k 0)&&jc (aU ob.k) off k) ((ob.l.getD j .any).part off k)
   else none
  |none=>none
 |_=>none
def ncX(hp:Hp):T->Option T
 | .ptr i a b=>uQ (hp i).isSome (.ptr i a b)
 | .ref a b=>some (.ref a b)
 | .fn a b=>some (.fn a b)
 |_=>none
def acS(hp:Hp)(str:Bool)(x:T):Option T :=
 match x with
 | .sl _ _ l=>uQ (!str) (.lit (.int .i64 (.ofNat l.length)))
 | .own o=>match hp o with|some ob=>uQ (!str&& !(Nat.beq ob.k 1000000007)) (.lit (.int .i64 (.ofNat ob.l.length)))|none=>none
 | .lF i lo hi=>uQ (!str&&(hp i).isSome) (.lit (.int .i64 (.ofNat (Nat.sub hi lo))))
 | .lit (.string b)=>uQ str (.lit (.int .i64 (.ofNat b.size)))
 |_=>none
def exX(x:T)(i:Nat):Option T:=match x with| .iF l=>uQ (Nat.blt i l.length) (l.getD i .any)|_=>none
def fin1(s:XS)(d:Option Nat):Option T->Option XS
 |some t=>JV t fun t=>s.put d t
 |none=>none
noncomputable def XS.Yh(s:XS)(d:Option Nat)(t:T):Option XS :=
 match d with
 |some i=>bif Nat.blt i s.n then some ⟨s.fr.VH i t,s.n,s.hp,s.nx,s.pin⟩ else none
 |none=>some s
noncomputable def uH(s:XS)(d:Option Nat):Option T->Option XS
 |some t=>JV t fun t=>s.Yh d t
 |none=>none
noncomputable def VJ(s:XS)(d:Option Nat):Option (T×XH)->Option XS
 |some (t,h)=>JV t fun t=>match d with
  |some i=>bif Nat.blt i s.n then some ⟨s.fr.VH i t,s.n,h,s.nx,s.pin⟩ else none
  |none=>some ⟨s.fr,s.n,h,s.nx,s.pin⟩
 |none=>none
noncomputable def yOp(cf:CF)(dr:Bool)(n:Nat)(d:Option Nat)(op:kS)(s:XS):Option XS :=
 match op with
 | .mv x=>uH s d (some (s.Ku x))
 | .pick c a b=>uH s d (abU s.Ku c a b)
 | .bin op x y=>uH s d (XA op (s.Ku x) (s.Ku y))
 | .bb ne x y=>uH s d (bbX ne (s.Ku x) (s.Ku y))
 | .not x=>uH s d (acR (s.Ku x))
 | .fa off k x=>uH s d (faX (lk s.hp) off k (s.Ku x))
 | .fv off k x=>uH s d (fvX off k (s.Ku x))
 | .ia k x i=>uH s d (iaX (lk s.hp) k (s.Ku x) (s.Ku i))
 | .ld k x=>uH s d (ldX (lk s.hp) k (s.Ku x))
 | .nc x=>uH s d (ncX (lk s.hp) (s.Ku x))
 | .len str x=>uH s d (acS (lk s.hp) str (s.Ku x))
 | .ex x i=>uH s d (exX (s.Ku x) i)
 | .call f xs=>VJ s d (cf dr n f (xs.map s.Ku) s.hp)
 |op=>G8 cf dr n d op s
theorem QI{α:Type}(t:T)(k:T->α):JV t k=k t:=by
 have hN: ∀ (n:Nat) (k:Nat->α),H6 n k=k n:=by intro n k; cases n<;>rfl
 unfold JV
 split<;>simp only[hN]
theorem QJ(s:XS)(d:Option Nat)(t:T):s.Yh d t=s.put d t:=by
 cases d with
 |none=>rfl
 |some i=>simp only[XS.Yh,XS.put,Tr.QH]
theorem VK(s:XS)(d:Option Nat)(t:Option T):uH s d t=fin1 s d t:=by
 cases t with
 |none=>rfl
 |some t=>simp only[uH,fin1,QI,QJ]
theorem VL(cf:CF)(dr:Bool)(n:Nat)(d:Option Nat)(f:FuncId)(ts:List T)(s:XS):VJ s d (cf dr n f ts s.hp)=zN cf dr n d f ts s:=by
 unfold zN
 cases cf dr n f ts s.hp with
 |none=>rfl
 |some p =>
  obtain⟨t,h⟩:=p
  simp only[VJ,QI,XS.qw]
  cases d with
  |none=>rfl
  |some i=>simp only[Tr.QH]
theorem aaJ(cf:CF)(dr:Bool)(n:Nat)(d:Option Nat)(op:kS)(s:XS):yOp cf dr n d op s=G8 cf dr n d op s:=by
 cases op<;>first|rfl|(simp only[yOp,VK,XS.VI,VL]; rfl)
def abW{α:Type}:List α->Bool
 |[]=>true
 |_=>false
noncomputable def yGo(cf:CF)(dr:Bool)(_m:Nat)(o:ay)(i:Nat)(s:XS)(k:Nat->XS->Option XS):Option XS :=
 bif bif o.fl||(o.ad||o.ar) then ru dr o s else(match o.ne with|[]=>true|l=>neX s o.op.xs l) then
  match yOp cf (ZV dr o) (Nat.add s.nx i) o.d o.op s with
  |some s'=>k (Nat.succ i) s'
  |none=>none
 else none
noncomputable def QK(o:ay)(i:Nat)(s:XS)(k:Nat->XS->Option XS):Option XS :=
 match s.Yh o.d T.un with
 |some s'=>k (Nat.succ i) s'
 |none=>none
noncomputable def aaK(cf:CF)(dr:Bool)(m:Nat)(o:ay)(d:Nat)(want:Bool)(i:Nat)(s:XS)(k:Nat->XS->Option XS):T->Option XS
 | .lit (.bool b)=>bif Nat.blt d s.n then(bif b==want then yGo cf dr m o i s k else QK o i s k) else none
 | .lit (.tuple _)=>bif Nat.blt d s.n then QK o i s k else none
 |_=>none
noncomputable def VN(cf:CF)(dr:Bool)(m:Nat)(o:ay)(k:Nat->XS->Option XS)(i:Nat)(s:XS):Option XS :=
 match o.g with
 |none=>yGo cf dr m o i s k
 |some (d,want)=>aaK cf dr m o d want i s k (s.fr.VG d)
noncomputable def VO(cf:CF)(dr:Bool)(m:Nat)(l:List ay):Nat->XS->Option XS :=
 List.rec (motive:=fun _=>Nat->XS->Option XS) (fun _ s=>H6 (Nat.add s.nx m) fun k=>some ⟨s.fr,s.n,s.hp,k,s.pin⟩) (fun o _ k=>VN cf dr m o k) l
theorem Pv(cf:CF)(dr:Bool)(m:Nat)(o:ay)(i:Nat)(s:XS)(k:Nat->XS->Option XS) :
  yGo cf dr m o i s k=(bif ru dr o s then match G8 cf (ZV dr o) (Nat.add s.nx i) o.d o.op s with
    |some s'=>k (Nat.succ i) s'
    |none=>none
   else none):=by
 have e:(bif o.fl||(o.ad||o.ar) then ru dr o s else(match o.ne with|[]=>true|l=>neX s o.op.xs l))=ru dr o s:=by
  cases h:o.fl with
  |true=>rfl
  |false =>
   cases h2:o.ad with
   |true=>rfl
   |false =>
    cases h3:o.ar with
    |true=>rfl
    |false=>simp only[ru,h,h2,h3,cond_false]; cases o.ne<;>rfl
 unfold yGo
 rw[e,aaJ]
theorem Yi(cf:CF)(dr:Bool)(m:Nat): ∀ (l:List ay) (i:Nat) (s:XS),VO cf dr m l i s=Ai cf dr m l i s:=by
 intro l
 induction l with
 |nil=>intro i s; rfl
 |cons o r ih =>
  intro i s
  have hk:(fun i s=>VO cf dr m r i s)=Ai cf dr m r:=funext fun i=>funext fun s=>ih i s
  show VN cf dr m o (fun i s=>VO cf dr m r i s) i s=_
  rw[hk]
  have hs: ∀ i s,QK o i s (Ai cf dr m r)=(match s.put o.d T.un with|some s'=>Ai cf dr m r (Nat.succ i) s'|none=>none):=by
   intro i s; unfold QK; rw[QJ]
  unfold VN Ai
  cases o.g with
  |none=>exact Pv ..
  |some p =>
   obtain⟨d,want⟩:=p
   simp only[]
   rw[Tr.QG]
   generalize s.fr.get d=t
   cases t with
   |lit v =>
    cases v<;>first|rfl|(simp only[aaK,Pv,hs]; done)|(simp only[aaK,Pv,hs]; rfl)
   |_=>rfl
def SB(k:XS->Out):Out->Out
 | .go s=>k s
 |o=>o
def VP(a b:XS->Out)(s:XS):T->Out
 | .lit (.bool true)=>a s
 | .lit (.bool false)=>b s
 |_=>.bad
def aaL(id:Nat):Out->Out
 | .ex j s'=>bif Nat.beq j id then .go s' else .ex j s'
 |o=>o
def abX:Option XS->Out
 |some s=>.go s
 |none=>.bad
noncomputable def Nj(m:ZW)(body:XS->Out)(n:Nat):XS->Out :=
 Nat.rec (motive:=fun _=>XS->Out) (fun _=>.bad) (fun _ k s=>SB k (body (s.H7 m))) n
noncomputable def yr(cf:CF)(big:Nat)(c:dU):XS->Out :=
 dU.rec (motive:=fun _=>XS->Out) (fun s=>.go s) (fun dr ops s=>abX (VO cf dr ops.length ops 0 s)) (fun _ _ fa fb s=>SB fb (fa s))
  (fun c _ _ fa fb s=>VP fa fb s (s.Ku c)) (fun id _ fb s=>aaL id (fb s)) (fun id s=>.ex id s) (fun b fb s=>Nj (D6 b) fb big s) (fun s=>.rt s) c
theorem VQ(m:ZW)(body:XS->Out): ∀ (n:Nat) (s:XS),Nj m body n s=iter m body n s:=by
 intro n
 induction n with
 |zero=>intro s; rfl
 |succ n ih =>
  intro s
  have hk:Nj m body n=iter m body n:=funext fun s=>ih s
  show SB (Nj m body n) (body (s.H7 m))=_
  rw[hk]
  unfold SB
  simp only[iter]
  split<;>rename_i h<;>simp[h]
theorem Y4(cf:CF)(big:Nat): ∀ (c:dU) (s:XS),yr cf big c s=xr cf big c s:=by
 intro c
 induction c with
 |skip=>intro s; rfl
 |reg dr ops =>
  intro s
  show abX (VO cf dr ops.length ops 0 s)=_
  rw[Yi]
  simp only[xr]
  cases Ai cf dr ops.length ops 0 s<;>rfl
 |seq a b ha hb =>
  intro s
  show SB (yr cf big b) (yr cf big a s)=_
  rw[ha,show yr cf big b=xr cf big b from funext hb]
  simp only[xr]
  unfold SB
  split<;>rename_i h<;>simp[h]
 |cond x a b ha hb =>
  intro s
  show VP (yr cf big a) (yr cf big b) s (s.Ku x)=_
  rw[XS.VI,show yr cf big b=xr cf big b from funext hb,show yr cf big a=xr cf big a from funext ha]
  simp only[xr]
  unfold VP
  split<;>rename_i h<;>simp[h]
 |blk id b hb =>
  intro s
  show aaL id (yr cf big b s)=_
  rw[hb]
  simp only[xr]
  unfold aaL
  split<;>rename_i h<;>simp[h]
 |exit id=>intro s; rfl
 |loop b hb =>
  intro s
  show Nj (D6 b) (yr cf big b) big s=_
  rw[VQ,show yr cf big b=xr cf big b from funext hb]
  simp only[xr]
 |ret=>intro s; rfl
noncomputable def yP(K:Know)(cf:CF)(dr:Bool)(n:Nat)(f:FuncId)(ts:List T):Option (T×Option Ob) :=
 match K.Qj n f ts with
 |some r=>bif dr&&r.2.isSome then none else some r
 |none =>
  match K.tab f with
  |none=>none
  |some b =>
   bif Nat.ble ts.length b.nt then
    match yr cf K.big b.code (xk b ts [] 0) with
    | .go s=>O4 n dr b.rs s
    | .rt s=>O4 n dr b.rs s
    |_=>none
   else none
noncomputable def yI(K:Know)(cf:CF)(n:Nat)(f:FuncId)(ts:List T)(h:XH):Option (T×XH) :=
 match K.UM n f ts h with
 |some r=>some r
 |none =>
  match K.tab f with
  |none=>none
  |some b =>
   bif T.LM n ts&&hLt n h&&Nat.ble ts.length b.nt then
    match yr cf K.big b.code (xk b ts h n) with
    | .go s=>O5 n h b.rs s
    | .rt s=>O5 n h b.rs s
    |_=>none
   else none
noncomputable def yf(K:Know):Nat->CF
 |0=>fun _ _ _ _ _=>none
 |d+1=>fun dr n f ts h =>
  bif T.aT ts then
   match yP K (yf K d) dr n f ts with
   |some (t,o)=>some (t,UN n h o)
   |none=>none
  else bif K.wr f then(bif dr then none else yI K (yf K d) n f ts h)
  else bif T.aT (T.yB h ts) then
   match yP K (yf K d) dr n f (T.yB h ts) with
   |some (t,o)=>bif t.hard&&UO o then some (t,UN n h o) else(bif dr then none else yI K (yf K d) n f ts h)
   |none=>bif dr then none else yI K (yf K d) n f ts h
  else bif dr then none else yI K (yf K d) n f ts h
theorem VR(K:Know)(cf:CF)(dr:Bool)(n:Nat)(f:FuncId)(ts:List T):yP K cf dr n f ts=RQ K cf dr n f ts:=by
 unfold yP RQ; simp only[Y4]; rfl
theorem abY(K:Know)(cf:CF)(n:Nat)(f:FuncId)(ts:List T)(h:XH):yI K cf n f ts h=JY K cf n f ts h:=by
 unfold yI JY; simp only[Y4]; rfl
theorem Y5(K:Know): ∀ d,yf K d=xf K d:=by
 intro d
 induction d with
 |zero=>rfl
 |succ d ih =>
  funext dr n f ts h
  simp only[yf,xf,ih,VR,abY]; rfl
end Go.Ab
