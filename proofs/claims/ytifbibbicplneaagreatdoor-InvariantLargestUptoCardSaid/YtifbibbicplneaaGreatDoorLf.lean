/-
 The typed layer, part 9: contracts of functions; loops.
-/
import Derived.Deep.Slices
import Derived.Carry
import Derived.RowKit
import Derived.Stop.LaidErr
import Derived.Deep.DeepHandedRow
import Derived.Deep.DeepWitnessRowRef
import Derived.Lib.LaidTab
import Derived.Test.YtifbibbicplneaaGreatDoorLe
import Derived.Test.YtifbibbicplneaaGreatDoorLd
namespace Go.Ab
section
variable {P:Program}
structure Body(P:Program)(f:FuncId)(ac:iK)(rs:List RV)(nt:Nat):Prop where
 ex: ∃ fn c,P.funcs[f]? =some fn/\fn.body=some c/\comp P c=some ac/\o8 P fn.results.toList=some rs/\fn.ntmps=nt
 cl:callable P f
 dst:uz nt ac=true
def Zo(m:Fm)(h:Hz):RV->Option V
 | .slot t=>m.get t
 | .cell a k=>match m.get a with
  |some v=>match ldZ h k v with|some (u,.no)=>some u|_=>none
  |none=>none
def UU(m:Fm)(h:Hz):List RV->Option (List V)
 |[]=>some []
 |r::rs=>match Zo m h r,UU m h rs with
  |some v,some l=>some (v::l)
  |_,_=>none
def resV(m:Fm)(h:Hz)(rs:List RV):Option V :=
 match UU m h rs with
 |some [v]=>some v
 |some l=>some (.fO l)
 |none=>none
theorem Zp{m:Fm}{h:Hz}{s:AS}(R:Rp m s.fr)(hh:s.hp=h.au){r:RV}{v:V}(q:Zo m h r=some v):r.ok s/\r.val s=v.aI:=by
 cases r with
 |slot t=>exact⟨trivial,R.getD q⟩
 |cell a k =>
  simp only[Zo] at q
  split at q
  ·rename_i u hu
   split at q
   ·rename_i w hw
    cases q
    have:=Zi (x:=.t a) hh hw trivial (R.ev (x:=.t a) hu)
    exact this
   ·cases q
  ·cases q
theorem Qk{m:Fm}{h:Hz}{s:AS}(R:Rp m s.fr)(hh:s.hp=h.au): ∀ {rs:List RV} {l:List V},UU m h rs=some l->Ey s rs/\rs.map (RV.val s)=V.aW l:=by
 intro rs
 induction rs with
 |nil=>intro l q; cases q; exact⟨trivial,rfl⟩
 |cons r rs ih =>
  intro l q
  simp only[UU] at q
  split at q
  ·rename_i v l' h1 h2
   cases q
   obtain⟨a1,a2⟩:=Zp R hh h1
   obtain⟨b1,b2⟩:=ih h2
   exact⟨⟨a1,b1⟩,by simp only[List.map_cons,V.aW]; rw[a2,b2]⟩
  ·cases q
theorem NY{m:Fm}{h:Hz}{s:AS}(R:Rp m s.fr)(hh:s.hp=h.au){rs:List RV}{v:V}(q:resV m h rs=some v):Ey s rs/\resT s rs=v.aI:=by
 unfold resV at q
 split at q
 ·rename_i u e
  cases q
  obtain⟨a,b⟩:=Qk R hh e
  refine⟨a,?_⟩
  cases rs with
  |nil=>simp[V.aW] at b
  |cons r rs =>
   cases rs with
   |nil=>simp only[List.map_cons,List.map_nil,V.aW,List.cons.injEq,and_true] at b; exact b
   |cons r' rs=>simp[V.aW] at b
 ·rename_i l hne e
  cases q
  obtain⟨a,b⟩:=Qk R hh e
  refine⟨a,?_⟩
  match rs,b,e with
  |[],b,_=>simp only[resT,V.aI]; rw[b]
  |[r],b,e =>
   cases l with
   |nil=>simp[V.aW] at b
   |cons u l =>
    cases l with
    |nil=>exact absurd rfl (hne u)
    |cons w l=>simp[V.aW] at b
  |r::r'::rs,b,_=>simp only[resT,V.aI]; rw[b]
 ·cases q
structure ak(res v:V)(h:Hz):Prop where
 ok:T.sub (fun _=>True) h.au res.aI v.aI
def aez(rs:List RV)(res:V):Qz
 | .exit _,_,_,_=>False
 |_,m,h,_=>match resV m h rs with
  |some v=>v.seq fun v=>ak res v h
  |none=>False
def Dy:Nat->List V->Fm
 |_,[]=>[]
 |i,v::r=>(i,v)::Dy (i+1) r
theorem TF: ∀ {l:List V} {i j:Nat} {v:V},(Dy i l).get j=some v-> ∃ k,j=i+k/\l[k]? =some v:=by
 intro l
 induction l with
 |nil=>intro i j v q; cases q
 |cons u r ih =>
  intro i j v q
  simp only[Dy,Fm.get] at q
  cases hb:Nat.beq i j with
  |true=>rw[hb] at q; cases q; exact⟨0,(jQ hb).symm,rfl⟩
  |false =>
   rw[hb] at q
   obtain⟨k,e1,e2⟩:=ih q
   exact⟨k+1,by omega,by simpa using e2⟩
theorem Dz{l:List V}{n:Nat}:Rp (Dy 0 l) (V.aW l++List.replicate n T.un):=by
 intro i v q
 obtain⟨k,e1,e2⟩:=TF q
 have e:i=k:=by omega
 subst e
 have hk:i<l.length:=(List.getElem?_eq_some_iff.1 e2).1
 rw[List.getElem?_append_left (by rw[jh]; exact hk),o9,List.getElem?_map,e2]
 rfl
theorem abe:(no:Hp)=Hz.au []:=rfl
@[reducible] def aj(P:Program)(f:FuncId)(args:List V)(res:V):Prop:=wO P f (V.aW args) res.aI
theorem aj.of{f:FuncId}{ac:iK}{rs:List RV}{nt:Nat}{args:List V}{res:V}(B:Body P f ac rs nt)(hn:args.length<=nt)(hf:V.dD args=true)(hr:res.free=true)(H:az P nt 0 ac (aez rs res) (Dy 0 args) [] 0):aj P f args res:=by
 obtain⟨fn,c,h1,h2,h3,h4,h5⟩:=B.ex
 have GR:res.aI.ids (fun _=>False):=iF (V.kX res hr)
 refine wu.Bl (o:=none) h1 h2 h3 h4 B.cl h5 (V.gW args hf) (fun _ _=>Y7 _ GR) (fun _=>T.bV (fun _ h=>h.elim) _ GR) (fun _ h=>by cases h) ?_
 have:=tZ (P:=P) (N:=nt) (pn:=0) (s:=⟨V.aW args++List.replicate (nt-(V.aW args).length) T.un,no,0,0⟩) B.dst (by simp[jh]; omega) Dz abe rfl H
 refine oH ?_ this
 rintro e s ⟨m,h,a1,a2,a3,a4,a5⟩
 have key: ∀ {m h},Rp m s.fr->s.hp=Hz.au h->(match resV m h rs with|some v=>v.seq fun v=>ak res v h|none=>False)->Ey s rs/\T.sub (fun _=>True) s.hp res.aI (resT s rs):=by
  intro m h a2 a3 q
  split at q
  ·rename_i v hv
   rw[V.seq_eq] at q
   obtain⟨b1,b2⟩:=NY a2 a3 hv
   exact⟨b1,by rw[b2,a3]; exact q.ok⟩
  ·exact q.elim
 cases e with
 |exit j=>exact a5.elim
 |normal=>exact key a2 a3 a5
 |ret=>exact key a2 a3 a5
theorem ak.int{a b:Int}{h:Hz}(e:a=b):ak (.int a) (.int b) h:=⟨by subst e; exact aC _⟩
theorem ak.bool{a b:Bool}{h:Hz}(e:a=b):ak (.bool a) (.bool b) h:=⟨by subst e; exact aC _⟩
theorem ak.str{a b:Str}{h:Hz}(e:a=b):ak (.str a) (.str b) h:=⟨by subst e; exact aC _⟩
theorem ak.row{a b:Rw}{k:Nat}{f:Bool}{h:Hz}(e:a=b):ak (.row k false a) (.row k f b) h:=⟨by
 subst e; simp only[V.aI,T.sub]; exact⟨.inl trivial,.inl trivial,fun h=>by cases h⟩⟩
theorem ah.pure{dr:Bool}{f:FuncId}{args:List V}{res:V}{h:Hz}{n:Nat}{K:V->Hz->Prop}{KW:Nat->V->Hz->Prop}(S:aj P f args res)(hr:res.free=true)(hK:K res h):ah P dr none f args h n K KW :=
 ⟨.inl (wu.use S (cO _) ⟨res,h,rfl,rfl,fun _=>⟨rfl,V.kX res hr⟩,hK⟩)⟩
theorem ah.fG{dr:Bool}{b:Bool}{f:FuncId}{args:List V}{res:V}{h:Hz}{n:Nat}{K:V->Hz->Prop}{KW:Nat->V->Hz->Prop}(S:b=true->aj P f args res)(hr:res.free=true)(hK:K res h):ah P dr (some b) f args h n K KW :=
 ⟨.inl (.inl ⟨res,fun e=>wu.use (S e) (cO _) ⟨rfl,rfl⟩,hr,hK⟩)⟩
def JK(m:Fm):List Nat->Fm->(Fm->Prop)->Prop
 |[],acc,K=>K acc
 |d::r,acc,K=>match m.get d with
  |some v=>v.seq fun v=>JK m r ((d,v)::acc) K
  |none=>False
theorem BA{m:Fm}: ∀ {l:List Nat} {acc:Fm} {K:Fm->Prop},JK m l acc K->(∀ i v,acc.get i=some v->m.get i=some v)-> ∃ b,K b/\ ∀ i v,Fm.get i b=some v->m.get i=some v:=by
 intro l
 induction l with
 |nil=>intro acc K q ha; exact⟨acc,q,ha⟩
 |cons d r ih =>
  intro acc K q ha
  simp only[JK] at q
  split at q
  ·rename_i v hv
   rw[V.seq_eq] at q
   refine ih q ?_
   intro i u hu
   simp only[Fm.get] at hu
   cases hb:Nat.beq d i with
   |true=>rw[hb] at hu; cases hu; rw[<- jQ hb]; exact hv
   |false=>rw[hb] at hu; exact ha i u hu
  ·exact q.elim
def MB(m':Fm):Fm->Prop
 |[]=>True
 |p::r=>(∃ v,m'.get p.1=some v/\p.2.aI=v.aI)/\MB m' r
theorem MC{m':Fm}: ∀ {m0:Fm},MB m' m0-> ∀ {i:Nat} {v:V},m0.get i=some v-> ∃ u,m'.get i=some u/\v.aI=u.aI:=by
 intro m0
 induction m0 with
 |nil=>intro _ i v q; cases q
 |cons p r ih =>
  intro hs i v q
  simp only[Fm.get] at q
  cases hb:Nat.beq p.1 i with
  |true=>rw[hb] at q; cases q; rw[<- jQ hb]; exact hs.1
  |false=>rw[hb] at q; exact ih hs.2 q
def Zq(nx N:Nat):Fm->Bool
 |[]=>true
 |p::r=>T.lt nx p.2.aI&&Nat.blt p.1 N&&Zq nx N r
theorem wR{nx N:Nat}: ∀ {m:Fm},Zq nx N m=true-> ∀ {i:Nat} {v:V},m.get i=some v->T.lt nx v.aI=true/\i<N:=by
 intro m
 induction m with
 |nil=>intro _ i v q; cases q
 |cons p r ih =>
  intro hs i v q
  simp only[Zq,Bool.and_eq_true] at hs
  simp only[Fm.get] at q
  cases hb:Nat.beq p.1 i with
  |true=>rw[hb] at q; cases q; exact⟨hs.1.1,by rw[<- jQ hb]; simpa using hs.1.2⟩
  |false=>rw[hb] at q; exact ih hs.2 q
def wC(N:Nat)(m:Fm):List T:=(List.range N).map fun i=>match m.get i with|some v=>v.aI|none=>.any
theorem yA{N:Nat}{m:Fm}:(wC N m).length=N:=by simp[wC]
theorem EI{N:Nat}{m:Fm}(hN: ∀ i v,m.get i=some v->i<N):Rp m (wC N m):=by
 intro i v q
 simp only[wC,List.getElem?_map,List.getElem?_range (hN i v q),Option.map_some,q]
theorem UW{Z:Nat->Prop}{h:Hp}: ∀ {a b:List T},a.length=b.length->(∀ (i:Nat) (t u:T),a[i]? =some t->b[i]? =some u->T.sub Z h t u)->T.dG Z h a b:=by
 intro a
 induction a with
 |nil=>intro b hl _; cases b with|nil=>trivial|cons _ _=>simp at hl
 |cons t a ih =>
  intro b hl H
  cases b with
  |nil=>simp at hl
  |cons u b=>exact⟨H 0 t u rfl rfl,ih (by simpa using hl) fun i t u h1 h2=>H (i+1) t u (by simpa using h1) (by simpa using h2)⟩
theorem UY{Z:Nat->Prop}{h:Hp}{t:T}:T.sub Z h .any t:=by cases t<;>simp[T.sub]
theorem Zr{N:Nat}{m0 m:Fm}{fr:List T}{Z:Nat->Prop}{h:Hp}(hl:fr.length=N)(R:Rp m fr)(hs: ∀ i v,m0.get i=some v-> ∃ u,m.get i=some u/\v.aI=u.aI):T.dG Z h (wC N m0) fr:=by
 refine UW (by rw[yA,hl]) fun i t u h1 h2=>?_
 simp only[wC,List.getElem?_map] at h1
 have hi:i<N:=by
  rcases Nat.lt_or_ge i N with h|h
  ·exact h
  ·rw[List.getElem?_eq_none (by simpa using h)] at h1; cases h1
 rw[List.getElem?_range hi] at h1
 simp only[Option.map_some,Option.some.injEq] at h1
 split at h1
 ·rename_i v hv
  obtain⟨w,hw,e⟩:=hs i v hv
  have:=R i w hw
  rw[h2] at this
  simp only[Option.some.injEq] at this
  subst h1; rw[this,e]; exact aC _
 ·subst h1; exact UY
theorem EJ{N nx:Nat}{m:Fm}(hg: ∀ i v,m.get i=some v->T.lt nx v.aI=true):T.aS (· <nx) (wC N m):=by
 rw[dF]
 intro t ht
 simp only[wC,List.mem_map] at ht
 obtain⟨i,_,e⟩:=ht
 split at e
 ·rename_i v hv; subst e; exact Jv (hg i v hv)
 ·subst e; simp[T.ids]
def OV.good(nx:Nat):OV->Bool
 | .row _ k r x=>(match r with| .nil=>true|r=>Nat.beq r.kd k)&&Ky k x&&T.Ui nx (V.aW x)&& !(Nat.beq k fP)
 | .box _ k v=>Ky k [v]&&T.lt nx v.aI&& !(Nat.beq k fP)
 | .map _ _ x=>x.all fun e=>T.lt nx e.2.aI
def xO(nx:Nat):Hz->Bool
 |[]=>true
 |(i,some o)::r=>Nat.blt i nx&&o.good nx&&xO nx r
 |(_,none)::r=>xO nx r
theorem AZ{n:Nat}: ∀ {l:List T},T.Ui n l=true->T.aS (· <n) l:=by
 intro l
 induction l with
 |nil=>intro _; trivial
 |cons t l ih =>
  intro q
  simp only[T.Ui,Bool.and_eq_true] at q
  exact⟨Jv q.1,ih q.2⟩
theorem Rw.ids{M:Nat->Prop}(r:Rw):T.aS M r.aW:=by
 rw[dF]
 intro t ht
 cases r<;>simp only[Rw.aW,List.mem_map,List.not_mem_nil] at ht<;>obtain⟨x,_,rfl⟩:=ht<;>simp[eS,T.ids,T.aS,Ti,Qa,H8,Tj,og,tq]
theorem Rw.kds{r:Rw}: ∀ t∈r.aW,t.kd=r.kd:=by
 intro t ht
 cases r<;>simp only[Rw.aW,List.mem_map,List.not_mem_nil] at ht<;>obtain⟨x,_,rfl⟩:=ht<;>rfl
theorem abf{k:Nat}{l:List V}(q:Ky k l=true): ∀ t∈V.aW l,t.kd=k:=by
 intro t ht
 rw[o9,List.mem_map] at ht
 obtain⟨v,hv,rfl⟩:=ht
 exact V.NU (Hu q v hv)
theorem UZ{k:Nat}{l:List T}(hk:k≠fP)(h: ∀ t∈l,t.kd=k):UK k l=true:=by
 unfold UK
 have:(k==1000000007)=false:=by simpa using hk
 rw[this]; simp only[cond_false,List.all_eq_true,beq_iff_eq]; exact h
theorem OV.wH{nx:Nat}{o:OV}(q:o.good nx=true):T.aS (· <nx) o.aH.l/\UK o.aH.k o.aH.l=true:=by
 cases o with
 |row ty k r x =>
  simp only[OV.good,Bool.and_eq_true,Bool.not_eq_true'] at q
  obtain⟨⟨⟨q1,q2⟩,q3⟩,q4⟩:=q
  simp only[OV.aH]
  refine⟨eX.2 ⟨r.ids,AZ q3⟩,UZ (Nat.ne_of_beq_eq_false q4) fun t ht=>?_⟩
  rcases List.mem_append.1 ht with ht|ht
  ·split at q1
   ·cases ht
   ·rw[<- jQ q1]; exact Rw.kds t ht
  ·exact abf q2 t ht
 |box ty k v =>
  simp only[OV.good,Bool.and_eq_true,Bool.not_eq_true'] at q
  obtain⟨⟨q1,q2⟩,q3⟩:=q
  simp only[OV.aH]
  refine⟨⟨Jv q2,trivial⟩,UZ (Nat.ne_of_beq_eq_false q3) fun t ht=>?_⟩
  rw[List.mem_singleton] at ht; subst ht; exact WV q1
 |map ty es x =>
  simp only[OV.good,List.all_eq_true] at q
  simp only[OV.aH]
  refine⟨?_,?_⟩
  ·rw[dF]
   intro t ht
   rcases List.mem_append.1 ht with ht|ht
   ·rw[List.mem_map] at ht
    obtain⟨e,_,rfl⟩:=ht
    simp[Gy,T.ids,T.aS]
   ·rw[List.mem_map] at ht
    obtain⟨e,he,rfl⟩:=ht
    simp only[X4,T.ids,T.aS]; exact⟨trivial,Jv (q e he),trivial⟩
  ·unfold UK
   simp[fP,iq,Gy,X4]
theorem qR{nx:Nat}: ∀ {h:Hz},xO nx h=true->HpG nx h.au:=by
 intro h
 induction h with
 |nil=>intro _ i ob e; simp[Hz.au,Hz.get] at e
 |cons p r ih =>
  obtain⟨j,o⟩:=p
  intro q
  rw[bK]
  cases o with
  |none=>exact aaX (ih q)
  |some o =>
   simp only[xO,Bool.and_eq_true] at q
   obtain⟨g1,g2⟩:=OV.wH q.1.2
   exact aaW (ih q.2) (by simpa using q.1.1) g1 g2
def Ar(nx:Nat):Hz->Hz
 |[]=>[]
 |(i,o)::r=>bif Nat.blt i nx then(i,o)::Ar nx r else Ar nx r
theorem JL{nx i:Nat}(hi:i<nx): ∀ {h:Hz},(Ar nx h).get i=h.get i:=by
 intro h
 induction h with
 |nil=>rfl
 |cons p r ih =>
  obtain⟨j,o⟩:=p
  simp only[Ar]
  cases hb:Nat.blt j nx with
  |true=>simp only[cond_true,Hz.get]; cases Nat.beq j i<;>simp[ih]
  |false =>
   simp only[cond_false,Hz.get]
   have hne:Nat.beq j i=false:=by
    cases e:Nat.beq j i with
    |false=>rfl
    |true =>
     have:=jQ e; subst this
     have:Nat.blt j nx=true:=by simpa using hi
     rw[this] at hb; cases hb
   rw[hne]; exact ih
structure aeA{ι:Type}(inv:ι->Prop)(μ:ι->Nat)(vars:ι->Fm)(base:Fm)(hs:Hz)(nx:Nat)(i:ι)(m:Fm)(h:Hz):Prop where
 ok: ∃ j,inv j/\μ j<μ i/\MB m (vars j)/\MB m base/\Ar nx h=hs
theorem get_append{a b:Fm}{i:Nat}{v:V}(q:Fm.get i (a++b)=some v):a.get i=some v\/Fm.get i b=some v:=by
 induction a with
 |nil=>exact .inr q
 |cons p r ih =>
  simp only[List.cons_append,Fm.get] at q ⊢
  cases hb:Nat.beq p.1 i with
  |true=>rw[hb] at q; exact .inl q
  |false=>rw[hb] at q; exact ih q
theorem aF.same{N pn nx:Nat}{b:iK}{Q:Qz}{m:Fm}{h:Hz}{ι:Type}(live:List Nat)(vars:ι->Fm)(inv:ι->Prop)(μ:ι->Nat)(i0:ι)(hd:uz N b=true)(hp:pn<=nx)(hg:xO nx h=true)(hv: ∀ i,Zq nx N (vars i)=true)(h0:inv i0)(he:MB m (vars i0))
  (H:JK m live [] fun base=>Zq nx N base=true/\ ∀ i,inv i->az P N pn b (fun e m' h' n'=>match e with
   | .normal=>aeA inv μ vars base (Ar nx h) nx i m' h'
   |e=>Q e m' h' n') (vars i++base) h nx):aF P N pn b Q m h nx:=by
 obtain⟨base,⟨hb,H⟩,hbm⟩:=BA H (fun i v q=>by cases q)
 refine⟨fun fr hl R=>?_⟩
 have hall: ∀ i j v,Fm.get j (vars i++base)=some v->T.lt nx v.aI=true/\j<N:=fun i j v q=>by
  rcases get_append q with q|q
  ·exact wR (hv i) q
  ·exact wR hb q
 have wk: ∀ (i:ι) (m':Fm) (h':Hz) (s':AS),s'.fr.length=N->Rp m' s'.fr->s'.hp=h'.au->s'.pin=pn->MB m' (vars i)->(∀ j v,Fm.get j base=some v-> ∃ u,m'.get j=some u/\v.aI=u.aI)->Ar nx h'=Ar nx h ->
   Wk ⟨wC N (vars i++base),h.au,nx,pn⟩ s':=by
  intro i m' h' s' a1 a2 a3 a4 a5 a6 a7
  obtain⟨fr',hp',nx',pn'⟩:=s'
  simp only at a1 a2 a3 a4
  subst a3; subst a4
  refine Wk.same (Zr a1 a2 fun j v q=>?_) (EJ fun j v q=>(hall i j v q).1) (qR hg) (fun j hj=>?_) hp
  ·rcases get_append q with q|q
   ·exact MC a5 q
   ·exact a6 j v q
  ·simp only[Hz.au]; rw[<- JL hj,a7,JL hj]
 refine zq.rule (fun i=>⟨wC N (vars i++base),h.au,nx,pn⟩) inv μ i0 h0 (wk i0 m h _ hl R rfl rfl he (fun j v q=>⟨v,hbm j v q,rfl⟩) rfl) ?_
 intro i hi
 have:=tZ (P:=P) (N:=N) (pn:=pn) (s:=⟨wC N (vars i++base),h.au,nx,pn⟩) hd yA (EI fun j v q=>(hall i j v q).2) rfl rfl (H i hi)
 refine oH ?_ this
 rintro e s' ⟨m',h',a1,a2,a3,a4,a5⟩
 cases e with
 |normal =>
  obtain⟨j,b1,b2,b3,b4,b5⟩:=a5.ok
  exact⟨j,⟨b1,b2⟩,wk j m' h' s' a1 a2 a3 a4 b3 (fun j v q=>MC b4 q) b5⟩
 |exit j=>exact⟨m',h',a1,a2,a3,a4,a5⟩
 |ret=>exact⟨m',h',a1,a2,a3,a4,a5⟩
end
def sq(l:List aQ)(c:iK):iK:=.seq (.reg false l) c
def qm(d x:Nat):aQ:=o d (.mv (.t x))
def aZ(d:Nat)(n:Int):aQ:=o d (.mv (.c (.int n)))
def qv(d:Nat)(b:Bool):aQ:=o d (.mv (.c (.bool b)))
def qb(op:BinOp)(d x y:Nat):aQ:=o d (.bin op (.t x) (.t y))
def qk(op:BinOp)(d x:Nat)(n:Int):aQ:=o d (.bin op (.t x) (.c (.int n)))
def ql(d k x:Nat):aQ:=o d (.ld k (.t x))
def qf(d a k x:Nat):aQ:=o d (.fa a k (.t x))
def qi(d k x y:Nat):aQ:=o d (.ia k (.t x) (.t y))
def qn(d x:Nat):aQ:=o d (.len false (.t x))
def qo(d a b:Nat):aQ:=o d (.pick (.t a) (.c (.bool true)) (.t b))
def qa(d a b:Nat):aQ:=o d (.pick (.t a) (.t b) (.c (.bool false)))
def qx(d x:Nat):aQ:=o d (.not (.t x))
def qe(d x i:Nat):aQ:=o d (.ex (.t x) i)
def qB(d:Nat)(ty:TypeId)(k x:Nat):aQ:=o d (.box ty k (.t x))
def qs(k x y:Nat):aQ:=ov (.st k (.t x) (.t y))
def qC(d:Nat)(f:FuncId)(l:List Nat):aQ:=o d (.call f (l.map .t))
def aQ.w(q:aQ)(g:Nat):aQ:=⟨q.d,q.op,some (g,true),q.fl,q.ne,q.ad⟩
def aQ.n(q:aQ)(g:Nat):aQ:=⟨q.d,q.op,some (g,false),q.fl,q.ne,q.ad⟩
theorem Body.of{P:Program}{f:FuncId}{fn:Func}{ac:iK}{rs:List RV}{nt:Nat}(h1:P.funcs[f]? =some fn)(h2:(fn.body.isSome,comp P (fn.body.getD .skip),o8 P fn.results.toList,fn.ntmps,uz nt ac)=(true,some ac,some rs,nt,true))(h3:callable P f):Body P f ac rs nt:=by
 simp only[Prod.mk.injEq] at h2
 obtain⟨a,b,c,d,e⟩:=h2
 obtain⟨cd,hc⟩:=Option.isSome_iff_exists.1 a
 rw[hc] at b
 exact⟨⟨fn,cd,h1,hc,b,c,d⟩,h3,e⟩
section
variable {P:Program}
def bn(a b:List T):Prop:= ∀ (Z:Nat->Prop) (h:Hp),T.dG Z h a b
theorem bn.refl(a:List T):bn a a:=fun _ _=>cO a
def OV.Gw:OV->Bool
 | .row _ _ _ x=>V.dD x
 | .box _ _ v=>v.free
 | .map _ _ x=>V.dD (x.map (·.2))
theorem OV.yR{o:OV}(q:o.Gw=true):T.aS (fun _=>False) o.aH.l:=by
 cases o with
 |row ty k r x=>exact eX.2 ⟨r.ids,dA (V.gW x q)⟩
 |box ty k v=>exact⟨iF (V.kX v q),trivial⟩
 |map ty es x =>
  simp only[OV.Gw] at q
  refine eX.2 ⟨dF.2 fun t ht=>?_,dF.2 fun t ht=>?_⟩
  ·obtain⟨e,_,rfl⟩:=List.mem_map.1 ht
   simp[Gy,T.ids,T.aS]
  ·obtain⟨e,he,rfl⟩:=List.mem_map.1 ht
   simp only[X4,T.ids,T.aS]
   refine⟨trivial,?_,trivial⟩
   have:=dA (V.gW _ q)
   rw[dF] at this
   exact this _ (by rw[o9,List.map_map]; exact List.mem_map.2 ⟨e,he,rfl⟩)
theorem OV.yJ{o:OV}(q:o.Gw=true)(ρ:Nat->Nat):T.dw ρ o.aH.l=o.aH.l:=uK _ (OV.yR q)
def qy:List (Nat×OV)->List Nat->Nat->Nat
 |(c,_)::r,n::s,i=>bif Nat.beq i c then n else qy r s i
 |_,_,i=>i
def Ij(n:Nat):List Nat->Bool
 |[]=>true
 |m::r=> !(Nat.beq n m)&&Ij n r
def WY(nx pn:Nat)(h:Hz):List (Nat×OV)->List Nat->Prop
 |[],[]=>True
 |(c,o)::r,n::s=>(Nat.blt c nx=true/\(Nat.blt c pn=true->n=c)/\Ij n s=true/\o.good nx=true/\o.Gw=true /\
   ∃ o',h.get n=some o'/\o'.aH.ty=o.aH.ty/\o'.aH.k=o.aH.k/\bn o.aH.l o'.aH.l)/\WY nx pn h r s
 |_,_=>False
def Au:List (Nat×OV)->List Nat->List (Nat×Nat×Ob)
 |(c,o)::r,n::s=>(c,n,o.aH)::Au r s
 |_,_=>[]
def Ol(l:List (Nat×OV)):Hz:=l.map fun p=>(p.1,some p.2)
theorem JM: ∀ {l:List (Nat×OV)} {s:List Nat} {i:Nat},Du (Au l s) i=qy l s i:=by
 intro l
 induction l with
 |nil=>intro s i; cases s<;>rfl
 |cons p r ih =>
  obtain⟨c,o⟩:=p
  intro s i
  cases s with
  |nil=>rfl
  |cons n s =>
   simp only[Au,Du,qy]
   rw[ih]
   cases hb:Nat.beq i c with
   |true=>rw[if_pos (jQ hb)]; rfl
   |false=>rw[if_neg (Nat.ne_of_beq_eq_false hb)]; rfl
theorem abg{nx pn:Nat}{h:Hz}: ∀ {l:List (Nat×OV)} {s:List Nat},WY nx pn h l s->hpL (Au l s)=(Ol l).au:=by
 intro l
 induction l with
 |nil=>intro s q; cases s with
  |nil=>rfl
  |cons _ _=>exact q.elim
 |cons p r ih =>
  obtain⟨c,o⟩:=p
  intro s q
  cases s with
  |nil=>exact q.elim
  |cons n s =>
   simp only[Au,hpL]
   have e:Ol ((c,o)::r)=(c,some o)::Ol r:=rfl
   rw[e,bK,ih q.2]; rfl
theorem Ql{n:Nat}: ∀ {l:List (Nat×OV)} {s:List Nat},Ij n s=true-> ¬ NM (Au l s) n:=by
 intro l
 induction l with
 |nil=>intro s _ q; cases s<;>exact q
 |cons p r ih =>
  obtain⟨c,o⟩:=p
  intro s hs q
  cases s with
  |nil=>exact q
  |cons m s =>
   simp only[Ij,Bool.and_eq_true] at hs
   simp only[Au,NM] at q
   rcases q with q|q
   ·rw[q,Nat.beq_refl] at hs; cases hs.1
   ·exact ih hs.2 q
theorem abh{nx pn:Nat}{h:Hz}{Z:Nat->Prop}{ρ:Nat->Nat}: ∀ {l:List (Nat×OV)} {s:List Nat},WY nx pn h l s->okL Z ρ h.au nx pn (Au l s):=by
 intro l
 induction l with
 |nil=>intro s _; cases s<;>trivial
 |cons p r ih =>
  obtain⟨c,o⟩:=p
  intro s q
  cases s with
  |nil=>exact q.elim
  |cons n s =>
   obtain⟨⟨q1,q2,q3,q4,q5,o',q6,q7,q8,q9⟩,q⟩:=q
   obtain⟨g1,g2⟩:=OV.wH q4
   refine⟨⟨Nat.blt_eq.mp q1,fun hc=>q2 (Nat.blt_eq.mpr hc),Ql q3,g1,g2,o'.aH.l,?_,?_⟩,ih q⟩
   ·have:=aJ q6
    show h.au n=some ⟨o.aH.ty,o.aH.k,o'.aH.l⟩
    rw[this,<- q7,<- q8]
   ·show T.dG Z h.au (T.dw ρ o.aH.l) o'.aH.l
    rw[OV.yJ q5]; exact q9 _ _
def qh(ρ:Nat->Nat)(m':Fm):Fm->Prop
 |[]=>True
 |(i,v)::r=>(∃ u,m'.get i=some u/\bn [v.aI.ren ρ] [u.aI])/\qh ρ m' r
theorem uU{ρ:Nat->Nat}{m':Fm}: ∀ {m0:Fm},qh ρ m' m0-> ∀ {i:Nat} {v:V},m0.get i=some v-> ∃ u,m'.get i=some u/\bn [v.aI.ren ρ] [u.aI]:=by
 intro m0
 induction m0 with
 |nil=>intro _ i v q; cases q
 |cons p r ih =>
  obtain⟨j,w⟩:=p
  intro hs i v q
  simp only[Fm.get] at q
  cases hb:Nat.beq j i with
  |true=>rw[hb] at q; cases q; rw[<- jQ hb]; exact hs.1
  |false=>rw[hb] at q; exact ih hs.2 q
theorem bn.eq{a b:T}(h:a=b):bn [a] [b]:=by subst h; exact .refl _
theorem FY{N:Nat}{m0 m:Fm}{fr:List T}{Z:Nat->Prop}{h:Hp}{ρ:Nat->Nat}(hl:fr.length=N)(R:Rp m fr)(hs: ∀ i v,m0.get i=some v-> ∃ u,m.get i=some u/\bn [v.aI.ren ρ] [u.aI]):T.dG Z h (T.dw ρ (wC N m0)) fr:=by
 refine UW (by rw[tX,yA,hl]) fun i t u h1 h2=>?_
 have e: ∀ l:List T,T.dw ρ l=l.map (T.ren ρ):=by
  intro l
  induction l with
  |nil=>rfl
  |cons a l ih=>simp only[T.dw,List.map_cons,ih]
 rw[e] at h1
 simp only[wC,List.getElem?_map] at h1
 have hi:i<N:=by
  rcases Nat.lt_or_ge i N with h|h
  ·exact h
  ·rw[List.getElem?_eq_none (by simpa using h)] at h1; cases h1
 rw[List.getElem?_range hi] at h1
 simp only[Option.map_some,Option.some.injEq] at h1
 split at h1
 ·rename_i v hv
  obtain⟨w,hw,e⟩:=hs i v hv
  have:=R i w hw
  rw[h2] at this
  simp only[Option.some.injEq] at this
  subst h1; rw[this]; exact(e Z h).1
 ·subst h1; exact UY
structure aeB{ι:Type}(inv:ι->Prop)(μ:ι->Nat)(vars:ι->Fm)(objs:ι->List (Nat×OV))(base:Fm)(nx pn:Nat)(i:ι)(m:Fm)(h:Hz):Prop where
 ok: ∃ j nw,inv j/\μ j<μ i/\qh (qy (objs j) nw) m (vars j)/\qh (qy (objs j) nw) m base/\WY nx pn h (objs j) nw
theorem aF.objs{N pn nx0:Nat}(nx:Nat){b:iK}{Q:Qz}{m:Fm}{h:Hz}{ι:Type}(live:List Nat)(vars:ι->Fm)(objs:ι->List (Nat×OV))(inv:ι->Prop)(μ:ι->Nat)(i0:ι)(QW:List Nat)(hd:uz N b=true)(hp:pn<=nx)(hv: ∀ i,Zq nx N (vars i)=true)(h0:inv i0)
  (he:qh (qy (objs i0) QW) m (vars i0)) (ho:WY nx pn h (objs i0) QW)
  (H:JK m live [] fun base=>qh (qy (objs i0) QW) m base/\Zq nx N base=true/\ ∀ i,inv i->az P N pn b (fun e m' h' n'=>match e with
   | .normal=>aeB inv μ vars objs base nx pn i m' h'
   |e=>Q e m' h' n') (vars i++base) (Ol (objs i)) nx):aF P N pn b Q m h nx0:=by
 obtain⟨base,⟨hbs,hb,H⟩,hbm⟩:=BA H (fun i v q=>by cases q)
 refine⟨fun fr hl R=>?_⟩
 have hall: ∀ i j v,Fm.get j (vars i++base)=some v->T.lt nx v.aI=true/\j<N:=fun i j v q=>by
  rcases get_append q with q|q
  ·exact wR (hv i) q
  ·exact wR hb q
 have wk: ∀ (i:ι) (nw:List Nat) (m':Fm) (h':Hz) (s':AS),s'.fr.length=N->Rp m' s'.fr->s'.hp=h'.au->s'.pin=pn->qh (qy (objs i) nw) m' (vars i)->qh (qy (objs i) nw) m' base->WY nx pn h' (objs i) nw ->
   Wk ⟨wC N (vars i++base),(Ol (objs i)).au,nx,pn⟩ s':=by
  intro i nw m' h' s' a1 a2 a3 a4 a5 a6 a7
  obtain⟨fr',hp',nx',pn'⟩:=s'
  simp only at a1 a2 a3 a4
  subst a3; subst a4
  rw[<- abg a7]
  refine Wk.objs (Au (objs i) nw) (FY a1 a2 fun j v q=>?_) (EJ fun j v q=>(hall i j v q).1) hp (abh a7)
  have e:Du (Au (objs i) nw)=qy (objs i) nw:=funext fun _=>JM
  rw[e]
  rcases get_append q with q|q
  ·exact uU a5 q
  ·exact uU a6 q
 refine zq.rule (fun i=>⟨wC N (vars i++base),(Ol (objs i)).au,nx,pn⟩) inv μ i0 h0 (wk i0 QW m h _ hl R rfl rfl he hbs ho) ?_
 intro i hi
 have:=tZ (P:=P) (N:=N) (pn:=pn) (s:=⟨wC N (vars i++base),(Ol (objs i)).au,nx,pn⟩) hd yA (EI fun j v q=>(hall i j v q).2) rfl rfl (H i hi)
 refine oH ?_ this
 rintro e s' ⟨m',h',a1,a2,a3,a4,a5⟩
 cases e with
 |normal =>
  obtain⟨j,nw,b1,b2,b3,b4,b5⟩:=a5.ok
  exact⟨j,⟨b1,b2⟩,wk j nw m' h' s' a1 a2 a3 a4 b3 b4 b5⟩
 |exit j=>exact⟨m',h',a1,a2,a3,a4,a5⟩
 |ret=>exact⟨m',h',a1,a2,a3,a4,a5⟩
theorem aF.nil{N pn nx:Nat}{b:iK}{Q:Qz}{m:Fm}{h:Hz}(d ty k:Nat){k':Nat}{r:Rw}(hd:m.get d=some (.row k' true r))(hr:r.aW=[])(hk:zD k=true)(hN:Nat.blt d N=true)
  (H:aF P N pn b Q ((d,.own nx)::m) ((nx,some (.row ty k .nil []))::h) (nx+1)):aF P N pn b Q m h nx:=by
 refine⟨fun fr hl R=>?_⟩
 have hdl:d<fr.length:=by rw[hl]; exact Nat.blt_eq.mp hN
 have hget:fr.getD d .any= .sl k' true []:=by
  rw[R.getD hd]; simp only[V.aI,hr]
 have H':=H.ok (fr.set d (.own nx)) (by simpa using hl) (fun i v q=>by
  simp only[Fm.get] at q
  cases hb:Nat.beq d i with
  |true=>rw[hb] at q; cases q; rw[<- jQ hb]; simp[hdl,V.aI]
  |false =>
   rw[hb] at q
   rw[List.getElem?_set_ne (Nat.ne_of_beq_eq_false hb)]; exact R i v q)
 have e:Hz.au ((nx,some (.row ty k .nil []))::h)=upd h.au nx (some ⟨ty,k,[]⟩):=by rw[bK]; rfl
 rw[e] at H'
 obtain⟨I,μ,⟨s0,w0,i0⟩,round⟩:=H'
 exact⟨I,μ,⟨s0,Wk.aaU d ty k hget hk w0,i0⟩,round⟩
structure jH(h0:Hz)(n:Nat)(post:T->Hp->Prop)(v:V)(h:Hz):Prop where
 ok: ∃ (Z:Nat->Prop) (ρ:Nat->Nat) (t:T) (h':Hp),post t h'/\T.sub Z h.au (t.ren ρ) v.aI/\(∀ i ob,h' i=some ob-> ∃ ob',h.au (ρ i)=some ob'/\ ¬ Z (ρ i)/\KC Z h.au ρ ob ob') /\
  (∀ i j,(h' i).isSome=true->(h' j).isSome=true->ρ i=ρ j->i=j)/\t.ids (fun i=>(h0.au i).isSome=true\/i=n)/\qw (fun i=>(h0.au i).isSome=true\/i=n) h' /\
  ∀ i,(h0.au i).isSome=true->(h' i).isSome=true->ρ i=i
def aeC(h0:Hz)(n:Nat)(post:T->Hp->Prop)(rs:List RV):Qz
 | .exit _,_,_,_=>False
 |_,m,h,_=>match resV m h rs with
  |some v=>v.seq fun v=>jH h0 n post v h
  |none=>False
theorem qF.of{f:FuncId}{ac:iK}{rs:List RV}{nt nx n:Nat}{args:List V}{h0:Hz}{post:T->Hp->Prop}(B:Body P f ac rs nt)(hn:args.length<=nt)(hin: ∃ t h',post t h')(ha:T.Ui nx (V.aW args)=true)(hg:xO nx h0=true)
  (H:az P nt nx ac (aeC h0 n post rs) (Dy 0 args) h0 nx):aU P f (V.aW args) h0.au n post:=by
 obtain⟨fn,c,h1,h2,h3,h4,h5⟩:=B.ex
 have hG:=qR hg
 refine aU.Bl (nx:=nx) h1 h2 h3 h4 B.cl h5 hin (AZ ha) (fun i ob hi=>⟨(hG i ob hi).1,(hG i ob hi).2.1⟩) ?_
 have:=tZ (P:=P) (N:=nt) (pn:=nx) (s:=⟨V.aW args++List.replicate (nt-(V.aW args).length) T.un,h0.au,nx,nx⟩) B.dst (by simp[jh]; omega) Dz rfl rfl H
 refine oH ?_ this
 rintro e s ⟨m,h,a1,a2,a3,a4,a5⟩
 have key: ∀ {m h},Rp m s.fr->s.hp=Hz.au h->(match resV m h rs with|some v=>v.seq fun v=>jH h0 n post v h|none=>False)-> ∃ s1,Jg s1 s/\Ret h0.au n post rs s1:=by
  intro m h a2 a3 q
  split at q
  ·rename_i v hv
   rw[V.seq_eq] at q
   obtain⟨b1,b2⟩:=NY a2 a3 hv
   obtain⟨Z,ρ,t,h',c1,c2,c3,c4,c5,c6,c7⟩:=q.ok
   exact⟨s,.refl _,b1,Z,ρ,t,h',c1,by rw[b2,a3]; exact c2,by rw[a3]; exact c3,c4,c5,c6,c7⟩
  ·exact q.elim
 cases e with
 |exit j=>exact a5.elim
 |normal=>exact key a2 a3 a5
 |ret=>exact key a2 a3 a5
theorem jH.one{h0 h:Hz}{n c j:Nat}{post:T->Hp->Prop}{v:V}{o:OV}{t:T}(hj:h.get j=some o)(hg:o.good (j+1)=true)(hf:o.Gw=true)(hc:(h0.get c).isSome=true->j=c)(hc':(h0.get c).isSome=true\/c=n)
  (ht:t.ids (fun i=>i=c)) (hv:bn [t.ren fun _=>j] [v.aI]) (hp:post t (Hz.au [(c,some o)])):jH h0 n post v h:=by
 have hgood:=(OV.wH hg).2
 have hM: ∀ i,i=c->(h0.au i).isSome=true\/i=n:=by
  rintro i rfl
  rcases hc' with h|h
  ·left; simpa [Hz.au] using h
  ·exact .inr h
 have hx: ∀ i ob,Hz.au [(c,some o)] i=some ob->i=c/\ob=o.aH:=fun i ob hi=>by
  simp only[Hz.au,Hz.get] at hi
  cases hb:Nat.beq c i with
  |true=>rw[hb] at hi; simp only[cond_true,Option.map_some,Option.some.injEq] at hi; exact⟨(jQ hb).symm,hi.symm⟩
  |false=>rw[hb] at hi; simp at hi
 refine⟨fun i=>i≠j,fun _=>j,t,Hz.au [(c,some o)],hp,(hv _ _).1,fun i ob hi=>?_,fun i i' hi hi' _=>?_,T.bV hM _ ht,fun i ob hi=>?_,fun i hi hi'=>?_⟩
 ·obtain⟨rfl,rfl⟩:=hx i ob hi
  refine⟨o.aH,aJ hj,by simp,rfl,rfl,?_,wZ hgood⟩
  rw[OV.yJ hf]; exact cO _
 ·obtain⟨oi,hi⟩:=Option.isSome_iff_exists.1 hi
  obtain⟨oj,hi'⟩:=Option.isSome_iff_exists.1 hi'
  rw[(hx _ _ hi).1,(hx _ _ hi').1]
 ·obtain⟨rfl,rfl⟩:=hx i ob hi
  exact⟨hM _ rfl,T.ay (fun _ h=>h.elim) _ (OV.yR hf)⟩
 ·obtain⟨oi,hi'⟩:=Option.isSome_iff_exists.1 hi'
  obtain⟨rfl,_⟩:=hx _ _ hi'
  exact hc (by simpa [Hz.au] using hi)
theorem ah.heap{f:FuncId}{args:List V}{h:Hz}{n:Nat}{K:V->Hz->Prop}{KW:Nat->V->Hz->Prop}{post:T->Hp->Prop}(S:aU P f (V.aW args) h.au n post)(hK: ∀ t hp,post t hp-> ∃ v h',t=v.aI/\hp=Hz.au h'/\K v h'):ah P false none f args h n K KW :=
 ⟨.inl (S.mono fun t hp q=>by
  obtain⟨v,h',h1,h2,h3⟩:=hK t hp q
  exact⟨v,h',h1,h2,(fun e=>by cases e),h3⟩)⟩
end
section
variable {P:Program}
def LoopN(body:(qW->AS->Prop)->AS->Prop)(Q:qW->AS->Prop):Nat->AS->Prop
 |0,_=>False
 |k+1,s=>body (fun e s'=>match e with| .normal=>LoopN body Q k s'|e=>Q e s') s
open Classical in
theorem zq.ofN{b:iK}{Q:qW->AS->Prop}{k:Nat}{s:AS}(h:LoopN (aw P b) Q k s):zq (aw P b) Q s:=by
 let I:AS->Nat->Prop:=fun s n=>LoopN (aw P b) Q n s
 let μ:AS->Nat:=fun s=>if hh: ∃ n,I s n then Classical.choose (Tm _ (Classical.choose_spec hh)) else 0
 have hμ: ∀ s,(∃ n,I s n)->I s (μ s)/\ ∀ k,I s k->μ s<=k:=by
  intro s hh
  have e:μ s=Classical.choose (Tm _ (Classical.choose_spec hh)):=dif_pos hh
  rw[e]
  exact Classical.choose_spec (Tm _ (Classical.choose_spec hh))
 refine⟨fun s=> ∃ n,I s n,μ,⟨s,⟨s,.refl _,.inl rfl⟩,k,h⟩,fun s hI=>?_⟩
 have h2:=(hμ s hI).1
 generalize hm:μ s=m at h2
 cases m with
 |zero=>exact h2.elim
 |succ m =>
  have h3:aw P b (fun e s'=>match e with| .normal=>LoopN (aw P b) Q m s'|e=>Q e s') s:=h2
  refine oH ?_ h3
  intro e s' q
  cases e with
  |normal=>exact⟨s',⟨s',.refl _,.inl rfl⟩,⟨m,q⟩,by have:=(hμ s' ⟨m,q⟩).2 m q; omega⟩
  |exit j=>exact q
  |ret=>exact q
def azN(P:Program)(N pn:Nat)(b:iK)(Q:Qz):Nat->Fm->Hz->Nat->Prop
 |0,_,_,_=>False
 |k+1,m,h,nx=>az P N pn b (fun e m' h' nx'=>match e with| .normal=>azN P N pn b Q k m' h' nx'|e=>Q e m' h' nx') m h nx
theorem aF.times{N pn nx:Nat}{b:iK}{Q:Qz}{m:Fm}{h:Hz}(k:Nat)(hd:uz N b=true)(H:azN P N pn b Q k m h nx):aF P N pn b Q m h nx:=by
 refine⟨fun fr hl R=>zq.ofN (k:=k) ?_⟩
 have key: ∀ (k:Nat) {m:Fm} {h:Hz} {nx:Nat} {s:AS},s.fr.length=N->Rp m s.fr->s.hp=h.au->s.pin=pn->s.nx=nx->azN P N pn b Q k m h nx->LoopN (aw P b) (Lift N pn Q) k s:=by
  intro k
  induction k with
  |zero=>intro m h nx s _ _ _ _ _ H; exact H.elim
  |succ k ih =>
   intro m h nx s a1 a2 a3 a4 a5 H
   subst a5
   have:=tZ (P:=P) (N:=N) (pn:=pn) (s:=s) hd a1 a2 a3 a4 H
   show aw P b _ s
   refine oH ?_ this
   rintro e s' ⟨m',h',b1,b2,b3,b4,b5⟩
   cases e with
   |normal=>exact ih b1 b2 b3 b4 rfl b5
   |exit j=>exact⟨m',h',b1,b2,b3,b4,b5⟩
   |ret=>exact⟨m',h',b1,b2,b3,b4,b5⟩
 exact key k hl R rfl rfl rfl H
end
section
variable {P:Program}
theorem MF{Z:Nat->Prop}{h:Hp}{t u:T}: ∀ {fr:List T} {j:Nat},fr[j]? =some u->T.sub Z h t u->T.dG Z h (fr.set j t) fr
 |[],_,e,_=>by simp at e
 |a::r,0,e,q=>by
  simp only[List.getElem?_cons_zero,Option.some.injEq] at e; subst e
  exact⟨q,cO _⟩
 |a::r,j+1,e,q=>by
  simp only[List.getElem?_cons_succ] at e
  exact⟨aC _,MF e q⟩
theorem aF.fz{N pn nx:Nat}{b:iK}{Q:Qz}{m:Fm}{h:Hz}(d i k:Nat)(r:Rw)(hd:m.get d=some (.own i))(hN:Nat.blt d N=true)(hs:T.sub (fun j=>j=i) h.au (V.row k false r).aI (V.own i).aI)
  (H:aF P N pn b Q ((d,.row k false r)::m) ((i,none)::h) nx):aF P N pn b Q m h nx:=by
 refine⟨fun fr hl R=>?_⟩
 have hdl:d<fr.length:=by rw[hl]; exact Nat.blt_eq.mp hN
 have hget:fr[d]? =some (V.own i).aI:=R d _ hd
 have H':=H.ok (fr.set d (V.row k false r).aI) (by simpa using hl) (fun j v q=>by
  simp only[Fm.get] at q
  cases hb:Nat.beq d j with
  |true=>rw[hb] at q; cases q; rw[<- jQ hb]; simp[hdl]
  |false =>
   rw[hb] at q
   rw[List.getElem?_set_ne (Nat.ne_of_beq_eq_false hb)]; exact R j v q)
 obtain⟨I,μ,⟨s0,⟨s1,w1,w2⟩,i0⟩,round⟩:=H'
 have F:YN (fun j=>j=i) ⟨fr.set d (V.row k false r).aI,Hz.au ((i,none)::h),nx,pn⟩ ⟨fr,h.au,nx,pn⟩:=by
  refine⟨MF hget hs,fun j ob hj=>?_,rfl,rfl⟩
  have hne:j≠i:=by
   rintro rfl
   simp[Hz.au,Hz.get] at hj
  have hj':h.au j=some ob:=by
   have hb:Nat.beq i j=false:=by
    cases hb:Nat.beq i j with
    |false=>rfl
    |true=>exact absurd (Nat.eq_of_beq_eq_true hb).symm hne
   simp only[Hz.au,Hz.get,hb] at hj ⊢; exact hj
  exact⟨ob,hj',hne,rfl,rfl,cO _,rfl,rfl⟩
 exact⟨I,μ,⟨s0,⟨s1,w1.trans (.fz F (.refl _)),w2⟩,i0⟩,round⟩
end
section
variable {P:Program}
theorem lu{o:OV}(q:o.Gw=true)(ρ:Nat->Nat):o.aH.ren ρ=o.aH:=by
 have:=OV.yJ q ρ
 unfold Ob.ren
 rw[this]
theorem nP{j:Nat}{o:OV}{i:Nat}:Hz.au [(j,some o)] i=if i=j then some o.aH else none:=by
 simp only[Hz.au,Hz.get]
 cases hb:Nat.beq j i with
 |true=>rw[if_pos (jQ hb).symm]; rfl
 |false=>rw[if_neg (fun e=>Nat.ne_of_beq_eq_false hb e.symm)]; rfl
theorem cu{j i:Nat}{o:Option OV}{h:Hz}:Hz.au ((j,o)::h) i=if i=j then o.map OV.aH else h.au i:=by
 simp only[Hz.au,Hz.get]
 cases hb:Nat.beq j i with
 |true=>rw[if_pos (jQ hb).symm]; rfl
 |false=>rw[if_neg (fun e=>Nat.ne_of_beq_eq_false hb e.symm)]; rfl
theorem ah.IL{f:FuncId}{ts args:List V}{h:Hz}{i n:Nat}{o0:OV}{K:V->Hz->Prop}{KW:Nat->V->Hz->Prop}{post:T->Hp->Prop}(H:aU P f (V.aW ts) (Hz.au [(0,some o0)]) 1 post)
  (ha:T.dw (fun _=>i) (V.aW ts)=V.aW args) (hid:T.Ui 1 (V.aW ts)=true) (hg:o0.good 1=true) (hf:o0.Gw=true) (hi:h.get i=some o0) (hn:h.get n=none)
  (hK: ∀ t hp,post t hp->(∃ v o,hp=Hz.au [(0,some o)]/\o.Gw=true/\t.ren (nameAt (fun _=>i) 1 n)=v.aI/\K v ((i,some o)::h)) \/
   (∃ v o,hp=Hz.au [(1,some o)]/\o.Gw=true/\t.ren (nameAt (fun _=>i) 1 n)=v.aI/\K v ((n,some o)::(i,none)::h))):ah P false none f args h n K KW:=by
 have hin:i≠n:=by rintro rfl; rw[hi] at hn; cases hn
 have hl0: ∀ j:Nat,j<1->(Hz.au [(0,some o0)] j).isSome=true:=fun j hj=>by rw[nP,if_pos (by omega)]; rfl
 have hsome: ∀ j,(Hz.au [(0,some o0)] j).isSome=true->j=0:=fun j hj=>by
  rw[nP] at hj; split at hj
  ·assumption
  ·cases hj
 refine ah.heap (post:=fun t' h'=> ∃ t h1,post t h1/\t'=t.ren (nameAt (fun _=>i) 1 n)/\h'=placed (fun _=>i) 1 n (Hz.au [(0,some o0)]) h.au h1) ?_ ?_
 ·rw[<- ha]
  refine aU.place H (T.ay hl0 _ (AZ hid)) (fun j ob hj=>?_) (by rw[nP]; rfl) (fun j ob hj=>?_) (fun a b h1 h2 _=>by rw[hsome a h1,hsome b h2])
  ·rw[nP] at hj; split at hj
   ·cases hj
    have hz:T.aS (fun _=>False) o0.aH.l:=OV.yR hf
    exact⟨T.ay (fun _ h=>h.elim) _ hz,(OV.wH hg).2⟩
   ·cases hj
  ·rw[nP] at hj; split at hj
   ·cases hj
    rw[lu hf]; exact aJ hi
   ·cases hj
 ·rintro t' h' ⟨t,h1,hp,rfl,rfl⟩
  have inj: ∀ a b,((Hz.au [(0,some o0)] a).isSome=true\/a=1)->((Hz.au [(0,some o0)] b).isSome=true\/b=1)->nameAt (fun _=>i) 1 n a=nameAt (fun _=>i) 1 n b->a=b:=by
   intro a b ha hb e
   rcases ha with ha|rfl<;>rcases hb with hb|rfl
   ·rw[hsome a ha,hsome b hb]
   ·rw[hsome a ha] at e; exact absurd e hin
   ·rw[hsome b hb] at e; exact absurd e.symm hin
   ·rfl
  have at0: ∀ h1,placed (fun _=>i) 1 n (Hz.au [(0,some o0)]) h.au h1 i=(h1 0).map (Ob.ren (nameAt (fun _=>i) 1 n)):=fun h1=>mP (h:=h.au) (h1:=h1) inj (i:=0) (.inl (hl0 0 (by decide)))
  have at1: ∀ h1,placed (fun _=>i) 1 n (Hz.au [(0,some o0)]) h.au h1 n=(h1 1).map (Ob.ren (nameAt (fun _=>i) 1 n)):=fun h1=>mP (h:=h.au) (h1:=h1) inj (i:=1) (.inr rfl)
  have atO: ∀ h1 j,j≠i->j≠n->placed (fun _=>i) 1 n (Hz.au [(0,some o0)]) h.au h1 j=h.au j:=fun h1 j g1 g2=>yQ (by
   rintro⟨a,ha,e⟩
   rcases ha with ha|rfl
   ·rw[hsome a ha] at e; exact g1 e.symm
   ·exact g2 e.symm)
  rcases hK t h1 hp with ⟨v,o,rfl,ho,hv,hk⟩|⟨v,o,rfl,ho,hv,hk⟩
  ·refine⟨v,_,hv,?_,hk⟩
   funext j
   rw[cu]
   by_cases e1:j=i
   ·subst e1; rw[if_pos rfl,at0,nP,if_pos rfl,Option.map_some,lu ho]; rfl
   ·rw[if_neg e1]
    by_cases e2:j=n
    ·subst e2; rw[at1,nP,if_neg (by decide)]; simp only[Hz.au,hn]; rfl
    ·exact atO _ j e1 e2
  ·refine⟨v,_,hv,?_,hk⟩
   funext j
   rw[cu,cu]
   by_cases e2:j=n
   ·subst e2; rw[if_pos rfl,at1,nP,if_pos rfl,Option.map_some,lu ho]; rfl
   ·rw[if_neg e2]
    by_cases e1:j=i
    ·subst e1; rw[if_pos rfl,at0,nP,if_neg (by decide)]; rfl
    ·rw[if_neg e1]; exact atO _ j e1 e2
end
section
variable {P:Program}
def okR(ρ:Nat->Nat)(nx pn:Nat)(h:Hz):List (Nat×OV)->List Nat->Prop
 |[],[]=>True
 |(c,o)::r,n::s=>(Nat.blt c nx=true/\(Nat.blt c pn=true->n=c)/\Ij n s=true/\o.good nx=true /\
   ∃ o',h.get n=some o'/\o'.aH.ty=o.aH.ty/\o'.aH.k=o.aH.k/\bn (T.dw ρ o.aH.l) o'.aH.l)/\okR ρ nx pn h r s
 |_,_=>False
theorem Qm{ρ:Nat->Nat}{nx pn:Nat}{h:Hz}: ∀ {l:List (Nat×OV)} {s:List Nat},okR ρ nx pn h l s->hpL (Au l s)=(Ol l).au:=by
 intro l
 induction l with
 |nil=>intro s q; cases s with
  |nil=>rfl
  |cons _ _=>exact q.elim
 |cons p r ih =>
  obtain⟨c,o⟩:=p
  intro s q
  cases s with
  |nil=>exact q.elim
  |cons n s =>
   simp only[Au,hpL]
   have e:Ol ((c,o)::r)=(c,some o)::Ol r:=rfl
   rw[e,bK,ih q.2]; rfl
theorem Qn{nx pn:Nat}{h:Hz}{Z:Nat->Prop}{ρ:Nat->Nat}: ∀ {l:List (Nat×OV)} {s:List Nat},okR ρ nx pn h l s->okL Z ρ h.au nx pn (Au l s):=by
 intro l
 induction l with
 |nil=>intro s _; cases s<;>trivial
 |cons p r ih =>
  obtain⟨c,o⟩:=p
  intro s q
  cases s with
  |nil=>exact q.elim
  |cons n s =>
   obtain⟨⟨q1,q2,q3,q4,o',q6,q7,q8,q9⟩,q⟩:=q
   obtain⟨g1,g2⟩:=OV.wH q4
   refine⟨⟨Nat.blt_eq.mp q1,fun hc=>q2 (Nat.blt_eq.mpr hc),Ql q3,g1,g2,o'.aH.l,?_,?_⟩,ih q⟩
   ·have:=aJ q6
    show h.au n=some ⟨o.aH.ty,o.aH.k,o'.aH.l⟩
    rw[this,<- q7,<- q8]
   ·exact q9 _ _
structure aeD{ι:Type}(inv:ι->Prop)(μ:ι->Nat)(vars:ι->Fm)(objs:ι->List (Nat×OV))(base:Fm)(nx pn:Nat)(i:ι)(m:Fm)(h:Hz):Prop where
 ok: ∃ j nw,inv j/\μ j<μ i/\qh (qy (objs j) nw) m (vars j)/\qh (qy (objs j) nw) m base/\okR (qy (objs j) nw) nx pn h (objs j) nw
theorem aF.lY{N pn nx0:Nat}(nx:Nat){b:iK}{Q:Qz}{m:Fm}{h:Hz}{ι:Type}(live:List Nat)(vars:ι->Fm)(objs:ι->List (Nat×OV))(inv:ι->Prop)(μ:ι->Nat)(i0:ι)(QW:List Nat)(hd:uz N b=true)(hp:pn<=nx)(hv: ∀ i,Zq nx N (vars i)=true)(h0:inv i0)
  (he:qh (qy (objs i0) QW) m (vars i0)) (ho:okR (qy (objs i0) QW) nx pn h (objs i0) QW)
  (H:JK m live [] fun base=>qh (qy (objs i0) QW) m base/\Zq nx N base=true/\ ∀ i,inv i->az P N pn b (fun e m' h' n'=>match e with
   | .normal=>aeD inv μ vars objs base nx pn i m' h'
   |e=>Q e m' h' n') (vars i++base) (Ol (objs i)) nx):aF P N pn b Q m h nx0:=by
 obtain⟨base,⟨hbs,hb,H⟩,hbm⟩:=BA H (fun i v q=>by cases q)
 refine⟨fun fr hl R=>?_⟩
 have hall: ∀ i j v,Fm.get j (vars i++base)=some v->T.lt nx v.aI=true/\j<N:=fun i j v q=>by
  rcases get_append q with q|q
  ·exact wR (hv i) q
  ·exact wR hb q
 have wk: ∀ (i:ι) (nw:List Nat) (m':Fm) (h':Hz) (s':AS),s'.fr.length=N->Rp m' s'.fr->s'.hp=h'.au->s'.pin=pn->qh (qy (objs i) nw) m' (vars i)->qh (qy (objs i) nw) m' base->okR (qy (objs i) nw) nx pn h' (objs i) nw ->
   Wk ⟨wC N (vars i++base),(Ol (objs i)).au,nx,pn⟩ s':=by
  intro i nw m' h' s' a1 a2 a3 a4 a5 a6 a7
  obtain⟨fr',hp',nx',pn'⟩:=s'
  simp only at a1 a2 a3 a4
  subst a3; subst a4
  rw[<- Qm a7]
  have e:Du (Au (objs i) nw)=qy (objs i) nw:=funext fun _=>JM
  refine Wk.objs (Au (objs i) nw) (FY a1 a2 fun j v q=>?_) (EJ fun j v q=>(hall i j v q).1) hp (by rw[e]; exact Qn a7)
  rw[e]
  rcases get_append q with q|q
  ·exact uU a5 q
  ·exact uU a6 q
 refine zq.rule (fun i=>⟨wC N (vars i++base),(Ol (objs i)).au,nx,pn⟩) inv μ i0 h0 (wk i0 QW m h _ hl R rfl rfl he hbs ho) ?_
 intro i hi
 have:=tZ (P:=P) (N:=N) (pn:=pn) (s:=⟨wC N (vars i++base),(Ol (objs i)).au,nx,pn⟩) hd yA (EI fun j v q=>(hall i j v q).2) rfl rfl (H i hi)
 refine oH ?_ this
 rintro e s' ⟨m',h',a1,a2,a3,a4,a5⟩
 cases e with
 |normal =>
  obtain⟨j,nw,b1,b2,b3,b4,b5⟩:=a5.ok
  exact⟨j,⟨b1,b2⟩,wk j nw m' h' s' a1 a2 a3 a4 b3 b4 b5⟩
 |exit j=>exact⟨m',h',a1,a2,a3,a4,a5⟩
 |ret=>exact⟨m',h',a1,a2,a3,a4,a5⟩
end
section
variable {P:Program}
def JV(Z:Nat->Prop)(h:Hz):Hz->Prop
 |[]=>True
 |(_,none)::r=>JV Z h r
 |(i,some o)::r=>(∃ o',h.get i=some o'/\ ¬ Z i/\o'.aH.ty=o.aH.ty/\o'.aH.k=o.aH.k/\T.dG Z h.au o.aH.l o'.aH.l/\o.aH.l.map T.kd=o'.aH.l.map T.kd/\o.aH.l.map iq=o'.aH.l.map iq)/\JV Z h r
def Frz(h h2:Hz):Prop:= ∃ Z,JV Z h h2
theorem H6{Z:Nat->Prop}{h:Hz}: ∀ {h2:Hz},JV Z h h2-> ∀ {i:Nat} {o:OV},h2.get i=some o-> ∃ o',h.get i=some o'/\ ¬ Z i/\o'.aH.ty=o.aH.ty/\o'.aH.k=o.aH.k/\T.dG Z h.au o.aH.l o'.aH.l/\o.aH.l.map T.kd=o'.aH.l.map T.kd/\o.aH.l.map iq=o'.aH.l.map iq:=by
 intro h2
 induction h2 with
 |nil=>intro _ i o e; cases e
 |cons p r ih =>
  obtain⟨j,u⟩:=p
  intro hf i o e
  simp only[Hz.get] at e
  cases u with
  |none =>
   cases hb:Nat.beq j i with
   |true=>rw[hb] at e; cases e
   |false=>rw[hb] at e; exact ih hf e
  |some u =>
   cases hb:Nat.beq j i with
   |true=>rw[hb] at e; cases e; rw[<- jQ hb]; exact hf.1
   |false=>rw[hb] at e; exact ih hf.2 e
theorem Frz.wk{s _s1:AS}{fr:List T}{h h2:Hz}{nx pn:Nat}(f:Frz h h2)(w:Wk s ⟨fr,h2.au,nx,pn⟩):Wk s ⟨fr,h.au,nx,pn⟩:=by
 obtain⟨Z,f⟩:=f
 obtain⟨s1,w1,w2⟩:=w
 have F:YN Z ⟨fr,h2.au,nx,pn⟩ ⟨fr,h.au,nx,pn⟩:=by
  refine⟨cO _,fun i ob hi=>?_,rfl,rfl⟩
  simp only[Hz.au,Option.map_eq_some_iff] at hi
  obtain⟨o,e1,rfl⟩:=hi
  obtain⟨o',a1,a2,a3,a4,a5,a6,a7⟩:=H6 f e1
  exact⟨o'.aH,aJ a1,a2,a3,a4,a5,a6,a7⟩
 exact⟨s1,w1.trans (.fz F (.refl _)),w2⟩
structure aeE{ι:Type}(inv:ι->Prop)(μ:ι->Nat)(vars:ι->Fm)(objs:ι->List (Nat×OV))(base:Fm)(nx pn:Nat)(i:ι)(m:Fm)(h:Hz):Prop where
 ok: ∃ h2 j nw,Frz h h2/\inv j/\μ j<μ i/\qh (qy (objs j) nw) m (vars j)/\qh (qy (objs j) nw) m base/\okR (qy (objs j) nw) nx pn h2 (objs j) nw
theorem aF.OU{N pn nx0:Nat}(nx:Nat){b:iK}{Q:Qz}{m:Fm}{h:Hz}{ι:Type}(live:List Nat)(vars:ι->Fm)(objs:ι->List (Nat×OV))(inv:ι->Prop)(μ:ι->Nat)(i0:ι)(QW:List Nat)(h2:Hz)(hd:uz N b=true)(hp:pn<=nx)(hv: ∀ i,Zq nx N (vars i)=true)(h0:inv i0)
  (he:qh (qy (objs i0) QW) m (vars i0)) (hf:Frz h h2) (ho:okR (qy (objs i0) QW) nx pn h2 (objs i0) QW)
  (H:JK m live [] fun base=>qh (qy (objs i0) QW) m base/\Zq nx N base=true/\ ∀ i,inv i->az P N pn b (fun e m' h' n'=>match e with
   | .normal=>aeE inv μ vars objs base nx pn i m' h'
   |e=>Q e m' h' n') (vars i++base) (Ol (objs i)) nx):aF P N pn b Q m h nx0:=by
 obtain⟨base,⟨hbs,hb,H⟩,hbm⟩:=BA H (fun i v q=>by cases q)
 refine⟨fun fr hl R=>?_⟩
 have hall: ∀ i j v,Fm.get j (vars i++base)=some v->T.lt nx v.aI=true/\j<N:=fun i j v q=>by
  rcases get_append q with q|q
  ·exact wR (hv i) q
  ·exact wR hb q
 have wk: ∀ (i:ι) (nw:List Nat) (m':Fm) (h' h2':Hz) (s':AS),s'.fr.length=N->Rp m' s'.fr->s'.hp=h'.au->s'.pin=pn->Frz h' h2'->qh (qy (objs i) nw) m' (vars i)->qh (qy (objs i) nw) m' base->okR (qy (objs i) nw) nx pn h2' (objs i) nw ->
   Wk ⟨wC N (vars i++base),(Ol (objs i)).au,nx,pn⟩ s':=by
  intro i nw m' h' h2' s' a1 a2 a3 a4 af a5 a6 a7
  obtain⟨fr',hp',nx',pn'⟩:=s'
  simp only at a1 a2 a3 a4
  subst a3; subst a4
  refine af.wk (_s1:=⟨fr',h2'.au,nx',pn'⟩) ?_
  rw[<- Qm a7]
  have e:Du (Au (objs i) nw)=qy (objs i) nw:=funext fun _=>JM
  refine Wk.objs (Au (objs i) nw) (FY a1 a2 fun j v q=>?_) (EJ fun j v q=>(hall i j v q).1) hp (by rw[e]; exact Qn a7)
  rw[e]
  rcases get_append q with q|q
  ·exact uU a5 q
  ·exact uU a6 q
 refine zq.rule (fun i=>⟨wC N (vars i++base),(Ol (objs i)).au,nx,pn⟩) inv μ i0 h0 (wk i0 QW m h h2 _ hl R rfl rfl hf he hbs ho) ?_
 intro i hi
 have:=tZ (P:=P) (N:=N) (pn:=pn) (s:=⟨wC N (vars i++base),(Ol (objs i)).au,nx,pn⟩) hd yA (EI fun j v q=>(hall i j v q).2) rfl rfl (H i hi)
 refine oH ?_ this
 rintro e s' ⟨m',h',a1,a2,a3,a4,a5⟩
 cases e with
 |normal =>
  obtain⟨h2',j,nw,bf,b1,b2,b3,b4,b5⟩:=a5.ok
  exact⟨j,⟨b1,b2⟩,wk j nw m' h' h2' s' a1 a2 a3 a4 bf b3 b4 b5⟩
 |exit j=>exact⟨m',h',a1,a2,a3,a4,a5⟩
 |ret=>exact⟨m',h',a1,a2,a3,a4,a5⟩
theorem dW{Z:Nat->Prop}{h:Hz}{i:Nat}{o:OV}(e:h.get i=some o)(hz: ¬ Z i): ∃ o',h.get i=some o'/\ ¬ Z i/\o'.aH.ty=o.aH.ty/\o'.aH.k=o.aH.k/\T.dG Z h.au o.aH.l o'.aH.l/\o.aH.l.map T.kd=o'.aH.l.map T.kd/\o.aH.l.map iq=o'.aH.l.map iq :=
 ⟨o,e,hz,rfl,rfl,cO _,rfl,rfl⟩
end
section
variable {P:Program}
theorem Gh{t:T}(q:t.free=true)(ρ:Nat->Nat):t.ren ρ=t:=by
 have:T.dw ρ [t]=[t]:=uK _ ⟨iF q,trivial⟩
 simpa [T.dw] using this
theorem jH.Xt{h0 h h2:Hz}{n:Nat}{post:T->Hp->Prop}{v u:V}(Z:Nat->Prop)(F:JV Z h h2)(hg: ∀ i o,h2.get i=some o->(h0.au i).isSome=true/\T.aS (fun i=>(h0.au i).isSome=true) o.aH.l/\UK o.aH.k o.aH.l=true)
  (hu:u.free=true) (hv:T.sub Z h.au u.aI v.aI) (hp:post u.aI h2.au):jH h0 n post v h:=by
 have hx: ∀ i ob,h2.au i=some ob-> ∃ o,h2.get i=some o/\o.aH=ob:=fun i ob hi=>by
  simp only[Hz.au,Option.map_eq_some_iff] at hi
  obtain⟨o,e1,e2⟩:=hi
  exact⟨o,e1,e2⟩
 have hfr:T.ids (fun _=>False) u.aI:=iF (V.kX u hu)
 refine⟨Z,id,u.aI,h2.au,hp,by rw[JD]; exact hv,fun i ob hi=>?_,fun i j _ _ e=>e,T.bV (fun _ h=>h.elim) _ hfr,fun i ob hi=>?_,fun _ _ _=>rfl⟩
 ·obtain⟨o,e1,rfl⟩:=hx i ob hi
  obtain⟨o',a1,a2,a3,a4,a5,_,_⟩:=H6 F e1
  exact⟨o'.aH,aJ a1,a2,a3,a4,by rw[MO]; exact a5,wZ (hg i o e1).2.2⟩
 ·obtain⟨o,e1,rfl⟩:=hx i ob hi
  exact⟨.inl (hg i o e1).1,T.ay (fun _ h=>.inl h) _ (hg i o e1).2.1⟩
theorem ah.acg{f:FuncId}{ts args:List V}{h:Hz}{i j n:Nat}{o0 X9 o1:OV}{K:V->Hz->Prop}{KW:Nat->V->Hz->Prop}{post:T->Hp->Prop}(H:aU P f (V.aW ts) (Hz.au [(0,some o0),(1,some o1)]) 2 post)
  (ha:T.dw (fun a=>bif Nat.beq a 0 then i else j) (V.aW ts)=V.aW args) (hid:T.Ui 2 (V.aW ts)=true) (hg:xO 2 [(0,some o0),(1,some o1)]=true) (hf:o1.Gw=true)
  (h0:o0.aH.ren (fun a=>bif Nat.beq a 0 then i else j)=X9.aH) (hi:h.get i=some X9) (hj:h.get j=some o1) (hij:i≠j) (hn:h.get n=none) (hin:n≠i) (hjn:n≠j)
  (hK: ∀ t hp,post t hp-> ∃ v o,hp=Hz.au [(0,some o0),(1,some o)]/\o.Gw=true/\t=v.aI/\v.free=true/\K v ((j,some o)::h)):ah P false none f args h n K KW:=by
 have hG:=qR hg
 have hlt: ∀ a:Nat,a<2->(Hz.au [(0,some o0),(1,some o1)] a).isSome=true:=fun a ha=>by
  rw[cu,nP]; by_cases e:a=0
  ·rw[if_pos e]; rfl
  ·rw[if_neg e,if_pos (by omega)]; rfl
 have hsome: ∀ a,(Hz.au [(0,some o0),(1,some o1)] a).isSome=true->a=0\/a=1:=fun a ha=>by
  rw[cu,nP] at ha; split at ha
  ·left; assumption
  ·split at ha
   ·right; assumption
   ·cases ha
 let ρ:Nat->Nat:=fun a=>bif Nat.beq a 0 then i else j
 have r0:ρ 0=i:=rfl
 have r1:ρ 1=j:=rfl
 have n0:nameAt ρ 2 n 0=i:=rfl
 have n1:nameAt ρ 2 n 1=j:=rfl
 have n2:nameAt ρ 2 n 2=n:=rfl
 have Yf: ∀ a b,(Hz.au [(0,some o0),(1,some o1)] a).isSome=true->(Hz.au [(0,some o0),(1,some o1)] b).isSome=true->ρ a=ρ b->a=b:=by
  intro a b ha hb e
  rcases hsome a ha with rfl|rfl<;>rcases hsome b hb with rfl|rfl
  ·rfl
  ·exact absurd e hij
  ·exact absurd e.symm hij
  ·rfl
 have inj: ∀ a b,((Hz.au [(0,some o0),(1,some o1)] a).isSome=true\/a=2)->((Hz.au [(0,some o0),(1,some o1)] b).isSome=true\/b=2)->nameAt ρ 2 n a=nameAt ρ 2 n b->a=b:=by
  intro a b ha hb e
  rcases ha with ha|rfl
  ·rcases hb with hb|rfl
   ·rcases hsome a ha with rfl|rfl<;>rcases hsome b hb with rfl|rfl
    ·rfl
    ·exact absurd e hij
    ·exact absurd e.symm hij
    ·rfl
   ·rcases hsome a ha with rfl|rfl
    ·exact absurd e.symm hin
    ·exact absurd e.symm hjn
  ·rcases hb with hb|rfl
   ·rcases hsome b hb with rfl|rfl
    ·exact absurd e hin
    ·exact absurd e hjn
   ·rfl
 refine ah.heap (post:=fun t' h'=> ∃ t h1,post t h1/\t'=t.ren (nameAt ρ 2 n)/\h'=placed ρ 2 n (Hz.au [(0,some o0),(1,some o1)]) h.au h1) ?_ ?_
 ·rw[<- ha]
  refine aU.place H (T.ay hlt _ (AZ hid)) (fun a ob hob=>?_) (by rw[cu,nP]; rfl) (fun a ob hob=>?_) Yf
  ·exact⟨T.ay hlt _ (hG a ob hob).2.1,(hG a ob hob).2.2⟩
  ·have hs:(Hz.au [(0,some o0),(1,some o1)] a).isSome=true:=by rw[hob]; rfl
   rcases hsome a hs with rfl|rfl
   ·rw[cu,if_pos rfl] at hob; cases hob
    show h.au i=_
    rw[aJ hi]; exact congrArg some h0.symm
   ·rw[cu,nP,if_neg (by decide),if_pos rfl] at hob; cases hob
    show h.au j=_
    rw[aJ hj,lu hf]
 ·rintro t' h' ⟨t,h1,hp,rfl,rfl⟩
  obtain⟨v,o,rfl,ho,rfl,hvf,hk⟩:=hK t h1 hp
  refine⟨v,_,Gh (V.kX v hvf) _,?_,hk⟩
  funext a
  rw[cu]
  have at0:placed ρ 2 n (Hz.au [(0,some o0),(1,some o1)]) h.au (Hz.au [(0,some o0),(1,some o)]) i=(Hz.au [(0,some o0),(1,some o)] 0).map (Ob.ren (nameAt ρ 2 n)):=mP (h:=h.au) (h1:=Hz.au [(0,some o0),(1,some o)]) inj (i:=0) (.inl (hlt 0 (by decide)))
  have at1:placed ρ 2 n (Hz.au [(0,some o0),(1,some o1)]) h.au (Hz.au [(0,some o0),(1,some o)]) j=(Hz.au [(0,some o0),(1,some o)] 1).map (Ob.ren (nameAt ρ 2 n)):=mP (h:=h.au) (h1:=Hz.au [(0,some o0),(1,some o)]) inj (i:=1) (.inl (hlt 1 (by decide)))
  have at2:placed ρ 2 n (Hz.au [(0,some o0),(1,some o1)]) h.au (Hz.au [(0,some o0),(1,some o)]) n=(Hz.au [(0,some o0),(1,some o)] 2).map (Ob.ren (nameAt ρ 2 n)):=mP (h:=h.au) (h1:=Hz.au [(0,some o0),(1,some o)]) inj (i:=2) (.inr rfl)
  by_cases e1:a=j
  ·subst e1; rw[if_pos rfl,at1,cu,nP,if_neg (by decide),if_pos rfl,Option.map_some,lu ho]; rfl
  ·rw[if_neg e1]
   by_cases e0:a=i
   ·subst e0
    rw[at0,cu,if_pos rfl,aJ hi,<- h0]
    refine congrArg some ?_
    have hc:T.dw (nameAt ρ 2 n) o0.aH.l=T.dw ρ o0.aH.l:=sJ (M:=(· <2)) (fun b hb=>if_neg (by omega)) _ (hG 0 o0.aH (by rw[cu,if_pos rfl]; rfl)).2.1
    unfold Ob.ren
    rw[hc]
   ·by_cases e2:a=n
    ·subst e2; rw[at2,cu,nP,if_neg (by decide),if_neg (by decide)]; simp only[Hz.au,hn]; rfl
    ·exact yQ (by
      rintro⟨b,hb,e⟩
      rcases hb with hb|rfl
      ·rcases hsome b hb with rfl|rfl
       ·exact e0 e.symm
       ·exact e1 e.symm
      ·exact e2 e.symm)
theorem ah.new2{f:FuncId}{args:List V}{h:Hz}{n:Nat}{_v:V}{o0 X9 o1:OV}{K:V->Hz->Prop}{KW:Nat->V->Hz->Prop}(H:kJ P f (V.aW args) (Hz.au []) 0 1 fun t hp=>t= .ptr 0 0 0/\hp=Hz.au [(0,some o0),(1,some o1)])
  (ha:V.dD args=true) (hf:o1.Gw=true) (h0:o0.aH.ren (fun a=>n+a)=X9.aH) (hi0:T.aS (· <2) o0.aH.l) (hn: ∀ m,n<=m->h.get m=none) (hK:KW 1 (.ptr n 0 0) ((n,some X9)::(n+1,some o1)::h)):ah P false none f args h n K KW:=by
 have hz:T.dw (fun a=>a) (V.aW args)=V.aW args:=uK _ (dA (V.gW _ ha))
 have e0:(Hz.au [])=(no:Hp):=rfl
 have hp:=kJ.place H (ρ:=fun a=>a) (h:=h.au) (n:=n) (T.ay (fun _ h=>h.elim) _ (dA (V.gW _ ha))) (fun i ob hi=>by cases hi) (fun i hi=>by cases hi) (fun i ob hi=>by cases hi) (fun i j hi=>by cases hi)
 rw[hz] at hp
 refine⟨.inr (.inl ⟨rfl,rfl,1,hp.mono ?_⟩)⟩
 rintro t' h' ⟨t,h1,⟨rfl,rfl⟩,rfl,rfl⟩
 refine⟨.ptr n 0 0,_,?_,?_,hK⟩
 ·show T.ptr (Cj (fun a=>a) 0 1 n 0) 0 0=T.ptr n 0 0
  rw[show Cj (fun a=>a) 0 1 n 0=n+(0-0) from if_pos (by omega)]; rfl
 ·have nk: ∀ a,a<=1->Cj (fun a=>a) 0 1 n a=n+a:=fun a ha=>by
   rw[show Cj (fun a=>a) 0 1 n a=n+(a-0) from if_pos (by omega)]; rfl
  have inj: ∀ a b,(((Hz.au []) a).isSome=true\/(0<=a/\a<=0+1))->(((Hz.au []) b).isSome=true\/(0<=b/\b<=0+1))->Cj (fun a=>a) 0 1 n a=Cj (fun a=>a) 0 1 n b->a=b:=by
   intro a b ha hb e
   rcases ha with ha|ha
   ·cases ha
   rcases hb with hb|hb
   ·cases hb
   rw[nk a (by omega),nk b (by omega)] at e; omega
  funext a
  rw[cu,cu]
  by_cases c0:a=n
  ·subst c0
   rw[if_pos rfl]
   have:=y5 (h:=h.au) (h1:=Hz.au [(0,some o0),(1,some o1)]) inj (i:=0) (.inr (by omega))
   rw[nk 0 (by omega)] at this
   refine Eq.trans this ?_
   rw[cu,if_pos rfl,Option.map_some,Option.map_some,Option.map_some,<- h0]
   refine congrArg some ?_
   unfold Ob.ren
   rw[sJ (M:=(· <2)) (fun b hb=>nk b (by omega)) _ hi0]
  ·rw[if_neg c0]
   by_cases c1:a=n+1
   ·subst c1
    rw[if_pos rfl]
    have:=y5 (h:=h.au) (h1:=Hz.au [(0,some o0),(1,some o1)]) inj (i:=1) (.inr (by omega))
    rw[nk 1 (by omega)] at this
    refine Eq.trans this ?_
    rw[cu,nP,if_neg (by decide),if_pos rfl,Option.map_some,lu hf]; rfl
   ·rw[if_neg c1]
    exact Ak (by
     rintro⟨b,hb,e⟩
     rcases hb with hb|hb
     ·cases hb
     rw[nk b (by omega)] at e; omega)
structure abQ(o0 o1:OV)(v:V)(h:Hz):Prop where
 ok: ∃ a b X9,v= .ptr a 0 0/\a≠b/\h.get a=some X9/\o0.aH.ren (fun i=>bif Nat.beq i 0 then a else b)=X9.aH/\h.get b=some o1
def adu(o0 o1:OV)(rs:List RV):Qz
 | .exit _,_,_,_=>False
 |_,m,h,_=>match resV m h rs with
  |some v=>v.seq fun v=>abQ o0 o1 v h
  |none=>False
theorem ab9.of{f:FuncId}{ac:iK}{rs:List RV}{nt:Nat}{args:List V}{o0 o1:OV}(B:Body P f ac rs nt)(hn:args.length<=nt)(ha:V.dD args=true)(hg:xO 2 [(0,some o0),(1,some o1)]=true)(hf:o1.Gw=true)
  (H:az P nt 0 ac (adu o0 o1 rs) (Dy 0 args) [] 0):kJ P f (V.aW args) (Hz.au []) 0 1 fun t hp=>t= .ptr 0 0 0/\hp=Hz.au [(0,some o0),(1,some o1)]:=by
 obtain⟨fn,c,h1,h2,h3,h4,h5⟩:=B.ex
 have hG:=qR hg
 refine kJ.Bl (nx:=0) h1 h2 h3 h4 B.cl h5 ⟨_,_,rfl,rfl⟩ (T.ay (fun _ h=>h.elim) _ (dA (V.gW _ ha))) (fun i ob hi=>by cases hi) ?_
 have:=tZ (P:=P) (N:=nt) (pn:=0) (s:=⟨V.aW args++List.replicate (nt-(V.aW args).length) T.un,(Hz.au []),0,0⟩) B.dst (by simp[jh]; omega) Dz rfl rfl H
 refine oH ?_ this
 rintro e s ⟨m,h,a1,a2,a3,a4,a5⟩
 have key: ∀ {m h},Rp m s.fr->s.hp=Hz.au h->(match resV m h rs with|some v=>v.seq fun v=>abQ o0 o1 v h|none=>False)-> ∃ s1,Jg s1 s/\aaT (Hz.au []) (fun i=>0<=i/\i<=0+1) (fun t hp=>t= .ptr 0 0 0/\hp=Hz.au [(0,some o0),(1,some o1)]) rs s1:=by
  intro m h a2 a3 q
  split at q
  ·rename_i v hv
   rw[V.seq_eq] at q
   obtain⟨b1,b2⟩:=NY a2 a3 hv
   obtain⟨a,b,X9,rfl,hab,q0,e0,q1⟩:=q.ok
   have hx: ∀ i ob,Hz.au [(0,some o0),(1,some o1)] i=some ob->(i=0/\ob=o0.aH)\/(i=1/\ob=o1.aH):=fun i ob hi=>by
    rw[cu,nP] at hi; split at hi
    ·left; cases hi; exact⟨by assumption,rfl⟩
    ·split at hi
     ·right; cases hi; exact⟨by assumption,rfl⟩
     ·cases hi
   refine⟨s,.refl _,b1,fun _=>False,fun i=>bif Nat.beq i 0 then a else b,.ptr 0 0 0,Hz.au [(0,some o0),(1,some o1)],⟨rfl,rfl⟩,by rw[b2]; exact aC _,fun i ob hi=>?_,fun i j hi hj e=>?_,?_,fun i ob hi=>?_,fun i hi=>by cases hi⟩
   ·rw[a3]
    rcases hx i ob hi with ⟨rfl,rfl⟩|⟨rfl,rfl⟩
    ·refine⟨X9.aH,aJ q0,fun h=>h,by rw[<- e0]; rfl,by rw[<- e0]; rfl,?_,wZ (hG 0 o0.aH (by rw[cu,if_pos rfl]; rfl)).2.2⟩
     rw[<- e0]; exact cO _
    ·refine⟨o1.aH,aJ q1,fun h=>h,rfl,rfl,?_,wZ (hG 1 o1.aH (by rw[cu,nP,if_neg (by decide),if_pos rfl])).2.2⟩
     rw[OV.yJ hf]; exact cO _
   ·obtain⟨oi,hi⟩:=Option.isSome_iff_exists.1 hi
    obtain⟨oj,hj⟩:=Option.isSome_iff_exists.1 hj
    rcases hx i oi hi with ⟨rfl,_⟩|⟨rfl,_⟩<;>rcases hx j oj hj with ⟨rfl,_⟩|⟨rfl,_⟩
    ·rfl
    ·exact absurd e hab
    ·exact absurd e.symm hab
    ·rfl
   ·exact .inr ⟨by decide,by decide⟩
   ·have hw: ∀ k:Nat,k<2->((Hz.au []:Hp) k).isSome=true\/(0<=k/\k<=0+1):=fun k hk=>.inr (by omega)
    have:=hG i ob hi
    exact⟨hw i this.1,T.ay hw _ this.2.1⟩
  ·exact q.elim
 cases e with
 |exit j=>exact a5.elim
 |normal=>exact key a2 a3 a5
 |ret=>exact key a2 a3 a5
end
section
variable {P:Program} {H:Type} {enc:TypeId×Value->H}
inductive Sh where
 |int
 |u64
 |str
 |bool
 |sl (k:Nat) (s:Sh)
 |st (l:List Sh)
mutual
def Sh.cells:Sh->Nat
 | .st l=>Sh.xk l
 |_=>1
def Sh.xk:List Sh->Nat
 |[]=>0
 |s::l=>s.cells+Sh.xk l
end
def Sh.kd:Sh->Nat
 | .st l=>Sh.xk l+1
 |_=>0
mutual
def Sh.fits(P:Program):Sh->TypeId->Bool
 | .int,t=>match P.underlying t with|some (.int .i64)=>true|_=>false
 | .u64,t=>match P.underlying t with|some (.int .u64)=>true|_=>false
 | .str,t=>match P.underlying t with|some .string=>true|_=>false
 | .bool,t=>match P.underlying t with|some .bool=>true|_=>false
 | .sl k s,t=>match P.underlying t with
  |some (.slice e)=>s.fits P e&&Nat.beq s.kd k&&Nat.beq (P.cellsOf e) s.cells&&Nat.blt 0 s.cells
  |_=>false
 | .st l,t=>match P.underlying t with
  |some (.struct fs)=>Sh.MG P l fs.toList 0&&Nat.beq (P.cellsOf t) (Sh.xk l)
  |_=>false
def Sh.MG(P:Program):List Sh->List Field->Nat->Bool
 |[],[],_=>true
 |s::l,f::fs,off=>s.fits P f.type&&Nat.beq f.offset off&&Nat.beq (P.cellsOf f.type) s.cells&&Sh.MG P l fs (off+s.cells)
 |_,_,_=>false
end
mutual
def Sh.aI:Sh->DataW H->T
 | .int,.lit (.int _ n)=>.int n
 | .u64,.lit (.int _ n)=>.lit (.int .u64 n)
 | .str,.lit (.string l)=>.lit (.string ⟨l.toArray⟩)
 | .bool,.lit (.bool b)=>.bool b
 | .sl k s,.slice es _=>.sl k false (es.map s.aI)
 | .sl k _,.nil=>.sl k false []
 | .st l,.agg ds=>.agg (Sh.Aw l ds)
 |_,_=>.any
def Sh.Aw:List Sh->List (DataW H)->List T
 |s::l,d::ds=>(s.aI d).cells++Sh.Aw l ds
 |_,_=>[]
end
def U0(v:Value):Prop:= ∀ n,v≠ .int .u8 n
mutual
def Sh.wf:Sh->DataW H->Prop
 | .int,d=> ∃ n,d= .lit (.int .i64 n)/\(Lit.int .i64 n).wf=true
 | .u64,d=> ∃ n,d= .lit (.int .u64 n)/\(Lit.int .u64 n).wf=true
 | .str,d=> ∃ l,d= .lit (.string l)
 | .bool,d=> ∃ b,d= .lit (.bool b)
 | .sl _ s,d=>d= .nil\/ ∃ es sp,d= .slice es sp/\ ∀ x∈es,s.wf x
 | .st l,d=> ∃ ds,d= .agg ds/\Sh.NZ l ds
def Sh.NZ:List Sh->List (DataW H)->Prop
 |[],ds=>ds=[]
 |s::l,ds=> ∃ d r,ds=d::r/\s.wf d/\Sh.NZ l r
end
structure Rd(E:Env)(s:Sh)(d:DataW H)(cs:List Value):Prop where
 rep:aK E (s.aI d) cs
 len:cs.length=s.cells
 one: ∀ v∈cs,v.oneCell'=true
 u8: ∀ v∈cs,U0 v
 free:(s.aI d).free=true
 kd:(s.aI d).kd=s.kd
 wf:s.wf d
structure RdL(E:Env)(l:List Sh)(ds:List (DataW H))(cs:List Value):Prop where
 rep:bD E (Sh.Aw l ds) cs
 len:cs.length=Sh.xk l
 one: ∀ v∈cs,v.oneCell'=true
 u8: ∀ v∈cs,U0 v
 free:T.dD (Sh.Aw l ds)=true
 cnt:(Sh.Aw l ds).length=Sh.xk l
 wf:Sh.NZ l ds
theorem TG{E:Env}{k:Nat}: ∀ {l:List T} {vs:List Value},l.length*bJ k<=vs.length->(∀ j t,l[j]? =some t->t.kd=k/\(∀ v∈(vs.drop (j*bJ k)).take (bJ k),v.oneCell'=true)/\aK E t ((vs.drop (j*bJ k)).take (bJ k)))->aG E k l vs:=by
 intro l
 induction l with
 |nil=>intro vs _ _; trivial
 |cons t ts ih =>
  intro vs hl H
  simp only[List.length_cons,Nat.add_mul,Nat.one_mul] at hl
  obtain⟨h1,h2,h3⟩:=H 0 t rfl
  simp only[Nat.zero_mul,List.drop_zero] at h2 h3
  refine⟨h1,by omega,h2,h3,ih (by simp; omega) fun j u hj=>?_⟩
  have:=H (j+1) u (by simpa using hj)
  rw[List.drop_drop]
  rw[Nat.add_mul,Nat.one_mul,Nat.add_comm (j*bJ k)] at this
  exact this
theorem WZ{E:Env}: ∀ {a b:List T} {x y:List Value},bD E a x->bD E b y->bD E (a++b) (x++y):=by
 intro a
 induction a with
 |nil=>intro b x y h1 h2; simp only[bD] at h1; subst h1; exact h2
 |cons t a ih =>
  intro b x y h1 h2
  simp only[bD] at h1
  obtain⟨hk,v,r,rfl,h3,h4,h5⟩:=h1
  simp only[List.cons_append,bD]
  exact⟨hk,v,r++y,rfl,h3,h4,ih h5 h2⟩
theorem W9{a b:List T}(ha:T.dD a=true)(hb:T.dD b=true):T.dD (a++b)=true:=by
 rw[gu] at *
 intro t ht
 rcases List.mem_append.1 ht with h|h
 ·exact ha t h
 ·exact hb t h
theorem Qo{E:Env}{t:T}{cs:List Value}(h:aK E t cs)(hl:t.kd=0->cs.length=1)(h1: ∀ v∈cs,v.oneCell'=true):bD E t.cells cs:=by
 have other: ∀ t:T,t.cells=[t]->t.kd=0->aK E t cs->(t.kd=0->cs.length=1)->bD E t.cells cs:=by
  intro t e k h hl
  rw[e]
  have:=hl k
  match cs,this with
  |[v],_=>simp only[bD]; exact⟨k,v,[],rfl,h1 v (by simp),h,rfl⟩
 cases t with
 |agg l=>simp only[aK] at h; exact h
 |_=>exact other _ rfl rfl h hl
theorem TI{t:T}(h:t.free=true):T.dD t.cells=true:=by
 cases t with
 |agg l=>exact h
 |_=>simp only[T.cells,T.dD,Bool.and_true]; exact h
theorem Xa{t:T}:t.cells.length=bJ t.kd:=by
 cases t with
 |agg l=>rfl
 |_=>rfl
theorem Sh.nU(s:Sh):bJ s.kd=s.cells:=by
 cases s<;>rfl
theorem cell?_at{w:World}{a:Addr}{v:Value}(h:w.cell? a=some v): ∃ cur ty m,w.heap[a.block]? =some (.cells cur ty m)/\a.spot=none/\cur.toList[a.off]? =some v:=by
 unfold World.cell? at h
 split at h
 ·rename_i c t f e
  split at h
  ·cases h
  ·rename_i hs
   exact⟨c,t,f,e,by simpa using hs,by simpa using h⟩
 ·cases h
theorem MH{w:World}{base:Nat}{a:Addr}{n:Nat}{cs:List Value}(h:w.cells? base a n=some cs)(hn:0<n): ∃ cur ty m,w.heap[a.block]? =some (.cells cur ty m)/\a.spot=none/\cs=(cur.toList.drop a.off).take n:=by
 obtain⟨_,hl,hc⟩:=World.cells?_some h
 have h0:=hc 0 hn
 have e0:a.add 0=a:=by simp[Addr.add]
 rw[e0,List.getElem?_eq_getElem (by omega)] at h0
 obtain⟨cur,ty,m,h1,h2,_⟩:=cell?_at h0
 refine⟨cur,ty,m,h1,h2,?_⟩
 have key: ∀ j,j<n->cur.toList[a.off+j]? =cs[j]? :=by
  intro j hj
  have:=hc j hj
  rw[List.getElem?_eq_getElem (by omega)] at this
  obtain⟨cur',ty',m',g1,g2,g3⟩:=cell?_at this
  have eb:(a.add j).block=a.block:=by unfold Addr.add; split<;>rfl
  have eo:(a.add j).off=a.off+j:=by
   obtain⟨b,o,sp⟩:=a
   simp only at h2; subst h2
   rw[Go.WideShapes.add_plain]
  rw[eb,h1] at g1
  cases g1
  rw[eo] at g3
  rw[g3,List.getElem?_eq_getElem (by omega)]
 apply List.ext_getElem?
 intro j
 by_cases hj:j<n
 ·rw[List.getElem?_take,if_pos hj,List.getElem?_drop,key j hj]
 ·rw[List.getElem?_eq_none (by omega),List.getElem?_eq_none (by simp; omega)]
def EK(E:Env):Prop:= ∀ b cur ty m,E.w.heap[b]? =some (.cells cur ty m)->(∃ v∈cur.toList,U0 v)->E.S b
theorem Zt{E:Env}{s:Sh}{k:Nat}{base:Nat}{spare:Nat->Bool}{held:Bool}(hS:EK E){t e:TypeId}(ht:P.underlying t=some (.slice e))(hk:s.kd=k)(hce:P.cellsOf e=s.cells)(hpos:0<s.cells)
  (ih: ∀ (n:Nat) (cs:List Value) (d:DataW H) (ps:List MemPlace),DataW.trod enc P E.w base spare held n e cs=some (d,ps)->Rd E s d cs)
  {n:Nat} {cs:List Value} {d:DataW H} {ps:List MemPlace} (h:DataW.trod enc P E.w base spare held n t cs=some (d,ps)):Rd E (.sl k s) d cs:=by
 rcases DataW.trod_slice ht h with ⟨rfl,hx⟩|⟨a,len,cap,elems,rest,m,_,rfl,hx,hb,hl,hm,hlen,hel,_,_⟩
 ·cases hx
  refine⟨?_,rfl,(fun v hv=>by rw[List.mem_singleton] at hv; subst hv; rfl),(fun v hv=>by rw[List.mem_singleton] at hv; subst hv; intro n e; cases e),rfl,rfl,.inl rfl⟩
  simp only[Sh.aI,aK]
  exact⟨none,0,rfl,Nat.le_refl _,nofun,.inl trivial⟩
 ·cases hx
  have hlen':(elems.map (·.1)).length=len:=by simpa using hlen
  refine⟨?_,rfl,(fun v hv=>by rw[List.mem_singleton] at hv; subst hv; rfl),(fun v hv=>by rw[List.mem_singleton] at hv; subst hv; intro n e; cases e),rfl,rfl,.inr ⟨_,_,rfl,fun x hx=>?_⟩⟩
  rotate_left
  ·obtain⟨y,hy,rfl⟩:=List.mem_map.1 hx
   obtain⟨i,hi,rfl⟩:=List.getElem_of_mem hy
   have:=hel i (by omega)
   rw[List.getElem?_eq_getElem hi] at this
   obtain⟨cs',_,h2⟩:=Option.bind_eq_some_iff.1 this
   exact(ih _ _ _ _ h2).wf
  simp only[Sh.aI,aK,List.length_map]
  refine⟨some a,cap,by rw[hlen],by omega,nofun,?_⟩
  by_cases h0:len=0
  ·left
   have:elems=[]:=List.length_eq_zero_iff.1 (by omega)
   rw[this]; rfl
  ·right
   have get: ∀ i,i<len-> ∃ cs',E.w.cells? base (a.add (i*s.cells)) s.cells=some cs'/\ ∃ x,elems[i]? =some x/\Rd E s x.1 cs':=by
    intro i hi
    have:=hel i hi
    rw[hce,List.getElem?_eq_getElem (by omega)] at this
    obtain⟨cs',h1,h2⟩:=Option.bind_eq_some_iff.1 this
    exact⟨cs',h1,elems[i],List.getElem?_eq_getElem (by omega),ih _ _ _ _ h2⟩
   obtain⟨cs0,c1,x0,_,r0⟩:=get 0 (by omega)
   obtain⟨cur,ty,mm,g1,g2,g3⟩:=MH c1 hpos
   have ea:a.add (0*s.cells)=a:=by simp[Addr.add]
   rw[ea] at g1 g2 g3
   obtain⟨b,off,sp⟩:=a
   simp only at g1 g2 g3
   subst g2
   have hsub: ∀ i,i<len-> ∃ x,elems[i]? =some x/\Rd E s x.1 ((cur.toList.drop (off+i*s.cells)).take s.cells):=by
    intro i hi
    obtain⟨cs',q1,x,q2,q3⟩:=get i hi
    obtain⟨cur',ty',m',k1,k2,k3⟩:=MH q1 hpos
    rw[Go.WideShapes.add_plain] at k1 k3
    simp only at k1 k3
    rw[g1] at k1; cases k1
    rw[k3] at q3
    exact⟨x,q2,q3⟩
   have hcur:len*s.cells<=(cur.toList.drop off).length:=by
    obtain⟨x,_,q⟩:=hsub (len-1) (by omega)
    have:=q.len
    rw[List.length_take,List.length_drop] at this
    rw[List.length_drop]
    have e:len*s.cells=(len-1)*s.cells+s.cells:=by
     conv=>lhs; rw[show len=(len-1)+1 by omega,Nat.add_mul,Nat.one_mul]
    omega
   refine⟨b,off,cur,ty,mm,rfl,hS b cur ty mm g1 ?_,g1,?_,?_⟩
   ·have hl0:=r0.len
    match hcs:cs0,hl0 with
    |[],hl0=>simp at hl0; omega
    |v::r,_ =>
     refine⟨v,?_,r0.u8 v (by simp)⟩
     have:v∈(cur.toList.drop off).take s.cells:=by rw[<- g3]; simp
     exact List.mem_of_mem_drop (List.mem_of_mem_take this)
   ·rw[dF]
    intro t ht
    rw[List.mem_map] at ht
    obtain⟨d,hd,rfl⟩:=ht
    rw[List.mem_map] at hd
    obtain⟨x,hx,rfl⟩:=hd
    obtain⟨i,hi,rfl⟩:=List.getElem_of_mem hx
    obtain⟨x',q1,q2⟩:=hsub i (by omega)
    rw[List.getElem?_eq_getElem hi] at q1
    cases q1
    exact iF q2.free
   ·refine TG (by rw[List.length_map,List.length_map,hlen,<- hk,Sh.nU]; exact hcur) fun j t hj=>?_
    rw[<- hk,Sh.nU]
    have hjl:j<len:=by
     rcases Nat.lt_or_ge j len with h|h
     ·exact h
     ·rw[List.getElem?_eq_none (by simp; omega)] at hj; cases hj
    obtain⟨x,q1,q2⟩:=hsub j hjl
    rw[List.getElem?_map,List.getElem?_map,q1] at hj
    simp only[Option.map_some,Option.some.injEq] at hj
    subst hj
    rw[List.drop_drop]
    exact⟨q2.kd,q2.one,q2.rep⟩
mutual
theorem Sh.read{E:Env}{base:Nat}{spare:Nat->Bool}{held:Bool}(hS:EK E):(s:Sh)->(t:TypeId)->s.fits P t=true->(n:Nat)->(cs:List Value)->(d:DataW H)->(ps:List MemPlace) ->
  DataW.trod enc P E.w base spare held n t cs=some (d,ps)->Rd E s d cs
 | .int,t,hf,n,cs,d,ps,h=>by
  simp only[Sh.fits] at hf
  split at hf
  ·rename_i e
   obtain⟨z,rfl,hx,hwf⟩:=DataW.trod_int e h
   cases hx
   refine⟨by simp[Sh.aI,aK],rfl,(fun v hv=>by rw[List.mem_singleton] at hv; subst hv; rfl),(fun v hv=>by rw[List.mem_singleton] at hv; subst hv; intro n e; cases e),rfl,rfl,⟨z,rfl,hwf⟩⟩
  ·cases hf
 | .u64,t,hf,n,cs,d,ps,h=>by
  simp only[Sh.fits] at hf
  split at hf
  ·rename_i e
   obtain⟨z,rfl,hx,hwf⟩:=DataW.trod_int e h
   cases hx
   refine⟨by simp[Sh.aI,aK],rfl,(fun v hv=>by rw[List.mem_singleton] at hv; subst hv; rfl),(fun v hv=>by rw[List.mem_singleton] at hv; subst hv; intro n e; cases e),rfl,rfl,⟨z,rfl,hwf⟩⟩
  ·cases hf
 | .str,t,hf,n,cs,d,ps,h=>by
  simp only[Sh.fits] at hf
  split at hf
  ·rename_i e
   obtain⟨z,rfl,hx,_⟩:=DataW.trod_string e h
   cases hx
   refine⟨by simp[Sh.aI,aK],rfl,(fun v hv=>by rw[List.mem_singleton] at hv; subst hv; rfl),(fun v hv=>by rw[List.mem_singleton] at hv; subst hv; intro n e; cases e),rfl,rfl,⟨_,rfl⟩⟩
  ·cases hf
 | .bool,t,hf,n,cs,d,ps,h=>by
  simp only[Sh.fits] at hf
  split at hf
  ·rename_i e
   obtain⟨z,rfl,hx⟩:=DataW.trod_bool e h
   cases hx
   refine⟨by simp[Sh.aI,aK],rfl,(fun v hv=>by rw[List.mem_singleton] at hv; subst hv; rfl),(fun v hv=>by rw[List.mem_singleton] at hv; subst hv; intro n e; cases e),rfl,rfl,⟨_,rfl⟩⟩
  ·cases hf
 | .sl k s,t,hf,n,cs,d,ps,h=>by
  simp only[Sh.fits] at hf
  split at hf
  ·rename_i e he
   simp only[Bool.and_eq_true] at hf
   obtain⟨⟨⟨f1,f2⟩,f3⟩,f4⟩:=hf
   exact Zt hS he (Nat.eq_of_beq_eq_true f2) (Nat.eq_of_beq_eq_true f3) (Nat.blt_eq.mp f4) (Sh.read hS s e f1) h
  ·cases hf
 | .st l,t,hf,n,cs,d,ps,h=>by
  simp only[Sh.fits] at hf
  split at hf
  ·rename_i fs he
   simp only[Bool.and_eq_true] at hf
   obtain⟨xs,m,_,hx,hlen,hxl,hg⟩:=DataW.trod_struct he h
   cases hx
   have hct:=Nat.eq_of_beq_eq_true hf.2
   have R:=Sh.abR hS l fs.toList 0 hf.1 m cs xs (by simpa using hxl) (fun i f hi=>by
    have:=hg i f (by simpa using hi)
    rw[<- this]) (by rw[hlen,hct]; simp)
   simp only[List.drop_zero] at R
   refine⟨by simp only[Sh.aI,aK]; exact R.rep,by rw[hlen,hct]; rfl,R.one,R.u8,R.free,?_,⟨_,rfl,R.wf⟩⟩
   show(Sh.Aw l _).length+1=Sh.xk l+1
   rw[R.cnt]
  ·cases hf
theorem Sh.abR{E:Env}{base:Nat}{spare:Nat->Bool}{held:Bool}(hS:EK E):(l:List Sh)->(fs:List Field)->(off:Nat)->Sh.MG P l fs off=true->(n:Nat)->(cs:List Value)->(xs:List (DataW H×List MemPlace))->xs.length=fs.length ->
  (∀ (i:Nat) (f:Field),fs[i]? =some f->DataW.trod enc P E.w base spare held n f.type ((cs.drop f.offset).take (P.cellsOf f.type))=xs[i]?)->cs.length=off+Sh.xk l->RdL E l (xs.map (·.1)) (cs.drop off)
 |[],[],off,hf,n,cs,xs,hl,hx,hc=>by
  have:xs=[]:=List.length_eq_zero_iff.1 (by simpa using hl)
  subst this
  have:cs.drop off=[]:=List.drop_eq_nil_of_le (by rw[hc]; simp[Sh.xk])
  rw[this]
  exact⟨rfl,rfl,(fun v hv=>by cases hv),(fun v hv=>by cases hv),rfl,rfl,rfl⟩
 |s::l,f::fs,off,hf,n,cs,xs,hl,hx,hc=>by
  simp only[Sh.MG,Bool.and_eq_true] at hf
  obtain⟨⟨⟨f1,f2⟩,f3⟩,f4⟩:=hf
  have e2:=Nat.eq_of_beq_eq_true f2
  have e3:=Nat.eq_of_beq_eq_true f3
  match xs,hl with
  |x::xs,hl =>
   have h0:=hx 0 f rfl
   rw[e2,e3] at h0
   have R0:=Sh.read hS s f.type f1 n _ x.1 x.2 h0
   simp only[Sh.xk] at hc
   have R1:=Sh.abR hS l fs (off+s.cells) f4 n cs xs (by simpa using hl) (fun i g hi=>by
    have:=hx (i+1) g (by simpa using hi)
    simpa using this) (by omega)
   have e:cs.drop off=(cs.drop off).take s.cells++cs.drop (off+s.cells):=by
    rw[<- List.drop_drop,List.take_append_drop]
   rw[e]
   have h1:(s.aI x.1).kd=0->((cs.drop off).take s.cells).length=1:=by
    intro hk
    rw[R0.len,<- Sh.nU,<- R0.kd,hk]; rfl
   refine⟨?_,?_,?_,?_,?_,?_,⟨_,_,rfl,R0.wf,R1.wf⟩⟩
   ·simp only[List.map_cons,Sh.Aw]
    exact WZ (Qo R0.rep h1 R0.one) R1.rep
   ·rw[List.length_append,R0.len,R1.len]; rfl
   ·intro v hv
    rcases List.mem_append.1 hv with h|h
    ·exact R0.one v h
    ·exact R1.one v h
   ·intro v hv
    rcases List.mem_append.1 hv with h|h
    ·exact R0.u8 v h
    ·exact R1.u8 v h
   ·simp only[List.map_cons,Sh.Aw]
    exact W9 (TI R0.free) R1.free
   ·simp only[List.map_cons,Sh.Aw,List.length_append,Xa,R0.kd,Sh.nU,R1.cnt]; rfl
 |[],_::_,_,hf,_,_,_,_,_,_=>by simp[Sh.MG] at hf
 |_::_,[],_,hf,_,_,_,_,_,_=>by simp[Sh.MG] at hf
end
end
open Go.ChangeShapes Go.WideShapes Go.RowKit
section
variable {P:Program} {H:Type} {enc:TypeId×Value->H}
theorem MI{W:World}(h:Lib.TabIs P W "strings.asciiSpace" .u8 Lib.asciiSpaceTab): ∀ g cs,xg P g=some cs-> ∃ ty m,W.heap[g]? =some (.cells cs ty m):=by
 intro g cs hg
 unfold xg at hg
 split at hg
 ·rename_i e
  cases hg
  unfold Lib.TabIs World.var? at h
  rw[e] at h
  simp only[Option.bind_some] at h
  split at h
  ·rename_i c ty m hc
   cases h
   exact⟨ty,m,hc⟩
  ·cases h
 ·cases hg
def Zu(P:Program)(W:World):Env:=⟨W,fun g=>g<W.heap.size/\xg P g=none,fun _=>.nilFunc,fun _=>0,no⟩
def adv(P:Program):Fr P:=⟨fun g=>(xg P g).isSome=true⟩
theorem Zv{g:Nat}{cs:Array Value}(h:xg P g=some cs): ∀ v∈cs.toList,¬ U0 v:=by
 unfold xg at h
 split at h
 ·cases h
  intro v hv hn
  simp only[List.mem_map] at hv
  obtain⟨z,_,rfl⟩:=hv
  exact hn z rfl
 ·cases h
theorem abj{W:World}(hgl: ∀ g cs,xg P g=some cs-> ∃ ty m,W.heap[g]? =some (.cells cs ty m)):EK (Zu P W):=by
 intro b cur ty m hb hv
 refine⟨(Array.getElem?_eq_some_iff.1 hb).1,?_⟩
 cases hg:xg P b with
 |none=>rfl
 |some cs =>
  obtain⟨ty',m',h⟩:=hgl b cs hg
  rw[show W.heap[b]? =_ from hb] at h
  cases h
  obtain⟨v,hv1,hv2⟩:=hv
  exact absurd hv2 (Zv hg v hv1)
theorem Zw{W:World}(hgl: ∀ g cs,xg P g=some cs-> ∃ ty m,W.heap[g]? =some (.cells cs ty m)):uD (adv P) (Zu P W):=by
 refine⟨(fun i ob hi=>by cases hi),(fun i ob g hi=>by cases hi),(fun i j oi oj g _ hi=>by cases hi),fun g hg=>hg.1,fun g hg=>?_,fun g hs hg=>?_,fun g cs hg=>⟨?_,hgl g cs hg⟩⟩
 ·obtain⟨cs,hc⟩:=Option.isSome_iff_exists.1 hg
  obtain⟨ty,m,h⟩:=hgl g cs hc
  exact(Array.getElem?_eq_some_iff.1 h).1
 ·have h1:=hs.2
  have h2:(xg P g).isSome=true:=hg
  rw[h1] at h2; cases h2
 ·show(xg P g).isSome=true
  rw[hg]; rfl
def Sh.args:List Sh->List (DataW H)->List T
 |s::l,d::ds=>s.aI d::Sh.args l ds
 |_,_=>[]
def Sh.Qp(P:Program):List Sh->List TypeId->Bool
 |[],[]=>true
 |s::l,t::ts=>s.fits P t&&Sh.Qp P l ts
 |_,_=>false
theorem abk{E:Env}{s:Sh}{t:TypeId}{d:DataW H}{v:Value}{W:World}{base:Nat}(hf:s.fits P t=true)(R:Rd E s d v.cells.toList)(hok:Value.okWide P W .any base t v):jG E (s.aI d) v:=by
 cases s with
 |st l =>
  simp only[Sh.fits] at hf
  split at hf
  ·rename_i fs he
   obtain⟨cs,rfl,_⟩:=okWide_struct he hok
   refine .inl ⟨by rw[R.kd]; exact Nat.succ_ne_zero _,cs,rfl,R.rep⟩
  ·cases hf
 |int =>
  simp only[Sh.fits] at hf
  split at hf
  ·rename_i he
   obtain⟨n,rfl⟩:=okWide_int he hok
   exact .inr ⟨R.kd,R.rep⟩
  ·cases hf
 |u64 =>
  simp only[Sh.fits] at hf
  split at hf
  ·rename_i he
   obtain⟨n,rfl⟩:=okWide_int he hok
   exact .inr ⟨R.kd,R.rep⟩
  ·cases hf
 |str =>
  simp only[Sh.fits] at hf
  split at hf
  ·rename_i he
   obtain⟨n,rfl⟩:=okWide_string he hok
   exact .inr ⟨R.kd,R.rep⟩
  ·cases hf
 |bool =>
  simp only[Sh.fits] at hf
  split at hf
  ·rename_i he
   obtain⟨n,rfl⟩:=okWide_bool he hok
   exact .inr ⟨R.kd,R.rep⟩
  ·cases hf
 |sl k s =>
  simp only[Sh.fits] at hf
  split at hf
  ·rename_i e he
   obtain⟨a,len,cap,rfl⟩:=okWide_slice he hok
   exact .inr ⟨R.kd,R.rep⟩
  ·cases hf
theorem Zx{E:Env}{base:Nat}{spare:Nat->Bool}{held:Bool}{b2:Nat}(hS:EK E): ∀ {Qq:List Sh} {ts:List TypeId} {vs:List Value} {ds:List (DataW H)} {ps:List MemPlace},Sh.Qp P Qq ts=true->DataW.TrodAll enc P E.w base spare held ts vs ds ps ->
  (∀ (j:Nat) (t:TypeId) (v:Value),ts[j]? =some t->vs[j]? =some v->Value.okWide P E.w .any b2 t v)->bM E (Sh.args Qq ds) vs/\T.dD (Sh.args Qq ds)=true/\Sh.NZ Qq ds:=by
 intro Qq
 induction Qq with
 |nil =>
  intro ts vs ds ps hf hA hok
  cases ts with
  |nil =>
   match vs,ds,hA with
   |[],[],_=>exact⟨rfl,rfl,rfl⟩
  |cons t ts=>cases hf
 |cons s Qq ih =>
  intro ts vs ds ps hf hA hok
  cases ts with
  |nil=>cases hf
  |cons t ts =>
   match vs,ds,hA with
   |v::vs,d::ds,⟨p,q,⟨n,h1⟩,h2,_⟩ =>
    simp only[Sh.Qp,Bool.and_eq_true] at hf
    have R:=Sh.read hS s t hf.1 n _ d p h1
    obtain⟨i1,i2,i3⟩:=ih hf.2 h2 fun j t' v' a b=>hok (j+1) t' v' (by simpa using a) (by simpa using b)
    refine⟨?_,?_,⟨d,ds,rfl,R.wf,i3⟩⟩
    ·simp only[Sh.args,bP]
     exact⟨v,vs,rfl,abk hf.1 R (hok 0 t v rfl rfl),i1⟩
    ·simp only[Sh.args,T.dD,Bool.and_eq_true]
     exact⟨R.free,i2⟩
theorem Xb{W:World}(hgl: ∀ g cs,xg P g=some cs-> ∃ ty m,W.heap[g]? =some (.cells cs ty m)){f:FuncId}{Qq:List Sh}{ts:List TypeId}{args:Array Value}{ds:List (DataW H)}{ps:List MemPlace}{b2:Nat}{u:Value}
  (hf:Sh.Qp P Qq ts=true) (hA:DataW.TrodAll enc P W 0 (fun _=>true) true ts args.toList ds ps) (hok: ∀ (j:Nat) (t:TypeId) (v:Value),ts[j]? =some t->args[j]? =some v->Value.okWide P W .any b2 t v)
  (S:Sh.NZ Qq ds->wO P f (Sh.args Qq ds) (.lit u)):Calls P f args W fun e W'=>e= .returned u/\Below W.heap.size W W':=by
 obtain⟨hr,hfr,hwf⟩:=Zx (E:=Zu P W) (abj hgl) hf hA (fun j t v a b=>hok j t v a (by simpa using b))
 obtain⟨_,_,hcall⟩:=(S hwf).call 0
 have:=hcall (adv P) (fun _=>False) (Zu P W) args.toList (Zw hgl) rfl hr (dA hfr) (Dq _) (fun h=>h)
 refine this.mono ?_
 rintro e w' ⟨v,t,E2,rfl,rfl,⟨rfl,_⟩,hv,_,hext,_⟩
 refine⟨by rw[aN.1 hv],hext.os,hext.tape,hext.output,hext.size,fun g hg=>hext.w g ?_⟩
 cases hq:xg P g with
 |none=>exact .inl ⟨hg,hq⟩
 |some cs=>right; show(xg P g).isSome=true; rw[hq]; rfl
theorem KA(hl:laidOutB P=true){W W':World}(hb:Below W.heap.size W W'){sp:Nat->Bool}: ∀ {ts:List TypeId} {vs:List Value} {ds:List (DataW H)} {ps:List MemPlace},(∀ t∈ts,P.readableRec t=true/\t<P.types.size) ->
  DataW.TrodAll enc P W 0 (fun _=>true) true ts vs ds ps->(∀ x∈ps,x.block<W.heap.size)->(∀ x∈ps,sp x.block=true)->DataW.TrodAll enc P W' 0 sp true ts vs ds ps:=by
 intro ts
 induction ts with
 |nil =>
  intro vs ds ps _ h _ _
  match vs,ds,h with
  |[],[],h=>exact h
 |cons t ts ih =>
  intro vs ds ps hr h hlt hsp
  match vs,ds,h with
  |v::vs,d::ds,⟨p,q,h1,h2,e⟩ =>
   subst e
   refine⟨p,q,?_,ih (fun t ht=>hr t (by simp[ht])) h2 (fun x hx=>hlt x (by simp[hx])) (fun x hx=>hsp x (by simp[hx])),rfl⟩
   obtain⟨r1,r2⟩:=hr t (by simp)
   exact WideElems.Trod_stays hl r1 r2 h1 (fun x hx=>hb.same (hlt x (by simp[hx]))) (fun x hx=>hsp x (by simp[hx]))
theorem Qr{W:World}(hgl: ∀ g cs,xg P g=some cs-> ∃ ty m,W.heap[g]? =some (.cells cs ty m)){f:FuncId}{fn:Func}{s:ChangeSpec}{Qq:List Sh}{args:Array Value}{ds gs:List (DataW H)}{before:List MemPlace}{b2:Nat}{tb:TypeId}
  (hl:laidOutB P=true) (hrd: ∀ t∈fn.params.toList,P.readableRec t=true/\t<P.types.size) (hvars:s.vars=[]) (hres:fn.resultTypes= #[tb]) (htb:P.underlying tb=some .bool)
  (hspec:s.fn H ds= {results:=[.lit (.bool true)],args:=ds})
  (hf:Sh.Qp P Qq fn.params.toList=true) (hval: ∀ (j:Nat) (t:TypeId) (v:Value),fn.params[j]? =some t->args[j]? =some v->Value.okWide P W .any b2 t v)
  (hW:DataW.Whole enc P fn.params.toList s.vars false W args.toList ds gs before) (S:Sh.NZ Qq ds->wO P f (Sh.args Qq ds) (.bool true)) :
  Calls P f args W fun e W'=> ∃ v,e= .returned v/\s.post enc P fn false true false false W args v W':=by
 have hW':=hW
 obtain⟨p,q,hA,hV,hpq,hfz,hnd⟩:=hW
 have hV0:gs=[]/\q=[]:=by
  rw[hvars] at hV
  cases gs with
  |nil=>exact⟨rfl,hV⟩
  |cons _ _=>exact hV.elim
 obtain⟨rfl,rfl⟩:=hV0
 subst hpq
 refine(Xb hgl hf hA (fun j t v a b=>hval j t v (by simpa using a) b) S).mono ?_
 rintro e W' ⟨rfl,hb⟩
 have hlt: ∀ x∈p,x.block<W.heap.size:=fun x hx=>by simpa using hW'.lt x (by simp[hx])
 refine⟨_,rfl,?_⟩
 have hold: ∀ x∈p,(fun b=>decide (b<W.heap.size)) x.block=true:=fun x hx=>by simpa using hlt x hx
 refine⟨ds,[],p++[],[],p,[],hW',?_,?_,?_,World.keptBut_mono (fun x hx=>⟨by simpa using hx,?_⟩) (hb.frame (· ∈p)),fun h=>by cases h⟩
 ·rw[List.append_nil,hspec,hres]
  exact trodAll_mk1 (shut_bool htb true)
 ·rw[List.append_nil,hspec]
  exact KA hl hb hrd hA hlt hold
 ·rw[List.append_nil,hspec,hvars]; rfl
 ·right; simpa using hx
end
end Go.Ab
