/-
 The typed layer, part 9: contracts of functions; loops.
-/
import Derived.Defers
import Derived.Deep.Slices
import Derived.Carry
import Derived.RowKit
import Derived.Stop.LaidErr
import Derived.Deep.DeepHandedRow
import Derived.Deep.DeepWitnessRowRef
import Derived.Lib.LaidTab
import Derived.Test.YtbigdcimbhgjbaaGreatDoorLf
import Derived.Test.YtbigdcimbhgjbaaGreatDoorLd
import Derived.Test.YtbigdcimbhgjbaaGreatDoorLe
namespace Go.Ab
section
variable {P:Program}
structure Body(P:Program)(f:FuncId)(ac:fO)(rs:List RV)(nt:Nat):Prop where
 ex: ∃ fn c,P.funcs[f]? =some fn/\fn.body=some c/\comp P c=some ac/\lH P fn.results.toList=some rs/\fn.ntmps=nt
 cl:callable P f
 dst:qQ nt ac=true
def XV(m:Fm)(h:Hz):RV->Option V
 | .slot t=>m.get t
 | .cell a k=>match m.get a with
  |some v=>match ldZ h k v with|some (u,.no)=>some u|_=>none
  |none=>none
def SQ(m:Fm)(h:Hz):List RV->Option (List V)
 |[]=>some []
 |r::rs=>match XV m h r,SQ m h rs with
  |some v,some l=>some (v::l)
  |_,_=>none
def resV(m:Fm)(h:Hz)(rs:List RV):Option V :=
 match SQ m h rs with
 |some [v]=>some v
 |some l=>some (.fH l)
 |none=>none
theorem XW{m:Fm}{h:Hz}{s:AS}(R:Rp m s.fr)(hh:s.hp=h.aj){r:RV}{v:V}(q:XV m h r=some v):r.ok s/\r.val s=v.aI:=by
 cases r with
 |slot t=>exact⟨trivial,R.getD q⟩
 |cell a k =>
  simp only[XV] at q
  split at q
  ·rename_i u hu
   split at q
   ·rename_i w hw
    cases q
    have:=QV (x:=.t a) hh hw trivial (R.ev (x:=.t a) hu)
    exact this
   ·cases q
  ·cases q
theorem OD{m:Fm}{h:Hz}{s:AS}(R:Rp m s.fr)(hh:s.hp=h.aj): ∀ {rs:List RV} {l:List V},SQ m h rs=some l->DF s rs/\rs.map (RV.val s)=V.aX l:=by
 intro rs
 induction rs with
 |nil=>intro l q; cases q; exact⟨trivial,rfl⟩
 |cons r rs ih =>
  intro l q
  simp only[SQ] at q
  split at q
  ·rename_i v l' h1 h2
   cases q
   obtain⟨a1,a2⟩:=XW R hh h1
   obtain⟨b1,b2⟩:=ih h2
   exact⟨⟨a1,b1⟩,by simp only[List.map_cons,V.aX]; rw[a2,b2]⟩
  ·cases q
theorem Me{m:Fm}{h:Hz}{s:AS}(R:Rp m s.fr)(hh:s.hp=h.aj){rs:List RV}{v:V}(q:resV m h rs=some v):DF s rs/\resT s rs=v.aI:=by
 unfold resV at q
 split at q
 ·rename_i u e
  cases q
  obtain⟨a,b⟩:=OD R hh e
  refine⟨a,?_⟩
  cases rs with
  |nil=>simp[V.aX] at b
  |cons r rs =>
   cases rs with
   |nil=>simp only[List.map_cons,List.map_nil,V.aX,List.cons.injEq,and_true] at b; exact b
   |cons r' rs=>simp[V.aX] at b
 ·rename_i l hne e
  cases q
  obtain⟨a,b⟩:=OD R hh e
  refine⟨a,?_⟩
  match rs,b,e with
  |[],b,_=>simp only[resT,V.aI]; rw[b]
  |[r],b,e =>
   cases l with
   |nil=>simp[V.aX] at b
   |cons u l =>
    cases l with
    |nil=>exact absurd rfl (hne u)
    |cons w l=>simp[V.aX] at b
  |r::r'::rs,b,_=>simp only[resT,V.aI]; rw[b]
 ·cases q
structure au(res v:V)(h:Hz):Prop where
 ok:T.sub (fun _=>True) h.aj res.aI v.aI
def adl(rs:List RV)(res:V):Qz
 | .exit _,_,_,_=>False
 |_,m,h,_=>match resV m h rs with
  |some v=>v.seq fun v=>au res v h
  |none=>False
def BP:Nat->List V->Fm
 |_,[]=>[]
 |i,v::r=>(i,v)::BP (i+1) r
theorem QZ: ∀ {l:List V} {i j:Nat} {v:V},(BP i l).get j=some v-> ∃ k,j=i+k/\l[k]? =some v:=by
 intro l
 induction l with
 |nil=>intro i j v q; cases q
 |cons u r ih =>
  intro i j v q
  simp only[BP,Fm.get] at q
  cases hb:Nat.beq i j with
  |true=>rw[hb] at q; cases q; exact⟨0,(gB hb).symm,rfl⟩
  |false =>
   rw[hb] at q
   obtain⟨k,e1,e2⟩:=ih q
   exact⟨k+1,by omega,by simpa using e2⟩
theorem BQ{l:List V}{n:Nat}:Rp (BP 0 l) (V.aX l++List.replicate n T.un):=by
 intro i v q
 obtain⟨k,e1,e2⟩:=QZ q
 have e:i=k:=by omega
 subst e
 have hk:i<l.length:=(List.getElem?_eq_some_iff.1 e2).1
 rw[List.getElem?_append_left (by rw[dR]; exact hk),jM,List.getElem?_map,e2]
 rfl
theorem ZR:(no:Hp)=Hz.aj []:=rfl
@[reducible] def ak(P:Program)(f:FuncId)(args:List V)(res:V):Prop:=qO P f (V.aX args) res.aI
theorem ak.of{f:FuncId}{ac:fO}{rs:List RV}{nt:Nat}{args:List V}{res:V}(B:Body P f ac rs nt)(hn:args.length<=nt)(hf:V.bZ args=true)(hr:res.free=true)(H:az P nt 0 ac (adl rs res) (BP 0 args) [] 0):ak P f args res:=by
 obtain⟨fn,c,h1,h2,h3,h4,h5⟩:=B.ex
 have Dl:res.aI.ids (fun _=>False):=fZ (V.lI res hr)
 refine wF.Ae (o:=none) h1 h2 h3 h4 B.cl h5 (V.gJ args hf) (fun _ _=>XB _ Dl) (fun _=>T.bG (fun _ h=>h.elim) _ Dl) (fun _ h=>by cases h) ?_
 have:=sJ (P:=P) (N:=nt) (pn:=0) (s:=⟨V.aX args++List.replicate (nt-(V.aX args).length) T.un,no,0,0⟩) B.dst (by simp[dR]; omega) BQ ZR rfl H
 refine nM ?_ this
 rintro e s ⟨m,h,a1,a2,a3,a4,a5⟩
 have key: ∀ {m h},Rp m s.fr->s.hp=Hz.aj h->(match resV m h rs with|some v=>v.seq fun v=>au res v h|none=>False)->DF s rs/\T.sub (fun _=>True) s.hp res.aI (resT s rs):=by
  intro m h a2 a3 q
  split at q
  ·rename_i v hv
   rw[V.seq_eq] at q
   obtain⟨b1,b2⟩:=Me a2 a3 hv
   exact⟨b1,by rw[b2,a3]; exact q.ok⟩
  ·exact q.elim
 cases e with
 |exit j=>exact a5.elim
 |normal=>exact key a2 a3 a5
 |ret=>exact key a2 a3 a5
theorem au.int{a b:Int}{h:Hz}(e:a=b):au (.int a) (.int b) h:=⟨by subst e; exact aB _⟩
theorem au.bool{a b:Bool}{h:Hz}(e:a=b):au (.bool a) (.bool b) h:=⟨by subst e; exact aB _⟩
theorem au.str{a b:Str}{h:Hz}(e:a=b):au (.str a) (.str b) h:=⟨by subst e; exact aB _⟩
theorem au.row{a b:Rw}{k:Nat}{f:Bool}{h:Hz}(e:a=b):au (.row k false a) (.row k f b) h:=⟨by
 subst e; simp only[V.aI,T.sub]; exact⟨.inl trivial,.inl trivial,fun h=>by cases h⟩⟩
theorem ah.pure{dr:Bool}{f:FuncId}{args:List V}{res:V}{h:Hz}{n:Nat}{K:V->Hz->Prop}{KW:Nat->V->Hz->Prop}(S:ak P f args res)(hr:res.free=true)(hK:K res h):ah P dr none f args h n K KW :=
 ⟨.inl (wF.use S (cO _) ⟨res,h,rfl,rfl,fun _=>⟨rfl,V.lI res hr⟩,hK⟩)⟩
theorem ah.iD{dr:Bool}{b:Bool}{f:FuncId}{args:List V}{res:V}{h:Hz}{n:Nat}{K:V->Hz->Prop}{KW:Nat->V->Hz->Prop}(S:b=true->ak P f args res)(hr:res.free=true)(hK:K res h):ah P dr (some b) f args h n K KW :=
 ⟨.inl (.inl ⟨res,fun e=>wF.use (S e) (cO _) ⟨rfl,rfl⟩,hr,hK⟩)⟩
theorem Nv.pure{f:FuncId}{args:List V}{res:V}{h:Hz}{n:Nat}{K:V->Hz->Prop}(S:ak P f args res)(hr:res.free=true)(hK:K res h):Nv P f args h n K :=
 ⟨res,none,T.bG (fun _ h=>h.elim) _ (fZ (V.lI res hr)),(fun _ h=>by cases h),fun hp _=>(wF.frame S hp n),hK⟩
def IQ(m:Fm):List Nat->Fm->(Fm->Prop)->Prop
 |[],acc,K=>K acc
 |d::r,acc,K=>match m.get d with
  |some v=>v.seq fun v=>IQ m r ((d,v)::acc) K
  |none=>False
theorem Ah{m:Fm}: ∀ {l:List Nat} {acc:Fm} {K:Fm->Prop},IQ m l acc K->(∀ i v,acc.get i=some v->m.get i=some v)-> ∃ b,K b/\ ∀ i v,Fm.get i b=some v->m.get i=some v:=by
 intro l
 induction l with
 |nil=>intro acc K q ha; exact⟨acc,q,ha⟩
 |cons d r ih =>
  intro acc K q ha
  simp only[IQ] at q
  split at q
  ·rename_i v hv
   rw[V.seq_eq] at q
   refine ih q ?_
   intro i u hu
   simp only[Fm.get] at hu
   cases hb:Nat.beq d i with
   |true=>rw[hb] at hu; cases hu; rw[<- gB hb]; exact hv
   |false=>rw[hb] at hu; exact ha i u hu
  ·exact q.elim
def Ku(m':Fm):Fm->Prop
 |[]=>True
 |p::r=>(∃ v,m'.get p.1=some v/\p.2.aI=v.aI)/\Ku m' r
theorem Kv{m':Fm}: ∀ {m0:Fm},Ku m' m0-> ∀ {i:Nat} {v:V},m0.get i=some v-> ∃ u,m'.get i=some u/\v.aI=u.aI:=by
 intro m0
 induction m0 with
 |nil=>intro _ i v q; cases q
 |cons p r ih =>
  intro hs i v q
  simp only[Fm.get] at q
  cases hb:Nat.beq p.1 i with
  |true=>rw[hb] at q; cases q; rw[<- gB hb]; exact hs.1
  |false=>rw[hb] at q; exact ih hs.2 q
def XY(nx N:Nat):Fm->Bool
 |[]=>true
 |p::r=>T.lt nx p.2.aI&&Nat.blt p.1 N&&XY nx N r
theorem wB{nx N:Nat}: ∀ {m:Fm},XY nx N m=true-> ∀ {i:Nat} {v:V},m.get i=some v->T.lt nx v.aI=true/\i<N:=by
 intro m
 induction m with
 |nil=>intro _ i v q; cases q
 |cons p r ih =>
  intro hs i v q
  simp only[XY,Bool.and_eq_true] at hs
  simp only[Fm.get] at q
  cases hb:Nat.beq p.1 i with
  |true=>rw[hb] at q; cases q; exact⟨hs.1.1,by rw[<- gB hb]; simpa using hs.1.2⟩
  |false=>rw[hb] at q; exact ih hs.2 q
def vO(N:Nat)(m:Fm):List T:=(List.range N).map fun i=>match m.get i with|some v=>v.aI|none=>.any
theorem xI{N:Nat}{m:Fm}:(vO N m).length=N:=by simp[vO]
theorem DR{N:Nat}{m:Fm}(hN: ∀ i v,m.get i=some v->i<N):Rp m (vO N m):=by
 intro i v q
 simp only[vO,List.getElem?_map,List.getElem?_range (hN i v q),Option.map_some,q]
theorem SS{Z:Nat->Prop}{h:Hp}: ∀ {a b:List T},a.length=b.length->(∀ (i:Nat) (t u:T),a[i]? =some t->b[i]? =some u->T.sub Z h t u)->T.dJ Z h a b:=by
 intro a
 induction a with
 |nil=>intro b hl _; cases b with|nil=>trivial|cons _ _=>simp at hl
 |cons t a ih =>
  intro b hl H
  cases b with
  |nil=>simp at hl
  |cons u b=>exact⟨H 0 t u rfl rfl,ih (by simpa using hl) fun i t u h1 h2=>H (i+1) t u (by simpa using h1) (by simpa using h2)⟩
theorem SV{Z:Nat->Prop}{h:Hp}{t:T}:T.sub Z h .any t:=by cases t<;>simp[T.sub]
theorem XZ{N:Nat}{m0 m:Fm}{fr:List T}{Z:Nat->Prop}{h:Hp}(hl:fr.length=N)(R:Rp m fr)(hs: ∀ i v,m0.get i=some v-> ∃ u,m.get i=some u/\v.aI=u.aI):T.dJ Z h (vO N m0) fr:=by
 refine SS (by rw[xI,hl]) fun i t u h1 h2=>?_
 simp only[vO,List.getElem?_map] at h1
 have hi:i<N:=by
  rcases Nat.lt_or_ge i N with h|h
  ·exact h
  ·rw[List.getElem?_eq_none (by simpa using h)] at h1; cases h1
 rw[List.getElem?_range hi] at h1
 simp only[Option.map_some,Option.some.injEq] at h1
 split at h1
 ·rename_i v hv
  obtain⟨w,hw,e⟩:=hs i v hv
  have:=R i w hw
  rw[h2] at this
  simp only[Option.some.injEq] at this
  subst h1; rw[this,e]; exact aB _
 ·subst h1; exact SV
theorem DT{N nx:Nat}{m:Fm}(hg: ∀ i v,m.get i=some v->T.lt nx v.aI=true):T.aO (· <nx) (vO N m):=by
 rw[bQ]
 intro t ht
 simp only[vO,List.mem_map] at ht
 obtain⟨i,_,e⟩:=ht
 split at e
 ·rename_i v hv; subst e; exact EC (hg i v hv)
 ·subst e; simp[T.ids]
def OV.good(nx:Nat):OV->Bool
 | .row _ k r x=>(match r with| .nil=>true|r=>Nat.beq r.kd k)&&EW k x&&T.Nr nx (V.aX x)&& !(Nat.beq k eU)
 | .box _ k v=>EW k [v]&&T.lt nx v.aI&& !(Nat.beq k eU)
 | .map _ _ x=>x.all fun e=>T.lt nx e.2.aI
 | .gen _ k x=>EW k x&&T.Nr nx (V.aX x)&& !(Nat.beq k eU)
def wZ(nx:Nat):Hz->Bool
 |[]=>true
 |(i,some o)::r=>Nat.blt i nx&&o.good nx&&wZ nx r
 |(_,none)::r=>wZ nx r
theorem zX{n:Nat}: ∀ {l:List T},T.Nr n l=true->T.aO (· <n) l:=by
 intro l
 induction l with
 |nil=>intro _; trivial
 |cons t l ih =>
  intro q
  simp only[T.Nr,Bool.and_eq_true] at q
  exact⟨EC q.1,ih q.2⟩
theorem Rw.ids{M:Nat->Prop}(r:Rw):T.aO M r.aX:=by
 rw[bQ]
 intro t ht
 cases r<;>simp only[Rw.aX,List.mem_map,List.not_mem_nil] at ht<;>obtain⟨x,_,rfl⟩:=ht<;>simp[eS,T.ids,T.aO,QM,Ou,Gn,XD,tu,sZ]
theorem Rw.kds{r:Rw}: ∀ t∈r.aX,t.kd=r.kd:=by
 intro t ht
 cases r<;>simp only[Rw.aX,List.mem_map,List.not_mem_nil] at ht<;>obtain⟨x,_,rfl⟩:=ht<;>rfl
theorem SX{k:Nat}{l:List V}(q:EW k l=true): ∀ t∈V.aX l,t.kd=k:=by
 intro t ht
 rw[jM,List.mem_map] at ht
 obtain⟨v,hv,rfl⟩:=ht
 exact V.L8 (F9 q v hv)
theorem MB{k:Nat}{l:List T}(hk:k≠eU)(h: ∀ t∈l,t.kd=k):SA k l=true:=by
 unfold SA
 have:(k==1000000007)=false:=by simpa using hk
 rw[this]; simp only[cond_false,List.all_eq_true,beq_iff_eq]; exact h
theorem OV.DU{nx:Nat}{o:OV}(q:o.good nx=true):T.aO (· <nx) o.aF.l/\SA o.aF.k o.aF.l=true:=by
 cases o with
 |row ty k r x =>
  simp only[OV.good,Bool.and_eq_true,Bool.not_eq_true'] at q
  obtain⟨⟨⟨q1,q2⟩,q3⟩,q4⟩:=q
  simp only[OV.aF]
  refine⟨eH.2 ⟨r.ids,zX q3⟩,MB (Nat.ne_of_beq_eq_false q4) fun t ht=>?_⟩
  rcases List.mem_append.1 ht with ht|ht
  ·split at q1
   ·cases ht
   ·rw[<- gB q1]; exact Rw.kds t ht
  ·exact SX q2 t ht
 |box ty k v =>
  simp only[OV.good,Bool.and_eq_true,Bool.not_eq_true'] at q
  obtain⟨⟨q1,q2⟩,q3⟩:=q
  simp only[OV.aF]
  refine⟨⟨EC q2,trivial⟩,MB (Nat.ne_of_beq_eq_false q3) fun t ht=>?_⟩
  rw[List.mem_singleton] at ht; subst ht; exact Md q1
 |gen ty k x =>
  simp only[OV.good,Bool.and_eq_true,Bool.not_eq_true'] at q
  obtain⟨⟨q2,q3⟩,q4⟩:=q
  simp only[OV.aF]
  exact⟨zX q3,MB (Nat.ne_of_beq_eq_false q4) (SX q2)⟩
 |map ty es x =>
  simp only[OV.good,List.all_eq_true] at q
  simp only[OV.aF]
  refine⟨?_,?_⟩
  ·rw[bQ]
   intro t ht
   rcases List.mem_append.1 ht with ht|ht
   ·rw[List.mem_map] at ht
    obtain⟨e,_,rfl⟩:=ht
    simp[Fz,T.ids,T.aO]
   ·rw[List.mem_map] at ht
    obtain⟨e,he,rfl⟩:=ht
    simp only[V6,T.ids,T.aO]; exact⟨trivial,EC (q e he),trivial⟩
  ·unfold SA
   simp[eU,iC,Fz,V6]
theorem pV{nx:Nat}: ∀ {h:Hz},wZ nx h=true->HpG nx h.aj:=by
 intro h
 induction h with
 |nil=>intro _ i ob e; simp[Hz.aj,Hz.get] at e
 |cons p r ih =>
  obtain⟨j,o⟩:=p
  intro q
  rw[aY]
  cases o with
  |none=>exact ZB (ih q)
  |some o =>
   simp only[wZ,Bool.and_eq_true] at q
   obtain⟨g1,g2⟩:=OV.DU q.1.2
   exact ZA (ih q.2) (by simpa using q.1.1) g1 g2
def zH(nx:Nat):Hz->Hz
 |[]=>[]
 |(i,o)::r=>bif Nat.blt i nx then(i,o)::zH nx r else zH nx r
theorem IU{nx i:Nat}(hi:i<nx): ∀ {h:Hz},(zH nx h).get i=h.get i:=by
 intro h
 induction h with
 |nil=>rfl
 |cons p r ih =>
  obtain⟨j,o⟩:=p
  simp only[zH]
  cases hb:Nat.blt j nx with
  |true=>simp only[cond_true,Hz.get]; cases Nat.beq j i<;>simp[ih]
  |false =>
   simp only[cond_false,Hz.get]
   have hne:Nat.beq j i=false:=by
    cases e:Nat.beq j i with
    |false=>rfl
    |true =>
     have:=gB e; subst this
     have:Nat.blt j nx=true:=by simpa using hi
     rw[this] at hb; cases hb
   rw[hne]; exact ih
structure adn{ι:Type}(inv:ι->Prop)(μ:ι->Nat)(vars:ι->Fm)(base:Fm)(hs:Hz)(nx:Nat)(i:ι)(m:Fm)(h:Hz):Prop where
 ok: ∃ j,inv j/\μ j<μ i/\Ku m (vars j)/\Ku m base/\zH nx h=hs
theorem get_append{a b:Fm}{i:Nat}{v:V}(q:Fm.get i (a++b)=some v):a.get i=some v\/Fm.get i b=some v:=by
 induction a with
 |nil=>exact .inr q
 |cons p r ih =>
  simp only[List.cons_append,Fm.get] at q ⊢
  cases hb:Nat.beq p.1 i with
  |true=>rw[hb] at q; exact .inl q
  |false=>rw[hb] at q; exact ih q
theorem aQ.same{N pn nx:Nat}{b:fO}{Q:Qz}{m:Fm}{h:Hz}{ι:Type}(live:List Nat)(vars:ι->Fm)(inv:ι->Prop)(μ:ι->Nat)(i0:ι)(hd:qQ N b=true)(hp:pn<=nx)(hg:wZ nx h=true)(hv: ∀ i,XY nx N (vars i)=true)(h0:inv i0)(he:Ku m (vars i0))
  (H:IQ m live [] fun base=>XY nx N base=true/\ ∀ i,inv i->az P N pn b (fun e m' h' n'=>match e with
   | .normal=>adn inv μ vars base (zH nx h) nx i m' h'
   |e=>Q e m' h' n') (vars i++base) h nx):aQ P N pn b Q m h nx:=by
 obtain⟨base,⟨hb,H⟩,hbm⟩:=Ah H (fun i v q=>by cases q)
 refine⟨fun fr hl R=>?_⟩
 have hall: ∀ i j v,Fm.get j (vars i++base)=some v->T.lt nx v.aI=true/\j<N:=fun i j v q=>by
  rcases get_append q with q|q
  ·exact wB (hv i) q
  ·exact wB hb q
 have wk: ∀ (i:ι) (m':Fm) (h':Hz) (s':AS),s'.fr.length=N->Rp m' s'.fr->s'.hp=h'.aj->s'.pin=pn->Ku m' (vars i)->(∀ j v,Fm.get j base=some v-> ∃ u,m'.get j=some u/\v.aI=u.aI)->zH nx h'=zH nx h ->
   Wk ⟨vO N (vars i++base),h.aj,nx,pn⟩ s':=by
  intro i m' h' s' a1 a2 a3 a4 a5 a6 a7
  obtain⟨fr',hp',nx',pn'⟩:=s'
  simp only at a1 a2 a3 a4
  subst a3; subst a4
  refine Wk.same (XZ a1 a2 fun j v q=>?_) (DT fun j v q=>(hall i j v q).1) (pV hg) (fun j hj=>?_) hp
  ·rcases get_append q with q|q
   ·exact Kv a5 q
   ·exact a6 j v q
  ·simp only[Hz.aj]; rw[<- IU hj,a7,IU hj]
 refine yF.rule (fun i=>⟨vO N (vars i++base),h.aj,nx,pn⟩) inv μ i0 h0 (wk i0 m h _ hl R rfl rfl he (fun j v q=>⟨v,hbm j v q,rfl⟩) rfl) ?_
 intro i hi
 have:=sJ (P:=P) (N:=N) (pn:=pn) (s:=⟨vO N (vars i++base),h.aj,nx,pn⟩) hd xI (DR fun j v q=>(hall i j v q).2) rfl rfl (H i hi)
 refine nM ?_ this
 rintro e s' ⟨m',h',a1,a2,a3,a4,a5⟩
 cases e with
 |normal =>
  obtain⟨j,b1,b2,b3,b4,b5⟩:=a5.ok
  exact⟨j,⟨b1,b2⟩,wk j m' h' s' a1 a2 a3 a4 b3 (fun j v q=>Kv b4 q) b5⟩
 |exit j=>exact⟨m',h',a1,a2,a3,a4,a5⟩
 |ret=>exact⟨m',h',a1,a2,a3,a4,a5⟩
end
def sq(l:List aN)(c:fO):fO:=.seq (.reg false l) c
def qm(d x:Nat):aN:=o d (.mv (.t x))
def bg(d:Nat)(n:Int):aN:=o d (.mv (.c (.int n)))
def qv(d:Nat)(b:Bool):aN:=o d (.mv (.c (.bool b)))
def qb(op:BinOp)(d x y:Nat):aN:=o d (.bin op (.t x) (.t y))
def qk(op:BinOp)(d x:Nat)(n:Int):aN:=o d (.bin op (.t x) (.c (.int n)))
def ql(d k x:Nat):aN:=o d (.ld k (.t x))
def qf(d a k x:Nat):aN:=o d (.fa a k (.t x))
def qi(d k x y:Nat):aN:=o d (.ia k (.t x) (.t y))
def qn(d x:Nat):aN:=o d (.len false (.t x))
def qo(d a b:Nat):aN:=o d (.pick (.t a) (.c (.bool true)) (.t b))
def qa(d a b:Nat):aN:=o d (.pick (.t a) (.t b) (.c (.bool false)))
def qx(d x:Nat):aN:=o d (.not (.t x))
def qe(d x i:Nat):aN:=o d (.ex (.t x) i)
def qB(d:Nat)(ty:TypeId)(k x:Nat):aN:=o d (.box ty k (.t x))
def qs(k x y:Nat):aN:=ov (.st k (.t x) (.t y))
def qC(d:Nat)(f:FuncId)(l:List Nat):aN:=o d (.call f (l.map .t))
def aN.w(q:aN)(g:Nat):aN:=⟨q.d,q.op,some (g,true),q.fl,q.ne,q.ad,q.ar⟩
def aN.n(q:aN)(g:Nat):aN:=⟨q.d,q.op,some (g,false),q.fl,q.ne,q.ad,q.ar⟩
theorem Body.of{P:Program}{f:FuncId}{fn:Func}{ac:fO}{rs:List RV}{nt:Nat}(h1:P.funcs[f]? =some fn)(h2:(fn.body.isSome,comp P (fn.body.getD .skip),lH P fn.results.toList,fn.ntmps,qQ nt ac)=(true,some ac,some rs,nt,true))(h3:callable P f):Body P f ac rs nt:=by
 simp only[Prod.mk.injEq] at h2
 obtain⟨a,b,c,d,e⟩:=h2
 obtain⟨cd,hc⟩:=Option.isSome_iff_exists.1 a
 rw[hc] at b
 exact⟨⟨fn,cd,h1,hc,b,c,d⟩,h3,e⟩
section
variable {P:Program}
def dD(a b:List T):Prop:= ∀ (Z:Nat->Prop) (h:Hp),T.dJ Z h a b
theorem dD.refl(a:List T):dD a a:=fun _ _=>cO a
def OV.Gx:OV->Bool
 | .row _ _ _ x=>V.bZ x
 | .box _ _ v=>v.free
 | .map _ _ x=>V.bZ (x.map (·.2))
 | .gen _ _ x=>V.bZ x
theorem OV.Gf{o:OV}(q:o.Gx=true):T.aO (fun _=>False) o.aF.l:=by
 cases o with
 |row ty k r x=>exact eH.2 ⟨r.ids,cZ (V.gJ x q)⟩
 |box ty k v=>exact⟨fZ (V.lI v q),trivial⟩
 |gen ty k x=>exact cZ (V.gJ x q)
 |map ty es x =>
  simp only[OV.Gx] at q
  refine eH.2 ⟨bQ.2 fun t ht=>?_,bQ.2 fun t ht=>?_⟩
  ·obtain⟨e,_,rfl⟩:=List.mem_map.1 ht
   simp[Fz,T.ids,T.aO]
  ·obtain⟨e,he,rfl⟩:=List.mem_map.1 ht
   simp only[V6,T.ids,T.aO]
   refine⟨trivial,?_,trivial⟩
   have:=cZ (V.gJ _ q)
   rw[bQ] at this
   exact this _ (by rw[jM,List.map_map]; exact List.mem_map.2 ⟨e,he,rfl⟩)
theorem OV.xR{o:OV}(q:o.Gx=true)(ρ:Nat->Nat):T.dh ρ o.aF.l=o.aF.l:=tX _ (OV.Gf q)
def pI:List (Nat×OV)->List Nat->Nat->Nat
 |(c,_)::r,n::s,i=>bif Nat.beq i c then n else pI r s i
 |_,_,i=>i
def wU(n:Nat):List Nat->Bool
 |[]=>true
 |m::r=> !(Nat.beq n m)&&wU n r
def U2(nx pn:Nat)(h:Hz):List (Nat×OV)->List Nat->Prop
 |[],[]=>True
 |(c,o)::r,n::s=>(Nat.blt c nx=true/\(Nat.blt c pn=true->n=c)/\wU n s=true/\o.good nx=true/\o.Gx=true /\
   ∃ o',h.get n=some o'/\o'.aF.ty=o.aF.ty/\o'.aF.k=o.aF.k/\dD o.aF.l o'.aF.l)/\U2 nx pn h r s
 |_,_=>False
theorem rQ{nx pn c n:Nat}{h:Hz}{s:List Nat}{o:OV}(a:(Nat.blt c nx&&(!(Nat.blt c pn)||Nat.beq n c)&&wU n s&&(o.good nx&&o.Gx))=true)(b:(h.get n).map OV.aF=some o.aF):Nat.blt c nx=true/\(Nat.blt c pn=true->n=c)/\wU n s=true/\o.good nx=true/\o.Gx=true /\
   ∃ o',h.get n=some o'/\o'.aF.ty=o.aF.ty/\o'.aF.k=o.aF.k/\dD o.aF.l o'.aF.l:=by
 simp only[Bool.and_eq_true,Bool.or_eq_true,Bool.not_eq_true'] at a
 obtain⟨⟨⟨a1,a2⟩,a3⟩,a4,a5⟩:=a
 obtain⟨o',b1,b2⟩:=Option.map_eq_some_iff.1 b
 exact⟨a1,fun h=>a2.elim (fun q=>by rw[q] at h; cases h) Nat.eq_of_beq_eq_true,a3,a4,a5,o',b1,by rw[b2],by rw[b2],by rw[b2]; exact .refl _⟩
def zI:List (Nat×OV)->List Nat->List (Nat×Nat×Ob)
 |(c,o)::r,n::s=>(c,n,o.aF)::zI r s
 |_,_=>[]
def KZ(l:List (Nat×OV)):Hz:=l.map fun p=>(p.1,some p.2)
theorem IV: ∀ {l:List (Nat×OV)} {s:List Nat} {i:Nat},BK (zI l s) i=pI l s i:=by
 intro l
 induction l with
 |nil=>intro s i; cases s<;>rfl
 |cons p r ih =>
  obtain⟨c,o⟩:=p
  intro s i
  cases s with
  |nil=>rfl
  |cons n s =>
   simp only[zI,BK,pI]
   rw[ih]
   cases hb:Nat.beq i c with
   |true=>rw[if_pos (gB hb)]; rfl
   |false=>rw[if_neg (Nat.ne_of_beq_eq_false hb)]; rfl
theorem ZT{nx pn:Nat}{h:Hz}: ∀ {l:List (Nat×OV)} {s:List Nat},U2 nx pn h l s->hpL (zI l s)=(KZ l).aj:=by
 intro l
 induction l with
 |nil=>intro s q; cases s with
  |nil=>rfl
  |cons _ _=>exact q.elim
 |cons p r ih =>
  obtain⟨c,o⟩:=p
  intro s q
  cases s with
  |nil=>exact q.elim
  |cons n s =>
   simp only[zI,hpL]
   have e:KZ ((c,o)::r)=(c,some o)::KZ r:=rfl
   rw[e,aY,ih q.2]; rfl
theorem OE{n:Nat}: ∀ {l:List (Nat×OV)} {s:List Nat},wU n s=true-> ¬ LW (zI l s) n:=by
 intro l
 induction l with
 |nil=>intro s _ q; cases s<;>exact q
 |cons p r ih =>
  obtain⟨c,o⟩:=p
  intro s hs q
  cases s with
  |nil=>exact q
  |cons m s =>
   simp only[wU,Bool.and_eq_true] at hs
   simp only[zI,LW] at q
   rcases q with q|q
   ·rw[q,Nat.beq_refl] at hs; cases hs.1
   ·exact ih hs.2 q
theorem ZU{nx pn:Nat}{h:Hz}{Z:Nat->Prop}{ρ:Nat->Nat}: ∀ {l:List (Nat×OV)} {s:List Nat},U2 nx pn h l s->okL Z ρ h.aj nx pn (zI l s):=by
 intro l
 induction l with
 |nil=>intro s _; cases s<;>trivial
 |cons p r ih =>
  obtain⟨c,o⟩:=p
  intro s q
  cases s with
  |nil=>exact q.elim
  |cons n s =>
   obtain⟨⟨q1,q2,q3,q4,q5,o',q6,q7,q8,q9⟩,q⟩:=q
   obtain⟨g1,g2⟩:=OV.DU q4
   refine⟨⟨Nat.blt_eq.mp q1,fun hc=>q2 (Nat.blt_eq.mpr hc),OE q3,g1,g2,o'.aF.l,?_,?_⟩,ih q⟩
   ·have:=aH q6
    show h.aj n=some ⟨o.aF.ty,o.aF.k,o'.aF.l⟩
    rw[this,<- q7,<- q8]
   ·show T.dJ Z h.aj (T.dh ρ o.aF.l) o'.aF.l
    rw[OV.xR q5]; exact q9 _ _
def oD(ρ:Nat->Nat)(m':Fm):Fm->Prop
 |[]=>True
 |(i,v)::r=>(∃ u,m'.get i=some u/\dD [v.aI.ren ρ] [u.aI])/\oD ρ m' r
theorem uw{ρ:Nat->Nat}{m':Fm}: ∀ {m0:Fm},oD ρ m' m0-> ∀ {i:Nat} {v:V},m0.get i=some v-> ∃ u,m'.get i=some u/\dD [v.aI.ren ρ] [u.aI]:=by
 intro m0
 induction m0 with
 |nil=>intro _ i v q; cases q
 |cons p r ih =>
  obtain⟨j,w⟩:=p
  intro hs i v q
  simp only[Fm.get] at q
  cases hb:Nat.beq j i with
  |true=>rw[hb] at q; cases q; rw[<- gB hb]; exact hs.1
  |false=>rw[hb] at q; exact ih hs.2 q
theorem dD.eq{a b:T}(h:a=b):dD [a] [b]:=by subst h; exact .refl _
theorem sR{ρ:Nat->Nat}{m':Fm}: ∀ {m0:Fm},(m0.map fun p=>some (p.2.aI.ren ρ))=(m0.map fun p=>(m'.get p.1).map V.aI)->oD ρ m' m0:=by
 intro m0
 induction m0 with
 |nil=>intro _; trivial
 |cons p r ih =>
  intro h
  simp only[List.map_cons,List.cons.injEq] at h
  obtain⟨h1,h2⟩:=h
  obtain⟨u,e1,e2⟩:=Option.map_eq_some_iff.1 h1.symm
  exact⟨⟨u,e1,.eq e2.symm⟩,ih h2⟩
theorem EM{N:Nat}{m0 m:Fm}{fr:List T}{Z:Nat->Prop}{h:Hp}{ρ:Nat->Nat}(hl:fr.length=N)(R:Rp m fr)(hs: ∀ i v,m0.get i=some v-> ∃ u,m.get i=some u/\dD [v.aI.ren ρ] [u.aI]):T.dJ Z h (T.dh ρ (vO N m0)) fr:=by
 refine SS (by rw[sG,xI,hl]) fun i t u h1 h2=>?_
 have e: ∀ l:List T,T.dh ρ l=l.map (T.ren ρ):=by
  intro l
  induction l with
  |nil=>rfl
  |cons a l ih=>simp only[T.dh,List.map_cons,ih]
 rw[e] at h1
 simp only[vO,List.getElem?_map] at h1
 have hi:i<N:=by
  rcases Nat.lt_or_ge i N with h|h
  ·exact h
  ·rw[List.getElem?_eq_none (by simpa using h)] at h1; cases h1
 rw[List.getElem?_range hi] at h1
 simp only[Option.map_some,Option.some.injEq] at h1
 split at h1
 ·rename_i v hv
  obtain⟨w,hw,e⟩:=hs i v hv
  have:=R i w hw
  rw[h2] at this
  simp only[Option.some.injEq] at this
  subst h1; rw[this]; exact(e Z h).1
 ·subst h1; exact SV
structure ado{ι:Type}(inv:ι->Prop)(μ:ι->Nat)(vars:ι->Fm)(objs:ι->List (Nat×OV))(base:Fm)(nx pn:Nat)(i:ι)(m:Fm)(h:Hz):Prop where
 ok: ∃ j nw,inv j/\μ j<μ i/\oD (pI (objs j) nw) m (vars j)/\oD (pI (objs j) nw) m base/\U2 nx pn h (objs j) nw
theorem aQ.objs{N pn nx0:Nat}(nx:Nat){b:fO}{Q:Qz}{m:Fm}{h:Hz}{ι:Type}(live:List Nat)(vars:ι->Fm)(objs:ι->List (Nat×OV))(inv:ι->Prop)(μ:ι->Nat)(i0:ι)(Pq:List Nat)(hd:qQ N b=true)(hp:pn<=nx)(hv: ∀ i,XY nx N (vars i)=true)(h0:inv i0)
  (he:oD (pI (objs i0) Pq) m (vars i0)) (ho:U2 nx pn h (objs i0) Pq)
  (H:IQ m live [] fun base=>oD (pI (objs i0) Pq) m base/\XY nx N base=true/\ ∀ i,inv i->az P N pn b (fun e m' h' n'=>match e with
   | .normal=>ado inv μ vars objs base nx pn i m' h'
   |e=>Q e m' h' n') (vars i++base) (KZ (objs i)) nx):aQ P N pn b Q m h nx0:=by
 obtain⟨base,⟨hbs,hb,H⟩,hbm⟩:=Ah H (fun i v q=>by cases q)
 refine⟨fun fr hl R=>?_⟩
 have hall: ∀ i j v,Fm.get j (vars i++base)=some v->T.lt nx v.aI=true/\j<N:=fun i j v q=>by
  rcases get_append q with q|q
  ·exact wB (hv i) q
  ·exact wB hb q
 have wk: ∀ (i:ι) (nw:List Nat) (m':Fm) (h':Hz) (s':AS),s'.fr.length=N->Rp m' s'.fr->s'.hp=h'.aj->s'.pin=pn->oD (pI (objs i) nw) m' (vars i)->oD (pI (objs i) nw) m' base->U2 nx pn h' (objs i) nw ->
   Wk ⟨vO N (vars i++base),(KZ (objs i)).aj,nx,pn⟩ s':=by
  intro i nw m' h' s' a1 a2 a3 a4 a5 a6 a7
  obtain⟨fr',hp',nx',pn'⟩:=s'
  simp only at a1 a2 a3 a4
  subst a3; subst a4
  rw[<- ZT a7]
  refine Wk.objs (zI (objs i) nw) (EM a1 a2 fun j v q=>?_) (DT fun j v q=>(hall i j v q).1) hp (ZU a7)
  have e:BK (zI (objs i) nw)=pI (objs i) nw:=funext fun _=>IV
  rw[e]
  rcases get_append q with q|q
  ·exact uw a5 q
  ·exact uw a6 q
 refine yF.rule (fun i=>⟨vO N (vars i++base),(KZ (objs i)).aj,nx,pn⟩) inv μ i0 h0 (wk i0 Pq m h _ hl R rfl rfl he hbs ho) ?_
 intro i hi
 have:=sJ (P:=P) (N:=N) (pn:=pn) (s:=⟨vO N (vars i++base),(KZ (objs i)).aj,nx,pn⟩) hd xI (DR fun j v q=>(hall i j v q).2) rfl rfl (H i hi)
 refine nM ?_ this
 rintro e s' ⟨m',h',a1,a2,a3,a4,a5⟩
 cases e with
 |normal =>
  obtain⟨j,nw,b1,b2,b3,b4,b5⟩:=a5.ok
  exact⟨j,⟨b1,b2⟩,wk j nw m' h' s' a1 a2 a3 a4 b3 b4 b5⟩
 |exit j=>exact⟨m',h',a1,a2,a3,a4,a5⟩
 |ret=>exact⟨m',h',a1,a2,a3,a4,a5⟩
theorem aQ.nil{N pn nx:Nat}{b:fO}{Q:Qz}{m:Fm}{h:Hz}(d ty k:Nat){k':Nat}{r:Rw}(hd:m.get d=some (.row k' true r))(hr:r.aX=[])(hk:yg k=true)(hN:Nat.blt d N=true)
  (H:aQ P N pn b Q ((d,.own nx)::m) ((nx,some (.row ty k .nil []))::h) (nx+1)):aQ P N pn b Q m h nx:=by
 refine⟨fun fr hl R=>?_⟩
 have hdl:d<fr.length:=by rw[hl]; exact Nat.blt_eq.mp hN
 have hget:fr.getD d .any= .sl k' true []:=by
  rw[R.getD hd]; simp only[V.aI,hr]
 have H':=H.ok (fr.set d (.own nx)) (by simpa using hl) (fun i v q=>by
  simp only[Fm.get] at q
  cases hb:Nat.beq d i with
  |true=>rw[hb] at q; cases q; rw[<- gB hb]; simp[hdl,V.aI]
  |false =>
   rw[hb] at q
   rw[List.getElem?_set_ne (Nat.ne_of_beq_eq_false hb)]; exact R i v q)
 have e:Hz.aj ((nx,some (.row ty k .nil []))::h)=upd h.aj nx (some ⟨ty,k,[]⟩):=by rw[aY]; rfl
 rw[e] at H'
 obtain⟨I,μ,⟨s0,w0,i0⟩,round⟩:=H'
 exact⟨I,μ,⟨s0,Wk.Zx d ty k hget hk w0,i0⟩,round⟩
structure kN(h0:Hz)(n:Nat)(post:T->Hp->Prop)(v:V)(h:Hz):Prop where
 ok: ∃ (Z:Nat->Prop) (ρ:Nat->Nat) (t:T) (h':Hp),post t h'/\T.sub Z h.aj (t.ren ρ) v.aI/\(∀ i ob,h' i=some ob-> ∃ ob',h.aj (ρ i)=some ob'/\ ¬ Z (ρ i)/\Gj Z h.aj ρ ob ob') /\
  (∀ i j,(h' i).isSome=true->(h' j).isSome=true->ρ i=ρ j->i=j)/\t.ids (fun i=>(h0.aj i).isSome=true\/i=n)/\mD (fun i=>(h0.aj i).isSome=true\/i=n) h' /\
  ∀ i,(h0.aj i).isSome=true->(h' i).isSome=true->ρ i=i
def adp(h0:Hz)(n:Nat)(post:T->Hp->Prop)(rs:List RV):Qz
 | .exit _,_,_,_=>False
 |_,m,h,_=>match resV m h rs with
  |some v=>v.seq fun v=>kN h0 n post v h
  |none=>False
theorem rY.of{f:FuncId}{ac:fO}{rs:List RV}{nt nx n:Nat}{args:List V}{h0:Hz}{post:T->Hp->Prop}(B:Body P f ac rs nt)(hn:args.length<=nt)(hin: ∃ t h',post t h')(ha:T.Nr nx (V.aX args)=true)(hg:wZ nx h0=true)
  (H:az P nt nx ac (adp h0 n post rs) (BP 0 args) h0 nx):aP P f (V.aX args) h0.aj n post:=by
 obtain⟨fn,c,h1,h2,h3,h4,h5⟩:=B.ex
 have hG:=pV hg
 refine aP.Ae (nx:=nx) h1 h2 h3 h4 B.cl h5 hin (zX ha) (fun i ob hi=>⟨(hG i ob hi).1,(hG i ob hi).2.1⟩) ?_
 have:=sJ (P:=P) (N:=nt) (pn:=nx) (s:=⟨V.aX args++List.replicate (nt-(V.aX args).length) T.un,h0.aj,nx,nx⟩) B.dst (by simp[dR]; omega) BQ rfl rfl H
 refine nM ?_ this
 rintro e s ⟨m,h,a1,a2,a3,a4,a5⟩
 have key: ∀ {m h},Rp m s.fr->s.hp=Hz.aj h->(match resV m h rs with|some v=>v.seq fun v=>kN h0 n post v h|none=>False)-> ∃ s1,FK s1 s/\Ret h0.aj n post rs s1:=by
  intro m h a2 a3 q
  split at q
  ·rename_i v hv
   rw[V.seq_eq] at q
   obtain⟨b1,b2⟩:=Me a2 a3 hv
   obtain⟨Z,ρ,t,h',c1,c2,c3,c4,c5,c6,c7⟩:=q.ok
   exact⟨s,.refl _,b1,Z,ρ,t,h',c1,by rw[b2,a3]; exact c2,by rw[a3]; exact c3,c4,c5,c6,c7⟩
  ·exact q.elim
 cases e with
 |exit j=>exact a5.elim
 |normal=>exact key a2 a3 a5
 |ret=>exact key a2 a3 a5
theorem kN.one{h0 h:Hz}{n c j:Nat}{post:T->Hp->Prop}{v:V}{o:OV}{t:T}(hj:h.get j=some o)(hg:o.good (j+1)=true)(hf:o.Gx=true)(hc:(h0.get c).isSome=true->j=c)(hc':(h0.get c).isSome=true\/c=n)
  (ht:t.ids (fun i=>i=c)) (hv:dD [t.ren fun _=>j] [v.aI]) (hp:post t (Hz.aj [(c,some o)])):kN h0 n post v h:=by
 have hgood:=(OV.DU hg).2
 have hM: ∀ i,i=c->(h0.aj i).isSome=true\/i=n:=by
  rintro i rfl
  rcases hc' with h|h
  ·left; simpa [Hz.aj] using h
  ·exact .inr h
 have hx: ∀ i ob,Hz.aj [(c,some o)] i=some ob->i=c/\ob=o.aF:=fun i ob hi=>by
  simp only[Hz.aj,Hz.get] at hi
  cases hb:Nat.beq c i with
  |true=>rw[hb] at hi; simp only[cond_true,Option.map_some,Option.some.injEq] at hi; exact⟨(gB hb).symm,hi.symm⟩
  |false=>rw[hb] at hi; simp at hi
 refine⟨fun i=>i≠j,fun _=>j,t,Hz.aj [(c,some o)],hp,(hv _ _).1,fun i ob hi=>?_,fun i i' hi hi' _=>?_,T.bG hM _ ht,fun i ob hi=>?_,fun i hi hi'=>?_⟩
 ·obtain⟨rfl,rfl⟩:=hx i ob hi
  refine⟨o.aF,aH hj,by simp,rfl,rfl,?_,zA hgood⟩
  rw[OV.xR hf]; exact cO _
 ·obtain⟨oi,hi⟩:=Option.isSome_iff_exists.1 hi
  obtain⟨oj,hi'⟩:=Option.isSome_iff_exists.1 hi'
  rw[(hx _ _ hi).1,(hx _ _ hi').1]
 ·obtain⟨rfl,rfl⟩:=hx i ob hi
  exact⟨hM _ rfl,T.ay (fun _ h=>h.elim) _ (OV.Gf hf)⟩
 ·obtain⟨oi,hi'⟩:=Option.isSome_iff_exists.1 hi'
  obtain⟨rfl,_⟩:=hx _ _ hi'
  exact hc (by simpa [Hz.aj] using hi)
theorem ah.heap{f:FuncId}{args:List V}{h:Hz}{n:Nat}{K:V->Hz->Prop}{KW:Nat->V->Hz->Prop}{post:T->Hp->Prop}(S:aP P f (V.aX args) h.aj n post)(hK: ∀ t hp,post t hp-> ∃ v h',t=v.aI/\hp=Hz.aj h'/\K v h'):ah P false none f args h n K KW :=
 ⟨.inl (S.mono fun t hp q=>by
  obtain⟨v,h',h1,h2,h3⟩:=hK t hp q
  exact⟨v,h',h1,h2,(fun e=>by cases e),h3⟩)⟩
end
section
variable {P:Program}
def LoopN(body:(oZ->AS->Prop)->AS->Prop)(Q:oZ->AS->Prop):Nat->AS->Prop
 |0,_=>False
 |k+1,s=>body (fun e s'=>match e with| .normal=>LoopN body Q k s'|e=>Q e s') s
open Classical in
theorem yF.ofN{b:fO}{Q:oZ->AS->Prop}{k:Nat}{s:AS}(h:LoopN (aw P b) Q k s):yF (aw P b) Q s:=by
 let I:AS->Nat->Prop:=fun s n=>LoopN (aw P b) Q n s
 let μ:AS->Nat:=fun s=>if hh: ∃ n,I s n then Classical.choose (QN _ (Classical.choose_spec hh)) else 0
 have hμ: ∀ s,(∃ n,I s n)->I s (μ s)/\ ∀ k,I s k->μ s<=k:=by
  intro s hh
  have e:μ s=Classical.choose (QN _ (Classical.choose_spec hh)):=dif_pos hh
  rw[e]
  exact Classical.choose_spec (QN _ (Classical.choose_spec hh))
 refine⟨fun s=> ∃ n,I s n,μ,⟨s,⟨s,.refl _,.inl rfl⟩,k,h⟩,fun s hI=>?_⟩
 have h2:=(hμ s hI).1
 generalize hm:μ s=m at h2
 cases m with
 |zero=>exact h2.elim
 |succ m =>
  have h3:aw P b (fun e s'=>match e with| .normal=>LoopN (aw P b) Q m s'|e=>Q e s') s:=h2
  refine nM ?_ h3
  intro e s' q
  cases e with
  |normal=>exact⟨s',⟨s',.refl _,.inl rfl⟩,⟨m,q⟩,by have:=(hμ s' ⟨m,q⟩).2 m q; omega⟩
  |exit j=>exact q
  |ret=>exact q
def azN(P:Program)(N pn:Nat)(b:fO)(Q:Qz):Nat->Fm->Hz->Nat->Prop
 |0,_,_,_=>False
 |k+1,m,h,nx=>az P N pn b (fun e m' h' nx'=>match e with| .normal=>azN P N pn b Q k m' h' nx'|e=>Q e m' h' nx') m h nx
theorem aQ.times{N pn nx:Nat}{b:fO}{Q:Qz}{m:Fm}{h:Hz}(k:Nat)(hd:qQ N b=true)(H:azN P N pn b Q k m h nx):aQ P N pn b Q m h nx:=by
 refine⟨fun fr hl R=>yF.ofN (k:=k) ?_⟩
 have key: ∀ (k:Nat) {m:Fm} {h:Hz} {nx:Nat} {s:AS},s.fr.length=N->Rp m s.fr->s.hp=h.aj->s.pin=pn->s.nx=nx->azN P N pn b Q k m h nx->LoopN (aw P b) (Lift N pn Q) k s:=by
  intro k
  induction k with
  |zero=>intro m h nx s _ _ _ _ _ H; exact H.elim
  |succ k ih =>
   intro m h nx s a1 a2 a3 a4 a5 H
   subst a5
   have:=sJ (P:=P) (N:=N) (pn:=pn) (s:=s) hd a1 a2 a3 a4 H
   show aw P b _ s
   refine nM ?_ this
   rintro e s' ⟨m',h',b1,b2,b3,b4,b5⟩
   cases e with
   |normal=>exact ih b1 b2 b3 b4 rfl b5
   |exit j=>exact⟨m',h',b1,b2,b3,b4,b5⟩
   |ret=>exact⟨m',h',b1,b2,b3,b4,b5⟩
 exact key k hl R rfl rfl rfl H
end
section
variable {P:Program}
theorem Kw{Z:Nat->Prop}{h:Hp}{t u:T}: ∀ {fr:List T} {j:Nat},fr[j]? =some u->T.sub Z h t u->T.dJ Z h (fr.set j t) fr
 |[],_,e,_=>by simp at e
 |a::r,0,e,q=>by
  simp only[List.getElem?_cons_zero,Option.some.injEq] at e; subst e
  exact⟨q,cO _⟩
 |a::r,j+1,e,q=>by
  simp only[List.getElem?_cons_succ] at e
  exact⟨aB _,Kw e q⟩
theorem aQ.fzV{N pn nx:Nat}{b:fO}{Q:Qz}{m:Fm}{h:Hz}(d i:Nat)(u v:V)(hd:m.get d=some v)(hN:Nat.blt d N=true)(hs:T.sub (fun j=>j=i) h.aj u.aI v.aI)
  (H:aQ P N pn b Q ((d,u)::m) ((i,none)::h) nx):aQ P N pn b Q m h nx:=by
 refine⟨fun fr hl R=>?_⟩
 have hdl:d<fr.length:=by rw[hl]; exact Nat.blt_eq.mp hN
 have hget:fr[d]? =some v.aI:=R d _ hd
 have H':=H.ok (fr.set d u.aI) (by simpa using hl) (fun j v q=>by
  simp only[Fm.get] at q
  cases hb:Nat.beq d j with
  |true=>rw[hb] at q; cases q; rw[<- gB hb]; simp[hdl]
  |false =>
   rw[hb] at q
   rw[List.getElem?_set_ne (Nat.ne_of_beq_eq_false hb)]; exact R j v q)
 obtain⟨I,μ,⟨s0,⟨s1,w1,w2⟩,i0⟩,round⟩:=H'
 have F:W9 (fun j=>j=i) ⟨fr.set d u.aI,Hz.aj ((i,none)::h),nx,pn⟩ ⟨fr,h.aj,nx,pn⟩:=by
  refine⟨Kw hget hs,fun j ob hj=>?_,rfl,rfl⟩
  have hne:j≠i:=by
   rintro rfl
   simp[Hz.aj,Hz.get] at hj
  have hj':h.aj j=some ob:=by
   have hb:Nat.beq i j=false:=by
    cases hb:Nat.beq i j with
    |false=>rfl
    |true=>exact absurd (Nat.eq_of_beq_eq_true hb).symm hne
   simp only[Hz.aj,Hz.get,hb] at hj ⊢; exact hj
  exact⟨ob,hj',hne,rfl,rfl,cO _,rfl,rfl⟩
 exact⟨I,μ,⟨s0,⟨s1,w1.trans (.fz F (.refl _)),w2⟩,i0⟩,round⟩
theorem aQ.fz{N pn nx:Nat}{b:fO}{Q:Qz}{m:Fm}{h:Hz}(d i k:Nat)(r:Rw)(hd:m.get d=some (.own i))(hN:Nat.blt d N=true)(hs:T.sub (fun j=>j=i) h.aj (V.row k false r).aI (V.own i).aI)
  (H:aQ P N pn b Q ((d,.row k false r)::m) ((i,none)::h) nx):aQ P N pn b Q m h nx:=aQ.fzV d i _ _ hd hN hs H
end
section
variable {P:Program}
theorem pX{o:OV}(q:o.Gx=true)(ρ:Nat->Nat):o.aF.ren ρ=o.aF:=by
 have:=OV.xR q ρ
 unfold Ob.ren
 rw[this]
theorem sO{j:Nat}{o:OV}{i:Nat}:Hz.aj [(j,some o)] i=if i=j then some o.aF else none:=by
 simp only[Hz.aj,Hz.get]
 cases hb:Nat.beq j i with
 |true=>rw[if_pos (gB hb).symm]; rfl
 |false=>rw[if_neg (fun e=>Nat.ne_of_beq_eq_false hb e.symm)]; rfl
theorem dM{j i:Nat}{o:Option OV}{h:Hz}:Hz.aj ((j,o)::h) i=if i=j then o.map OV.aF else h.aj i:=by
 simp only[Hz.aj,Hz.get]
 cases hb:Nat.beq j i with
 |true=>rw[if_pos (gB hb).symm]; rfl
 |false=>rw[if_neg (fun e=>Nat.ne_of_beq_eq_false hb e.symm)]; rfl
theorem ah.GX{f:FuncId}{ts args:List V}{h:Hz}{i n:Nat}{o0:OV}{K:V->Hz->Prop}{KW:Nat->V->Hz->Prop}{post:T->Hp->Prop}(H:aP P f (V.aX ts) (Hz.aj [(0,some o0)]) 1 post)
  (ha:T.dh (fun _=>i) (V.aX ts)=V.aX args) (hid:T.Nr 1 (V.aX ts)=true) (hg:o0.good 1=true) (hf:o0.Gx=true) (hi:h.get i=some o0) (hn:h.get n=none)
  (hK: ∀ t hp,post t hp->(∃ v o,hp=Hz.aj [(0,some o)]/\o.Gx=true/\t.ren (nameAt (fun _=>i) 1 n)=v.aI/\K v ((i,some o)::h)) \/
   (∃ v o,hp=Hz.aj [(1,some o)]/\o.Gx=true/\t.ren (nameAt (fun _=>i) 1 n)=v.aI/\K v ((n,some o)::(i,none)::h))):ah P false none f args h n K KW:=by
 have hin:i≠n:=by rintro rfl; rw[hi] at hn; cases hn
 have hl0: ∀ j:Nat,j<1->(Hz.aj [(0,some o0)] j).isSome=true:=fun j hj=>by rw[sO,if_pos (by omega)]; rfl
 have hsome: ∀ j,(Hz.aj [(0,some o0)] j).isSome=true->j=0:=fun j hj=>by
  rw[sO] at hj; split at hj
  ·assumption
  ·cases hj
 refine ah.heap (post:=fun t' h'=> ∃ t h1,post t h1/\t'=t.ren (nameAt (fun _=>i) 1 n)/\h'=placed (fun _=>i) 1 n (Hz.aj [(0,some o0)]) h.aj h1) ?_ ?_
 ·rw[<- ha]
  refine aP.place H (T.ay hl0 _ (zX hid)) (fun j ob hj=>?_) (by rw[sO]; rfl) (fun j ob hj=>?_) (fun a b h1 h2 _=>by rw[hsome a h1,hsome b h2])
  ·rw[sO] at hj; split at hj
   ·cases hj
    have hz:T.aO (fun _=>False) o0.aF.l:=OV.Gf hf
    exact⟨T.ay (fun _ h=>h.elim) _ hz,(OV.DU hg).2⟩
   ·cases hj
  ·rw[sO] at hj; split at hj
   ·cases hj
    rw[pX hf]; exact aH hi
   ·cases hj
 ·rintro t' h' ⟨t,h1,hp,rfl,rfl⟩
  have inj: ∀ a b,((Hz.aj [(0,some o0)] a).isSome=true\/a=1)->((Hz.aj [(0,some o0)] b).isSome=true\/b=1)->nameAt (fun _=>i) 1 n a=nameAt (fun _=>i) 1 n b->a=b:=by
   intro a b ha hb e
   rcases ha with ha|rfl<;>rcases hb with hb|rfl
   ·rw[hsome a ha,hsome b hb]
   ·rw[hsome a ha] at e; exact absurd e hin
   ·rw[hsome b hb] at e; exact absurd e.symm hin
   ·rfl
  have at0: ∀ h1,placed (fun _=>i) 1 n (Hz.aj [(0,some o0)]) h.aj h1 i=(h1 0).map (Ob.ren (nameAt (fun _=>i) 1 n)):=fun h1=>oU (h:=h.aj) (h1:=h1) inj (i:=0) (.inl (hl0 0 (by decide)))
  have at1: ∀ h1,placed (fun _=>i) 1 n (Hz.aj [(0,some o0)]) h.aj h1 n=(h1 1).map (Ob.ren (nameAt (fun _=>i) 1 n)):=fun h1=>oU (h:=h.aj) (h1:=h1) inj (i:=1) (.inr rfl)
  have atO: ∀ h1 j,j≠i->j≠n->placed (fun _=>i) 1 n (Hz.aj [(0,some o0)]) h.aj h1 j=h.aj j:=fun h1 j g1 g2=>Bq (by
   rintro⟨a,ha,e⟩
   rcases ha with ha|rfl
   ·rw[hsome a ha] at e; exact g1 e.symm
   ·exact g2 e.symm)
  rcases hK t h1 hp with ⟨v,o,rfl,ho,hv,hk⟩|⟨v,o,rfl,ho,hv,hk⟩
  ·refine⟨v,_,hv,?_,hk⟩
   funext j
   rw[dM]
   by_cases e1:j=i
   ·subst e1; rw[if_pos rfl,at0,sO,if_pos rfl,Option.map_some,pX ho]; rfl
   ·rw[if_neg e1]
    by_cases e2:j=n
    ·subst e2; rw[at1,sO,if_neg (by decide)]; simp only[Hz.aj,hn]; rfl
    ·exact atO _ j e1 e2
  ·refine⟨v,_,hv,?_,hk⟩
   funext j
   rw[dM,dM]
   by_cases e2:j=n
   ·subst e2; rw[if_pos rfl,at1,sO,if_pos rfl,Option.map_some,pX ho]; rfl
   ·rw[if_neg e2]
    by_cases e1:j=i
    ·subst e1; rw[if_pos rfl,at0,sO,if_neg (by decide)]; rfl
    ·rw[if_neg e1]; exact atO _ j e1 e2
end
section
variable {P:Program}
def okR(ρ:Nat->Nat)(nx pn:Nat)(h:Hz):List (Nat×OV)->List Nat->Prop
 |[],[]=>True
 |(c,o)::r,n::s=>(Nat.blt c nx=true/\(Nat.blt c pn=true->n=c)/\wU n s=true/\o.good nx=true /\
   ∃ o',h.get n=some o'/\o'.aF.ty=o.aF.ty/\o'.aF.k=o.aF.k/\dD (T.dh ρ o.aF.l) o'.aF.l)/\okR ρ nx pn h r s
 |_,_=>False
theorem OG{ρ:Nat->Nat}{nx pn:Nat}{h:Hz}: ∀ {l:List (Nat×OV)} {s:List Nat},okR ρ nx pn h l s->hpL (zI l s)=(KZ l).aj:=by
 intro l
 induction l with
 |nil=>intro s q; cases s with
  |nil=>rfl
  |cons _ _=>exact q.elim
 |cons p r ih =>
  obtain⟨c,o⟩:=p
  intro s q
  cases s with
  |nil=>exact q.elim
  |cons n s =>
   simp only[zI,hpL]
   have e:KZ ((c,o)::r)=(c,some o)::KZ r:=rfl
   rw[e,aY,ih q.2]; rfl
theorem OH{nx pn:Nat}{h:Hz}{Z:Nat->Prop}{ρ:Nat->Nat}: ∀ {l:List (Nat×OV)} {s:List Nat},okR ρ nx pn h l s->okL Z ρ h.aj nx pn (zI l s):=by
 intro l
 induction l with
 |nil=>intro s _; cases s<;>trivial
 |cons p r ih =>
  obtain⟨c,o⟩:=p
  intro s q
  cases s with
  |nil=>exact q.elim
  |cons n s =>
   obtain⟨⟨q1,q2,q3,q4,o',q6,q7,q8,q9⟩,q⟩:=q
   obtain⟨g1,g2⟩:=OV.DU q4
   refine⟨⟨Nat.blt_eq.mp q1,fun hc=>q2 (Nat.blt_eq.mpr hc),OE q3,g1,g2,o'.aF.l,?_,?_⟩,ih q⟩
   ·have:=aH q6
    show h.aj n=some ⟨o.aF.ty,o.aF.k,o'.aF.l⟩
    rw[this,<- q7,<- q8]
   ·exact q9 _ _
structure adq{ι:Type}(inv:ι->Prop)(μ:ι->Nat)(vars:ι->Fm)(objs:ι->List (Nat×OV))(base:Fm)(nx pn:Nat)(i:ι)(m:Fm)(h:Hz):Prop where
 ok: ∃ j nw,inv j/\μ j<μ i/\oD (pI (objs j) nw) m (vars j)/\oD (pI (objs j) nw) m base/\okR (pI (objs j) nw) nx pn h (objs j) nw
theorem aQ.AL{N pn nx0:Nat}(nx:Nat){b:fO}{Q:Qz}{m:Fm}{h:Hz}{ι:Type}(live:List Nat)(vars:ι->Fm)(objs:ι->List (Nat×OV))(inv:ι->Prop)(μ:ι->Nat)(i0:ι)(Pq:List Nat)(hd:qQ N b=true)(hp:pn<=nx)(hv: ∀ i,XY nx N (vars i)=true)(h0:inv i0)
  (he:oD (pI (objs i0) Pq) m (vars i0)) (ho:okR (pI (objs i0) Pq) nx pn h (objs i0) Pq)
  (H:IQ m live [] fun base=>oD (pI (objs i0) Pq) m base/\XY nx N base=true/\ ∀ i,inv i->az P N pn b (fun e m' h' n'=>match e with
   | .normal=>adq inv μ vars objs base nx pn i m' h'
   |e=>Q e m' h' n') (vars i++base) (KZ (objs i)) nx):aQ P N pn b Q m h nx0:=by
 obtain⟨base,⟨hbs,hb,H⟩,hbm⟩:=Ah H (fun i v q=>by cases q)
 refine⟨fun fr hl R=>?_⟩
 have hall: ∀ i j v,Fm.get j (vars i++base)=some v->T.lt nx v.aI=true/\j<N:=fun i j v q=>by
  rcases get_append q with q|q
  ·exact wB (hv i) q
  ·exact wB hb q
 have wk: ∀ (i:ι) (nw:List Nat) (m':Fm) (h':Hz) (s':AS),s'.fr.length=N->Rp m' s'.fr->s'.hp=h'.aj->s'.pin=pn->oD (pI (objs i) nw) m' (vars i)->oD (pI (objs i) nw) m' base->okR (pI (objs i) nw) nx pn h' (objs i) nw ->
   Wk ⟨vO N (vars i++base),(KZ (objs i)).aj,nx,pn⟩ s':=by
  intro i nw m' h' s' a1 a2 a3 a4 a5 a6 a7
  obtain⟨fr',hp',nx',pn'⟩:=s'
  simp only at a1 a2 a3 a4
  subst a3; subst a4
  rw[<- OG a7]
  have e:BK (zI (objs i) nw)=pI (objs i) nw:=funext fun _=>IV
  refine Wk.objs (zI (objs i) nw) (EM a1 a2 fun j v q=>?_) (DT fun j v q=>(hall i j v q).1) hp (by rw[e]; exact OH a7)
  rw[e]
  rcases get_append q with q|q
  ·exact uw a5 q
  ·exact uw a6 q
 refine yF.rule (fun i=>⟨vO N (vars i++base),(KZ (objs i)).aj,nx,pn⟩) inv μ i0 h0 (wk i0 Pq m h _ hl R rfl rfl he hbs ho) ?_
 intro i hi
 have:=sJ (P:=P) (N:=N) (pn:=pn) (s:=⟨vO N (vars i++base),(KZ (objs i)).aj,nx,pn⟩) hd xI (DR fun j v q=>(hall i j v q).2) rfl rfl (H i hi)
 refine nM ?_ this
 rintro e s' ⟨m',h',a1,a2,a3,a4,a5⟩
 cases e with
 |normal =>
  obtain⟨j,nw,b1,b2,b3,b4,b5⟩:=a5.ok
  exact⟨j,⟨b1,b2⟩,wk j nw m' h' s' a1 a2 a3 a4 b3 b4 b5⟩
 |exit j=>exact⟨m',h',a1,a2,a3,a4,a5⟩
 |ret=>exact⟨m',h',a1,a2,a3,a4,a5⟩
end
section
variable {P:Program}
def Gi(Z:Nat->Prop)(h:Hz):Hz->Prop
 |[]=>True
 |(_,none)::r=>Gi Z h r
 |(i,some o)::r=>(∃ o',h.get i=some o'/\ ¬ Z i/\o'.aF.ty=o.aF.ty/\o'.aF.k=o.aF.k/\T.dJ Z h.aj o.aF.l o'.aF.l/\o.aF.l.map T.kd=o'.aF.l.map T.kd/\o.aF.l.map iC=o'.aF.l.map iC)/\Gi Z h r
def Frz(h h2:Hz):Prop:= ∃ Z,Gi Z h h2
theorem Ci{Z:Nat->Prop}{h:Hz}: ∀ {h2:Hz},Gi Z h h2-> ∀ {i:Nat} {o:OV},h2.get i=some o-> ∃ o',h.get i=some o'/\ ¬ Z i/\o'.aF.ty=o.aF.ty/\o'.aF.k=o.aF.k/\T.dJ Z h.aj o.aF.l o'.aF.l/\o.aF.l.map T.kd=o'.aF.l.map T.kd/\o.aF.l.map iC=o'.aF.l.map iC:=by
 intro h2
 induction h2 with
 |nil=>intro _ i o e; cases e
 |cons p r ih =>
  obtain⟨j,u⟩:=p
  intro hf i o e
  simp only[Hz.get] at e
  cases u with
  |none =>
   cases hb:Nat.beq j i with
   |true=>rw[hb] at e; cases e
   |false=>rw[hb] at e; exact ih hf e
  |some u =>
   cases hb:Nat.beq j i with
   |true=>rw[hb] at e; cases e; rw[<- gB hb]; exact hf.1
   |false=>rw[hb] at e; exact ih hf.2 e
theorem Frz.wk{s _s1:AS}{fr:List T}{h h2:Hz}{nx pn:Nat}(f:Frz h h2)(w:Wk s ⟨fr,h2.aj,nx,pn⟩):Wk s ⟨fr,h.aj,nx,pn⟩:=by
 obtain⟨Z,f⟩:=f
 obtain⟨s1,w1,w2⟩:=w
 have F:W9 Z ⟨fr,h2.aj,nx,pn⟩ ⟨fr,h.aj,nx,pn⟩:=by
  refine⟨cO _,fun i ob hi=>?_,rfl,rfl⟩
  simp only[Hz.aj,Option.map_eq_some_iff] at hi
  obtain⟨o,e1,rfl⟩:=hi
  obtain⟨o',a1,a2,a3,a4,a5,a6,a7⟩:=Ci f e1
  exact⟨o'.aF,aH a1,a2,a3,a4,a5,a6,a7⟩
 exact⟨s1,w1.trans (.fz F (.refl _)),w2⟩
structure adr{ι:Type}(inv:ι->Prop)(μ:ι->Nat)(vars:ι->Fm)(objs:ι->List (Nat×OV))(base:Fm)(nx pn:Nat)(i:ι)(m:Fm)(h:Hz):Prop where
 ok: ∃ h2 j nw,Frz h h2/\inv j/\μ j<μ i/\oD (pI (objs j) nw) m (vars j)/\oD (pI (objs j) nw) m base/\okR (pI (objs j) nw) nx pn h2 (objs j) nw
theorem aQ.aam{N pn nx0:Nat}(nx:Nat){b:fO}{Q:Qz}{m:Fm}{h:Hz}{ι:Type}(live:List Nat)(vars:ι->Fm)(objs:ι->List (Nat×OV))(inv:ι->Prop)(μ:ι->Nat)(i0:ι)(Pq:List Nat)(h2:Hz)(hd:qQ N b=true)(hp:pn<=nx)(hv: ∀ i,XY nx N (vars i)=true)(h0:inv i0)
  (he:oD (pI (objs i0) Pq) m (vars i0)) (hf:Frz h h2) (ho:okR (pI (objs i0) Pq) nx pn h2 (objs i0) Pq)
  (H:IQ m live [] fun base=>oD (pI (objs i0) Pq) m base/\XY nx N base=true/\ ∀ i,inv i->az P N pn b (fun e m' h' n'=>match e with
   | .normal=>adr inv μ vars objs base nx pn i m' h'
   |e=>Q e m' h' n') (vars i++base) (KZ (objs i)) nx):aQ P N pn b Q m h nx0:=by
 obtain⟨base,⟨hbs,hb,H⟩,hbm⟩:=Ah H (fun i v q=>by cases q)
 refine⟨fun fr hl R=>?_⟩
 have hall: ∀ i j v,Fm.get j (vars i++base)=some v->T.lt nx v.aI=true/\j<N:=fun i j v q=>by
  rcases get_append q with q|q
  ·exact wB (hv i) q
  ·exact wB hb q
 have wk: ∀ (i:ι) (nw:List Nat) (m':Fm) (h' h2':Hz) (s':AS),s'.fr.length=N->Rp m' s'.fr->s'.hp=h'.aj->s'.pin=pn->Frz h' h2'->oD (pI (objs i) nw) m' (vars i)->oD (pI (objs i) nw) m' base->okR (pI (objs i) nw) nx pn h2' (objs i) nw ->
   Wk ⟨vO N (vars i++base),(KZ (objs i)).aj,nx,pn⟩ s':=by
  intro i nw m' h' h2' s' a1 a2 a3 a4 af a5 a6 a7
  obtain⟨fr',hp',nx',pn'⟩:=s'
  simp only at a1 a2 a3 a4
  subst a3; subst a4
  refine af.wk (_s1:=⟨fr',h2'.aj,nx',pn'⟩) ?_
  rw[<- OG a7]
  have e:BK (zI (objs i) nw)=pI (objs i) nw:=funext fun _=>IV
  refine Wk.objs (zI (objs i) nw) (EM a1 a2 fun j v q=>?_) (DT fun j v q=>(hall i j v q).1) hp (by rw[e]; exact OH a7)
  rw[e]
  rcases get_append q with q|q
  ·exact uw a5 q
  ·exact uw a6 q
 refine yF.rule (fun i=>⟨vO N (vars i++base),(KZ (objs i)).aj,nx,pn⟩) inv μ i0 h0 (wk i0 Pq m h h2 _ hl R rfl rfl hf he hbs ho) ?_
 intro i hi
 have:=sJ (P:=P) (N:=N) (pn:=pn) (s:=⟨vO N (vars i++base),(KZ (objs i)).aj,nx,pn⟩) hd xI (DR fun j v q=>(hall i j v q).2) rfl rfl (H i hi)
 refine nM ?_ this
 rintro e s' ⟨m',h',a1,a2,a3,a4,a5⟩
 cases e with
 |normal =>
  obtain⟨h2',j,nw,bf,b1,b2,b3,b4,b5⟩:=a5.ok
  exact⟨j,⟨b1,b2⟩,wk j nw m' h' h2' s' a1 a2 a3 a4 bf b3 b4 b5⟩
 |exit j=>exact⟨m',h',a1,a2,a3,a4,a5⟩
 |ret=>exact⟨m',h',a1,a2,a3,a4,a5⟩
theorem iZ{Z:Nat->Prop}{h:Hz}{i:Nat}{o:OV}(e:h.get i=some o)(hz: ¬ Z i): ∃ o',h.get i=some o'/\ ¬ Z i/\o'.aF.ty=o.aF.ty/\o'.aF.k=o.aF.k/\T.dJ Z h.aj o.aF.l o'.aF.l/\o.aF.l.map T.kd=o'.aF.l.map T.kd/\o.aF.l.map iC=o'.aF.l.map iC :=
 ⟨o,e,hz,rfl,rfl,cO _,rfl,rfl⟩
end
section
variable {P:Program}
theorem EU{t:T}(q:t.free=true)(ρ:Nat->Nat):t.ren ρ=t:=by
 have:T.dh ρ [t]=[t]:=tX _ ⟨fZ q,trivial⟩
 simpa [T.dh] using this
theorem kN.Rj{h0 h h2:Hz}{n:Nat}{post:T->Hp->Prop}{v u:V}(Z:Nat->Prop)(F:Gi Z h h2)(hg: ∀ i o,h2.get i=some o->(h0.aj i).isSome=true/\T.aO (fun i=>(h0.aj i).isSome=true) o.aF.l/\SA o.aF.k o.aF.l=true)
  (hu:u.free=true) (hv:T.sub Z h.aj u.aI v.aI) (hp:post u.aI h2.aj):kN h0 n post v h:=by
 have hx: ∀ i ob,h2.aj i=some ob-> ∃ o,h2.get i=some o/\o.aF=ob:=fun i ob hi=>by
  simp only[Hz.aj,Option.map_eq_some_iff] at hi
  obtain⟨o,e1,e2⟩:=hi
  exact⟨o,e1,e2⟩
 have hfr:T.ids (fun _=>False) u.aI:=fZ (V.lI u hu)
 refine⟨Z,id,u.aI,h2.aj,hp,by rw[IC]; exact hv,fun i ob hi=>?_,fun i j _ _ e=>e,T.bG (fun _ h=>h.elim) _ hfr,fun i ob hi=>?_,fun _ _ _=>rfl⟩
 ·obtain⟨o,e1,rfl⟩:=hx i ob hi
  obtain⟨o',a1,a2,a3,a4,a5,_,_⟩:=Ci F e1
  exact⟨o'.aF,aH a1,a2,a3,a4,by rw[KF]; exact a5,zA (hg i o e1).2.2⟩
 ·obtain⟨o,e1,rfl⟩:=hx i ob hi
  exact⟨.inl (hg i o e1).1,T.ay (fun _ h=>.inl h) _ (hg i o e1).2.1⟩
theorem ah.aaW{f:FuncId}{ts args:List V}{h:Hz}{i j n:Nat}{o0 Wi o1:OV}{K:V->Hz->Prop}{KW:Nat->V->Hz->Prop}{post:T->Hp->Prop}(H:aP P f (V.aX ts) (Hz.aj [(0,some o0),(1,some o1)]) 2 post)
  (ha:T.dh (fun a=>bif Nat.beq a 0 then i else j) (V.aX ts)=V.aX args) (hid:T.Nr 2 (V.aX ts)=true) (hg:wZ 2 [(0,some o0),(1,some o1)]=true) (hf:o1.Gx=true)
  (h0:o0.aF.ren (fun a=>bif Nat.beq a 0 then i else j)=Wi.aF) (hi:h.get i=some Wi) (hj:h.get j=some o1) (hij:i≠j) (hn:h.get n=none) (hin:n≠i) (hjn:n≠j)
  (hK: ∀ t hp,post t hp-> ∃ v o,hp=Hz.aj [(0,some o0),(1,some o)]/\o.Gx=true/\t=v.aI/\v.free=true/\K v ((j,some o)::h)):ah P false none f args h n K KW:=by
 have hG:=pV hg
 have hlt: ∀ a:Nat,a<2->(Hz.aj [(0,some o0),(1,some o1)] a).isSome=true:=fun a ha=>by
  rw[dM,sO]; by_cases e:a=0
  ·rw[if_pos e]; rfl
  ·rw[if_neg e,if_pos (by omega)]; rfl
 have hsome: ∀ a,(Hz.aj [(0,some o0),(1,some o1)] a).isSome=true->a=0\/a=1:=fun a ha=>by
  rw[dM,sO] at ha; split at ha
  ·left; assumption
  ·split at ha
   ·right; assumption
   ·cases ha
 let ρ:Nat->Nat:=fun a=>bif Nat.beq a 0 then i else j
 have r0:ρ 0=i:=rfl
 have r1:ρ 1=j:=rfl
 have n0:nameAt ρ 2 n 0=i:=rfl
 have n1:nameAt ρ 2 n 1=j:=rfl
 have n2:nameAt ρ 2 n 2=n:=rfl
 have Wv: ∀ a b,(Hz.aj [(0,some o0),(1,some o1)] a).isSome=true->(Hz.aj [(0,some o0),(1,some o1)] b).isSome=true->ρ a=ρ b->a=b:=by
  intro a b ha hb e
  rcases hsome a ha with rfl|rfl<;>rcases hsome b hb with rfl|rfl
  ·rfl
  ·exact absurd e hij
  ·exact absurd e.symm hij
  ·rfl
 have inj: ∀ a b,((Hz.aj [(0,some o0),(1,some o1)] a).isSome=true\/a=2)->((Hz.aj [(0,some o0),(1,some o1)] b).isSome=true\/b=2)->nameAt ρ 2 n a=nameAt ρ 2 n b->a=b:=by
  intro a b ha hb e
  rcases ha with ha|rfl
  ·rcases hb with hb|rfl
   ·rcases hsome a ha with rfl|rfl<;>rcases hsome b hb with rfl|rfl
    ·rfl
    ·exact absurd e hij
    ·exact absurd e.symm hij
    ·rfl
   ·rcases hsome a ha with rfl|rfl
    ·exact absurd e.symm hin
    ·exact absurd e.symm hjn
  ·rcases hb with hb|rfl
   ·rcases hsome b hb with rfl|rfl
    ·exact absurd e hin
    ·exact absurd e hjn
   ·rfl
 refine ah.heap (post:=fun t' h'=> ∃ t h1,post t h1/\t'=t.ren (nameAt ρ 2 n)/\h'=placed ρ 2 n (Hz.aj [(0,some o0),(1,some o1)]) h.aj h1) ?_ ?_
 ·rw[<- ha]
  refine aP.place H (T.ay hlt _ (zX hid)) (fun a ob hob=>?_) (by rw[dM,sO]; rfl) (fun a ob hob=>?_) Wv
  ·exact⟨T.ay hlt _ (hG a ob hob).2.1,(hG a ob hob).2.2⟩
  ·have hs:(Hz.aj [(0,some o0),(1,some o1)] a).isSome=true:=by rw[hob]; rfl
   rcases hsome a hs with rfl|rfl
   ·rw[dM,if_pos rfl] at hob; cases hob
    show h.aj i=_
    rw[aH hi]; exact congrArg some h0.symm
   ·rw[dM,sO,if_neg (by decide),if_pos rfl] at hob; cases hob
    show h.aj j=_
    rw[aH hj,pX hf]
 ·rintro t' h' ⟨t,h1,hp,rfl,rfl⟩
  obtain⟨v,o,rfl,ho,rfl,hvf,hk⟩:=hK t h1 hp
  refine⟨v,_,EU (V.lI v hvf) _,?_,hk⟩
  funext a
  rw[dM]
  have at0:placed ρ 2 n (Hz.aj [(0,some o0),(1,some o1)]) h.aj (Hz.aj [(0,some o0),(1,some o)]) i=(Hz.aj [(0,some o0),(1,some o)] 0).map (Ob.ren (nameAt ρ 2 n)):=oU (h:=h.aj) (h1:=Hz.aj [(0,some o0),(1,some o)]) inj (i:=0) (.inl (hlt 0 (by decide)))
  have at1:placed ρ 2 n (Hz.aj [(0,some o0),(1,some o1)]) h.aj (Hz.aj [(0,some o0),(1,some o)]) j=(Hz.aj [(0,some o0),(1,some o)] 1).map (Ob.ren (nameAt ρ 2 n)):=oU (h:=h.aj) (h1:=Hz.aj [(0,some o0),(1,some o)]) inj (i:=1) (.inl (hlt 1 (by decide)))
  have at2:placed ρ 2 n (Hz.aj [(0,some o0),(1,some o1)]) h.aj (Hz.aj [(0,some o0),(1,some o)]) n=(Hz.aj [(0,some o0),(1,some o)] 2).map (Ob.ren (nameAt ρ 2 n)):=oU (h:=h.aj) (h1:=Hz.aj [(0,some o0),(1,some o)]) inj (i:=2) (.inr rfl)
  by_cases e1:a=j
  ·subst e1; rw[if_pos rfl,at1,dM,sO,if_neg (by decide),if_pos rfl,Option.map_some,pX ho]; rfl
  ·rw[if_neg e1]
   by_cases e0:a=i
   ·subst e0
    rw[at0,dM,if_pos rfl,aH hi,<- h0]
    refine congrArg some ?_
    have hc:T.dh (nameAt ρ 2 n) o0.aF.l=T.dh ρ o0.aF.l:=rO (M:=(· <2)) (fun b hb=>if_neg (by omega)) _ (hG 0 o0.aF (by rw[dM,if_pos rfl]; rfl)).2.1
    unfold Ob.ren
    rw[hc]
   ·by_cases e2:a=n
    ·subst e2; rw[at2,dM,sO,if_neg (by decide),if_neg (by decide)]; simp only[Hz.aj,hn]; rfl
    ·exact Bq (by
      rintro⟨b,hb,e⟩
      rcases hb with hb|rfl
      ·rcases hsome b hb with rfl|rfl
       ·exact e0 e.symm
       ·exact e1 e.symm
      ·exact e2 e.symm)
theorem ah.new2{f:FuncId}{args:List V}{h:Hz}{n:Nat}{_v:V}{o0 Wi o1:OV}{K:V->Hz->Prop}{KW:Nat->V->Hz->Prop}(H:kF P f (V.aX args) (Hz.aj []) 0 1 fun t hp=>t= .ptr 0 0 0/\hp=Hz.aj [(0,some o0),(1,some o1)])
  (ha:V.bZ args=true) (hf:o1.Gx=true) (h0:o0.aF.ren (fun a=>n+a)=Wi.aF) (hi0:T.aO (· <2) o0.aF.l) (hn: ∀ m,n<=m->h.get m=none) (hK:KW 1 (.ptr n 0 0) ((n,some Wi)::(n+1,some o1)::h)):ah P false none f args h n K KW:=by
 have hz:T.dh (fun a=>a) (V.aX args)=V.aX args:=tX _ (cZ (V.gJ _ ha))
 have e0:(Hz.aj [])=(no:Hp):=rfl
 have hp:=kF.place H (ρ:=fun a=>a) (h:=h.aj) (n:=n) (T.ay (fun _ h=>h.elim) _ (cZ (V.gJ _ ha))) (fun i ob hi=>by cases hi) (fun i hi=>by cases hi) (fun i ob hi=>by cases hi) (fun i j hi=>by cases hi)
 rw[hz] at hp
 refine⟨.inr (.inl ⟨rfl,rfl,1,hp.mono ?_⟩)⟩
 rintro t' h' ⟨t,h1,⟨rfl,rfl⟩,rfl,rfl⟩
 refine⟨.ptr n 0 0,_,?_,?_,hK⟩
 ·show T.ptr (AZ (fun a=>a) 0 1 n 0) 0 0=T.ptr n 0 0
  rw[show AZ (fun a=>a) 0 1 n 0=n+(0-0) from if_pos (by omega)]; rfl
 ·have nk: ∀ a,a<=1->AZ (fun a=>a) 0 1 n a=n+a:=fun a ha=>by
   rw[show AZ (fun a=>a) 0 1 n a=n+(a-0) from if_pos (by omega)]; rfl
  have inj: ∀ a b,(((Hz.aj []) a).isSome=true\/(0<=a/\a<=0+1))->(((Hz.aj []) b).isSome=true\/(0<=b/\b<=0+1))->AZ (fun a=>a) 0 1 n a=AZ (fun a=>a) 0 1 n b->a=b:=by
   intro a b ha hb e
   rcases ha with ha|ha
   ·cases ha
   rcases hb with hb|hb
   ·cases hb
   rw[nk a (by omega),nk b (by omega)] at e; omega
  funext a
  rw[dM,dM]
  by_cases c0:a=n
  ·subst c0
   rw[if_pos rfl]
   have:=yx (h:=h.aj) (h1:=Hz.aj [(0,some o0),(1,some o1)]) inj (i:=0) (.inr (by omega))
   rw[nk 0 (by omega)] at this
   refine Eq.trans this ?_
   rw[dM,if_pos rfl,Option.map_some,Option.map_some,Option.map_some,<- h0]
   refine congrArg some ?_
   unfold Ob.ren
   rw[rO (M:=(· <2)) (fun b hb=>nk b (by omega)) _ hi0]
  ·rw[if_neg c0]
   by_cases c1:a=n+1
   ·subst c1
    rw[if_pos rfl]
    have:=yx (h:=h.aj) (h1:=Hz.aj [(0,some o0),(1,some o1)]) inj (i:=1) (.inr (by omega))
    rw[nk 1 (by omega)] at this
    refine Eq.trans this ?_
    rw[dM,sO,if_neg (by decide),if_pos rfl,Option.map_some,pX hf]; rfl
   ·rw[if_neg c1]
    exact zB (by
     rintro⟨b,hb,e⟩
     rcases hb with hb|hb
     ·cases hb
     rw[nk b (by omega)] at e; omega)
structure aaD(o0 o1:OV)(v:V)(h:Hz):Prop where
 ok: ∃ a b Wi,v= .ptr a 0 0/\a≠b/\h.get a=some Wi/\o0.aF.ren (fun i=>bif Nat.beq i 0 then a else b)=Wi.aF/\h.get b=some o1
def ab4(o0 o1:OV)(rs:List RV):Qz
 | .exit _,_,_,_=>False
 |_,m,h,_=>match resV m h rs with
  |some v=>v.seq fun v=>aaD o0 o1 v h
  |none=>False
theorem aaS.of{f:FuncId}{ac:fO}{rs:List RV}{nt:Nat}{args:List V}{o0 o1:OV}(B:Body P f ac rs nt)(hn:args.length<=nt)(ha:V.bZ args=true)(hg:wZ 2 [(0,some o0),(1,some o1)]=true)(hf:o1.Gx=true)
  (H:az P nt 0 ac (ab4 o0 o1 rs) (BP 0 args) [] 0):kF P f (V.aX args) (Hz.aj []) 0 1 fun t hp=>t= .ptr 0 0 0/\hp=Hz.aj [(0,some o0),(1,some o1)]:=by
 obtain⟨fn,c,h1,h2,h3,h4,h5⟩:=B.ex
 have hG:=pV hg
 refine kF.Ae (nx:=0) h1 h2 h3 h4 B.cl h5 ⟨_,_,rfl,rfl⟩ (T.ay (fun _ h=>h.elim) _ (cZ (V.gJ _ ha))) (fun i ob hi=>by cases hi) ?_
 have:=sJ (P:=P) (N:=nt) (pn:=0) (s:=⟨V.aX args++List.replicate (nt-(V.aX args).length) T.un,(Hz.aj []),0,0⟩) B.dst (by simp[dR]; omega) BQ rfl rfl H
 refine nM ?_ this
 rintro e s ⟨m,h,a1,a2,a3,a4,a5⟩
 have key: ∀ {m h},Rp m s.fr->s.hp=Hz.aj h->(match resV m h rs with|some v=>v.seq fun v=>aaD o0 o1 v h|none=>False)-> ∃ s1,FK s1 s/\UM (Hz.aj []) (fun i=>0<=i/\i<=0+1) (fun t hp=>t= .ptr 0 0 0/\hp=Hz.aj [(0,some o0),(1,some o1)]) rs s1:=by
  intro m h a2 a3 q
  split at q
  ·rename_i v hv
   rw[V.seq_eq] at q
   obtain⟨b1,b2⟩:=Me a2 a3 hv
   obtain⟨a,b,Wi,rfl,hab,q0,e0,q1⟩:=q.ok
   have hx: ∀ i ob,Hz.aj [(0,some o0),(1,some o1)] i=some ob->(i=0/\ob=o0.aF)\/(i=1/\ob=o1.aF):=fun i ob hi=>by
    rw[dM,sO] at hi; split at hi
    ·left; cases hi; exact⟨by assumption,rfl⟩
    ·split at hi
     ·right; cases hi; exact⟨by assumption,rfl⟩
     ·cases hi
   refine⟨s,.refl _,b1,fun _=>False,fun i=>bif Nat.beq i 0 then a else b,.ptr 0 0 0,Hz.aj [(0,some o0),(1,some o1)],⟨rfl,rfl⟩,by rw[b2]; exact aB _,fun i ob hi=>?_,fun i j hi hj e=>?_,?_,fun i ob hi=>?_,fun i hi=>by cases hi⟩
   ·rw[a3]
    rcases hx i ob hi with ⟨rfl,rfl⟩|⟨rfl,rfl⟩
    ·refine⟨Wi.aF,aH q0,fun h=>h,by rw[<- e0]; rfl,by rw[<- e0]; rfl,?_,zA (hG 0 o0.aF (by rw[dM,if_pos rfl]; rfl)).2.2⟩
     rw[<- e0]; exact cO _
    ·refine⟨o1.aF,aH q1,fun h=>h,rfl,rfl,?_,zA (hG 1 o1.aF (by rw[dM,sO,if_neg (by decide),if_pos rfl])).2.2⟩
     rw[OV.xR hf]; exact cO _
   ·obtain⟨oi,hi⟩:=Option.isSome_iff_exists.1 hi
    obtain⟨oj,hj⟩:=Option.isSome_iff_exists.1 hj
    rcases hx i oi hi with ⟨rfl,_⟩|⟨rfl,_⟩<;>rcases hx j oj hj with ⟨rfl,_⟩|⟨rfl,_⟩
    ·rfl
    ·exact absurd e hab
    ·exact absurd e.symm hab
    ·rfl
   ·exact .inr ⟨by decide,by decide⟩
   ·have hw: ∀ k:Nat,k<2->((Hz.aj []:Hp) k).isSome=true\/(0<=k/\k<=0+1):=fun k hk=>.inr (by omega)
    have:=hG i ob hi
    exact⟨hw i this.1,T.ay hw _ this.2.1⟩
  ·exact q.elim
 cases e with
 |exit j=>exact a5.elim
 |normal=>exact key a2 a3 a5
 |ret=>exact key a2 a3 a5
end
section
variable {P:Program}
end
section
variable {P:Program}
structure Dfr where
 d:Nat
 g:FuncId
 x:Nat
 y:Nat
def ads:List Oper->Option Dfr
 |[o1,o2]=>match o1.op,o1.dst,o1.guard,o2.op,o2.dst,o2.guard with
  | .makeFunc (.func g) ⟨[]⟩ ⟨[.tmp x,.tmp y]⟩,some d,none,.defer ⟨.value (.tmp e),⟨[]⟩,⟨[]⟩⟩,none,none=>bif Nat.beq d e then some ⟨d,g,x,y⟩ else none
  |_,_,_,_,_,_=>none
 |_=>none
def X0(P:Program):Code->Option (fO×Dfr×fO)
 | .seq (.region id ops false) c=>match ads ops.toList with
  |some i=>(comp P c).map fun b=>(.skip,i,b)
  |none=>match comp P (.region id ops false),X0 P c with
   |some a,some (a',i,b)=>some (.seq a a',i,b)
   |_,_=>none
 | .seq a c=>match comp P a,X0 P c with
  |some a,some (a',i,b)=>some (.seq a a',i,b)
  |_,_=>none
 |_=>none
def ZV(P:Program)(f:FuncId)(ts:List T)(h:Hp)(n:Nat)(post:Hp->Prop):Prop :=
 ∀ (F:Fr P) (M:Nat->Prop) (E:Env) (vs:List Value),oP F E->E.h=h->bD E ts vs->T.aO M ts->mD M h-> ¬ M n ->
  CallsD P f vs.toArray .returning E.w fun e u w'=>u= .returning/\Ends F M E n (fun _ h'=>post h') e w'
structure aeg(P:Program)(f:FuncId)(a b:fO)(i:Dfr)(rs:List RV)(nt:Nat):Prop where
 ex: ∃ fn c,P.funcs[f]? =some fn/\fn.body=some c/\X0 P c=some (a,i,b)/\lH P fn.results.toList=some rs/\fn.ntmps=nt
 cl:callable P f
 dst:(qQ nt a&&qQ nt b&&Nat.blt i.d nt)=true
structure aeo(P:Program)(g:FuncId)(us:List V)(h:Hz)(nx pn:Nat)(K:Hz->Prop):Prop where
 ok:T.Nr pn (V.aX us)=true/\ZV P g (V.aX us) h.aj nx fun hp=> ∃ h':Hz,hp=h'.aj/\K h'
theorem aP.Rj{f:FuncId}{ts ts2:List T}{h h2:Hp}{n:Nat}{post:T->Hp->Prop}(Z:Nat->Prop)(H:aP P f ts2 h2 n post)(hs:T.dJ Z h ts2 ts)
  (ho: ∀ i ob,h2 i=some ob-> ∃ ob',h i=some ob'/\ ¬ Z i/\ob'.ty=ob.ty/\ob'.k=ob.k/\T.dJ Z h ob.l ob'.l/\ob.l.map T.kd=ob'.l.map T.kd/\ob.l.map iC=ob'.l.map iC):aP P f ts h n post:=by
 obtain⟨h1,hcl,hcall⟩:=H
 refine⟨h1,hcl,fun F M E vs hk he hrep hid hm hn=>?_⟩
 subst he
 have UN: ∀ i ob,h2 i=some ob-> ∃ ob',E.h (id i)=some ob'/\ ¬ Z (id i)/\Gj Z E.h id ob ob':=fun i ob hi=>by
  obtain⟨ob',a1,a2,a3,a4,a5,a6,a7⟩:=ho i ob hi
  refine⟨ob',a1,a2,a3,a4,by rw[DC]; exact a5,?_⟩
  have hkd:=(hk.obs i ob' a1).1.kinds
  rw[<- a4]
  rcases hkd with ⟨g1,g2⟩|⟨g1,g2⟩
  ·exact .inl ⟨g1,Gl a7 g2⟩
  ·exact .inr ⟨g1,D6 a6 g2⟩
 let E2:Env:=(E.shut Z).ren id h2
 have hk2:oP F E2:=hk.ren UN fun i j _ _ e=>e
 have hl: ∀ i,(h2 i).isSome=true->((E.shut Z).h (id i)).isSome=true:=fun i hi=>by
  obtain⟨ob,hob⟩:=Option.isSome_iff_exists.1 hi
  obtain⟨ob',b1,b2,_⟩:=UN i ob hob
  rw[vP b2,b1]; rfl
 have adt:bD E2 ts2 vs:=by
  have e:T.dh id ts2=ts2:=DC ts2
  have:=nH hk _ _ hs _ hrep
  rw[<- e] at this
  exact qR hl _ _ this
 refine(hcall F M E2 vs hk2 rfl adt (nX _ _ hs hid) (fun i ob hi=>?_) hn).mono ?_
 ·obtain⟨ob',a1,_,_,_,a5,_⟩:=ho i ob hi
  exact⟨(hm i ob' a1).1,nX _ _ a5 (hm i ob' a1).2⟩
 ·rintro e w' ⟨v,t,E',rfl,rfl,r3,r4,r5,r6,r7,r8,r9⟩
  refine⟨v,t,E',rfl,rfl,r3,r4,r5,⟨fun g hg=>r6.s g (.inl hg),fun g hg=>r6.w g (hg.imp .inl id),r6.size,r6.os,r6.tape,r6.output,r6.y⟩,fun i hi hsome=>?_,r8,r9⟩
  obtain⟨q1,q2,q3⟩:=r7 i hi hsome
  obtain⟨ob,hob⟩:=Option.isSome_iff_exists.1 q1
  obtain⟨ob',a1,_⟩:=ho i ob hob
  exact⟨by rw[a1]; rfl,q2,q3⟩
theorem ah.Rj{f:FuncId}{args:List V}{h h2:Hz}{n:Nat}{K:V->Hz->Prop}{KW:Nat->V->Hz->Prop}(Z:Nat->Prop)(F:Gi Z h h2)(H:aP P f (V.aX args) h2.aj n fun t hp=> ∃ v h',t=v.aI/\hp=Hz.aj h'/\K v h'):ah P false none f args h n K KW:=by
 refine⟨.inl ?_⟩
 refine aP.Rj Z (aP.mono H fun t hp ⟨v,h',a,b,c⟩=>⟨v,h',a,b,(fun e=>by cases e),c⟩) (cO _) fun i ob hi=>?_
 simp only[Hz.aj,Option.map_eq_some_iff] at hi
 obtain⟨o,e1,rfl⟩:=hi
 obtain⟨o',a1,a2,a3,a4,a5,a6,a7⟩:=Ci F e1
 exact⟨o'.aF,aH a1,a2,a3,a4,a5,a6,a7⟩
end
section
variable {P:Program} {H:Type} {enc:TypeId×Value->H}
inductive Sh where
 |int
 |u64
 |str
 |bool
 |sl (k:Nat) (s:Sh)
 |st (l:List Sh)
mutual
def Sh.cells:Sh->Nat
 | .st l=>Sh.wQ l
 |_=>1
def Sh.wQ:List Sh->Nat
 |[]=>0
 |s::l=>s.cells+Sh.wQ l
end
def Sh.kd:Sh->Nat
 | .st l=>Sh.wQ l+1
 |_=>0
mutual
def Sh.fits(P:Program):Sh->TypeId->Bool
 | .int,t=>match P.underlying t with|some (.int .i64)=>true|_=>false
 | .u64,t=>match P.underlying t with|some (.int .u64)=>true|_=>false
 | .str,t=>match P.underlying t with|some .string=>true|_=>false
 | .bool,t=>match P.underlying t with|some .bool=>true|_=>false
 | .sl k s,t=>match P.underlying t with
  |some (.slice e)=>s.fits P e&&Nat.beq s.kd k&&Nat.beq (P.cellsOf e) s.cells&&Nat.blt 0 s.cells
  |_=>false
 | .st l,t=>match P.underlying t with
  |some (.struct fs)=>Sh.Ky P l fs.toList 0&&Nat.beq (P.cellsOf t) (Sh.wQ l)
  |_=>false
def Sh.Ky(P:Program):List Sh->List Field->Nat->Bool
 |[],[],_=>true
 |s::l,f::fs,off=>s.fits P f.type&&Nat.beq f.offset off&&Nat.beq (P.cellsOf f.type) s.cells&&Sh.Ky P l fs (off+s.cells)
 |_,_,_=>false
end
mutual
def Sh.aI:Sh->DataW H->T
 | .int,.lit (.int _ n)=>.int n
 | .u64,.lit (.int _ n)=>.lit (.int .u64 n)
 | .str,.lit (.string l)=>.lit (.string ⟨l.toArray⟩)
 | .bool,.lit (.bool b)=>.bool b
 | .sl k s,.slice es _=>.sl k false (es.map s.aI)
 | .sl k _,.nil=>.sl k false []
 | .st l,.agg ds=>.agg (Sh.EN l ds)
 |_,_=>.any
def Sh.EN:List Sh->List (DataW H)->List T
 |s::l,d::ds=>(s.aI d).cells++Sh.EN l ds
 |_,_=>[]
end
def SY(v:Value):Prop:= ∀ n,v≠ .int .u8 n
mutual
def Sh.wf:Sh->DataW H->Prop
 | .int,d=> ∃ n,d= .lit (.int .i64 n)/\(Lit.int .i64 n).wf=true
 | .u64,d=> ∃ n,d= .lit (.int .u64 n)/\(Lit.int .u64 n).wf=true
 | .str,d=> ∃ l,d= .lit (.string l)
 | .bool,d=> ∃ b,d= .lit (.bool b)
 | .sl _ s,d=>d= .nil\/ ∃ es sp,d= .slice es sp/\ ∀ x∈es,s.wf x
 | .st l,d=> ∃ ds,d= .agg ds/\Sh.U3 l ds
def Sh.U3:List Sh->List (DataW H)->Prop
 |[],ds=>ds=[]
 |s::l,ds=> ∃ d r,ds=d::r/\s.wf d/\Sh.U3 l r
end
structure Rd(E:Env)(s:Sh)(d:DataW H)(cs:List Value):Prop where
 rep:aJ E (s.aI d) cs
 len:cs.length=s.cells
 one: ∀ v∈cs,v.oneCell'=true
 u8: ∀ v∈cs,SY v
 free:(s.aI d).free=true
 kd:(s.aI d).kd=s.kd
 wf:s.wf d
structure RdL(E:Env)(l:List Sh)(ds:List (DataW H))(cs:List Value):Prop where
 rep:aW E (Sh.EN l ds) cs
 len:cs.length=Sh.wQ l
 one: ∀ v∈cs,v.oneCell'=true
 u8: ∀ v∈cs,SY v
 free:T.bZ (Sh.EN l ds)=true
 cnt:(Sh.EN l ds).length=Sh.wQ l
 wf:Sh.U3 l ds
theorem OI{E:Env}{k:Nat}: ∀ {l:List T} {vs:List Value},l.length*bC k<=vs.length->(∀ j t,l[j]? =some t->t.kd=k/\(∀ v∈(vs.drop (j*bC k)).take (bC k),v.oneCell'=true)/\aJ E t ((vs.drop (j*bC k)).take (bC k)))->aC E k l vs:=by
 intro l
 induction l with
 |nil=>intro vs _ _; trivial
 |cons t ts ih =>
  intro vs hl H
  simp only[List.length_cons,Nat.add_mul,Nat.one_mul] at hl
  obtain⟨h1,h2,h3⟩:=H 0 t rfl
  simp only[Nat.zero_mul,List.drop_zero] at h2 h3
  refine⟨h1,by omega,h2,h3,ih (by simp; omega) fun j u hj=>?_⟩
  have:=H (j+1) u (by simpa using hj)
  rw[List.drop_drop]
  rw[Nat.add_mul,Nat.one_mul,Nat.add_comm (j*bC k)] at this
  exact this
theorem U4{E:Env}: ∀ {a b:List T} {x y:List Value},aW E a x->aW E b y->aW E (a++b) (x++y):=by
 intro a
 induction a with
 |nil=>intro b x y h1 h2; simp only[aW] at h1; subst h1; exact h2
 |cons t a ih =>
  intro b x y h1 h2
  simp only[aW] at h1
  obtain⟨hk,v,r,rfl,h3,h4,h5⟩:=h1
  simp only[List.cons_append,aW]
  exact⟨hk,v,r++y,rfl,h3,h4,ih h5 h2⟩
theorem U5{a b:List T}(ha:T.bZ a=true)(hb:T.bZ b=true):T.bZ (a++b)=true:=by
 rw[gY] at *
 intro t ht
 rcases List.mem_append.1 ht with h|h
 ·exact ha t h
 ·exact hb t h
theorem OJ{E:Env}{t:T}{cs:List Value}(h:aJ E t cs)(hl:t.kd=0->cs.length=1)(h1: ∀ v∈cs,v.oneCell'=true):aW E t.cells cs:=by
 have other: ∀ t:T,t.cells=[t]->t.kd=0->aJ E t cs->(t.kd=0->cs.length=1)->aW E t.cells cs:=by
  intro t e k h hl
  rw[e]
  have:=hl k
  match cs,this with
  |[v],_=>simp only[aW]; exact⟨k,v,[],rfl,h1 v (by simp),h,rfl⟩
 cases t with
 |agg l=>simp only[aJ] at h; exact h
 |_=>exact other _ rfl rfl h hl
theorem Q5{t:T}(h:t.free=true):T.bZ t.cells=true:=by
 cases t with
 |agg l=>exact h
 |_=>simp only[T.cells,T.bZ,Bool.and_true]; exact h
theorem U6{t:T}:t.cells.length=bC t.kd:=by
 cases t with
 |agg l=>rfl
 |_=>rfl
theorem Sh.ng(s:Sh):bC s.kd=s.cells:=by
 cases s<;>rfl
theorem cell?_at{w:World}{a:Addr}{v:Value}(h:w.cell? a=some v): ∃ cur ty m,w.heap[a.block]? =some (.cells cur ty m)/\a.spot=none/\cur.toList[a.off]? =some v:=by
 unfold World.cell? at h
 split at h
 ·rename_i c t f e
  split at h
  ·cases h
  ·rename_i hs
   exact⟨c,t,f,e,by simpa using hs,by simpa using h⟩
 ·cases h
theorem KA{w:World}{base:Nat}{a:Addr}{n:Nat}{cs:List Value}(h:w.cells? base a n=some cs)(hn:0<n): ∃ cur ty m,w.heap[a.block]? =some (.cells cur ty m)/\a.spot=none/\cs=(cur.toList.drop a.off).take n:=by
 obtain⟨_,hl,hc⟩:=World.cells?_some h
 have h0:=hc 0 hn
 have e0:a.add 0=a:=by simp[Addr.add]
 rw[e0,List.getElem?_eq_getElem (by omega)] at h0
 obtain⟨cur,ty,m,h1,h2,_⟩:=cell?_at h0
 refine⟨cur,ty,m,h1,h2,?_⟩
 have key: ∀ j,j<n->cur.toList[a.off+j]? =cs[j]? :=by
  intro j hj
  have:=hc j hj
  rw[List.getElem?_eq_getElem (by omega)] at this
  obtain⟨cur',ty',m',g1,g2,g3⟩:=cell?_at this
  have eb:(a.add j).block=a.block:=by unfold Addr.add; split<;>rfl
  have eo:(a.add j).off=a.off+j:=by
   obtain⟨b,o,sp⟩:=a
   simp only at h2; subst h2
   rw[Go.WideShapes.add_plain]
  rw[eb,h1] at g1
  cases g1
  rw[eo] at g3
  rw[g3,List.getElem?_eq_getElem (by omega)]
 apply List.ext_getElem?
 intro j
 by_cases hj:j<n
 ·rw[List.getElem?_take,if_pos hj,List.getElem?_drop,key j hj]
 ·rw[List.getElem?_eq_none (by omega),List.getElem?_eq_none (by simp; omega)]
def DV(E:Env):Prop:= ∀ b cur ty m,E.w.heap[b]? =some (.cells cur ty m)->(∃ v∈cur.toList,SY v)->E.S b
theorem X3{E:Env}{s:Sh}{k:Nat}{base:Nat}{spare:Nat->Bool}{held:Bool}(hS:DV E){t e:TypeId}(ht:P.underlying t=some (.slice e))(hk:s.kd=k)(hce:P.cellsOf e=s.cells)(hpos:0<s.cells)
  (ih: ∀ (n:Nat) (cs:List Value) (d:DataW H) (ps:List MemPlace),DataW.trod enc P E.w base spare held n e cs=some (d,ps)->Rd E s d cs)
  {n:Nat} {cs:List Value} {d:DataW H} {ps:List MemPlace} (h:DataW.trod enc P E.w base spare held n t cs=some (d,ps)):Rd E (.sl k s) d cs:=by
 rcases DataW.trod_slice ht h with ⟨rfl,hx⟩|⟨a,len,cap,elems,rest,m,_,rfl,hx,hb,hl,hm,hlen,hel,_,_⟩
 ·cases hx
  refine⟨?_,rfl,(fun v hv=>by rw[List.mem_singleton] at hv; subst hv; rfl),(fun v hv=>by rw[List.mem_singleton] at hv; subst hv; intro n e; cases e),rfl,rfl,.inl rfl⟩
  simp only[Sh.aI,aJ]
  exact⟨none,0,rfl,Nat.le_refl _,nofun,.inl trivial⟩
 ·cases hx
  have hlen':(elems.map (·.1)).length=len:=by simpa using hlen
  refine⟨?_,rfl,(fun v hv=>by rw[List.mem_singleton] at hv; subst hv; rfl),(fun v hv=>by rw[List.mem_singleton] at hv; subst hv; intro n e; cases e),rfl,rfl,.inr ⟨_,_,rfl,fun x hx=>?_⟩⟩
  rotate_left
  ·obtain⟨y,hy,rfl⟩:=List.mem_map.1 hx
   obtain⟨i,hi,rfl⟩:=List.getElem_of_mem hy
   have:=hel i (by omega)
   rw[List.getElem?_eq_getElem hi] at this
   obtain⟨cs',_,h2⟩:=Option.bind_eq_some_iff.1 this
   exact(ih _ _ _ _ h2).wf
  simp only[Sh.aI,aJ,List.length_map]
  refine⟨some a,cap,by rw[hlen],by omega,nofun,?_⟩
  by_cases h0:len=0
  ·left
   have:elems=[]:=List.length_eq_zero_iff.1 (by omega)
   rw[this]; rfl
  ·right
   have get: ∀ i,i<len-> ∃ cs',E.w.cells? base (a.add (i*s.cells)) s.cells=some cs'/\ ∃ x,elems[i]? =some x/\Rd E s x.1 cs':=by
    intro i hi
    have:=hel i hi
    rw[hce,List.getElem?_eq_getElem (by omega)] at this
    obtain⟨cs',h1,h2⟩:=Option.bind_eq_some_iff.1 this
    exact⟨cs',h1,elems[i],List.getElem?_eq_getElem (by omega),ih _ _ _ _ h2⟩
   obtain⟨cs0,c1,x0,_,r0⟩:=get 0 (by omega)
   obtain⟨cur,ty,mm,g1,g2,g3⟩:=KA c1 hpos
   have ea:a.add (0*s.cells)=a:=by simp[Addr.add]
   rw[ea] at g1 g2 g3
   obtain⟨b,off,sp⟩:=a
   simp only at g1 g2 g3
   subst g2
   have hsub: ∀ i,i<len-> ∃ x,elems[i]? =some x/\Rd E s x.1 ((cur.toList.drop (off+i*s.cells)).take s.cells):=by
    intro i hi
    obtain⟨cs',q1,x,q2,q3⟩:=get i hi
    obtain⟨cur',ty',m',k1,k2,k3⟩:=KA q1 hpos
    rw[Go.WideShapes.add_plain] at k1 k3
    simp only at k1 k3
    rw[g1] at k1; cases k1
    rw[k3] at q3
    exact⟨x,q2,q3⟩
   have hcur:len*s.cells<=(cur.toList.drop off).length:=by
    obtain⟨x,_,q⟩:=hsub (len-1) (by omega)
    have:=q.len
    rw[List.length_take,List.length_drop] at this
    rw[List.length_drop]
    have e:len*s.cells=(len-1)*s.cells+s.cells:=by
     conv=>lhs; rw[show len=(len-1)+1 by omega,Nat.add_mul,Nat.one_mul]
    omega
   refine⟨b,off,cur,ty,mm,rfl,hS b cur ty mm g1 ?_,g1,?_,?_⟩
   ·have hl0:=r0.len
    match hcs:cs0,hl0 with
    |[],hl0=>simp at hl0; omega
    |v::r,_ =>
     refine⟨v,?_,r0.u8 v (by simp)⟩
     have:v∈(cur.toList.drop off).take s.cells:=by rw[<- g3]; simp
     exact List.mem_of_mem_drop (List.mem_of_mem_take this)
   ·rw[bQ]
    intro t ht
    rw[List.mem_map] at ht
    obtain⟨d,hd,rfl⟩:=ht
    rw[List.mem_map] at hd
    obtain⟨x,hx,rfl⟩:=hd
    obtain⟨i,hi,rfl⟩:=List.getElem_of_mem hx
    obtain⟨x',q1,q2⟩:=hsub i (by omega)
    rw[List.getElem?_eq_getElem hi] at q1
    cases q1
    exact fZ q2.free
   ·refine OI (by rw[List.length_map,List.length_map,hlen,<- hk,Sh.ng]; exact hcur) fun j t hj=>?_
    rw[<- hk,Sh.ng]
    have hjl:j<len:=by
     rcases Nat.lt_or_ge j len with h|h
     ·exact h
     ·rw[List.getElem?_eq_none (by simp; omega)] at hj; cases hj
    obtain⟨x,q1,q2⟩:=hsub j hjl
    rw[List.getElem?_map,List.getElem?_map,q1] at hj
    simp only[Option.map_some,Option.some.injEq] at hj
    subst hj
    rw[List.drop_drop]
    exact⟨q2.kd,q2.one,q2.rep⟩
mutual
theorem Sh.read{E:Env}{base:Nat}{spare:Nat->Bool}{held:Bool}(hS:DV E):(s:Sh)->(t:TypeId)->s.fits P t=true->(n:Nat)->(cs:List Value)->(d:DataW H)->(ps:List MemPlace) ->
  DataW.trod enc P E.w base spare held n t cs=some (d,ps)->Rd E s d cs
 | .int,t,hf,n,cs,d,ps,h=>by
  simp only[Sh.fits] at hf
  split at hf
  ·rename_i e
   obtain⟨z,rfl,hx,hwf⟩:=DataW.trod_int e h
   cases hx
   refine⟨by simp[Sh.aI,aJ],rfl,(fun v hv=>by rw[List.mem_singleton] at hv; subst hv; rfl),(fun v hv=>by rw[List.mem_singleton] at hv; subst hv; intro n e; cases e),rfl,rfl,⟨z,rfl,hwf⟩⟩
  ·cases hf
 | .u64,t,hf,n,cs,d,ps,h=>by
  simp only[Sh.fits] at hf
  split at hf
  ·rename_i e
   obtain⟨z,rfl,hx,hwf⟩:=DataW.trod_int e h
   cases hx
   refine⟨by simp[Sh.aI,aJ],rfl,(fun v hv=>by rw[List.mem_singleton] at hv; subst hv; rfl),(fun v hv=>by rw[List.mem_singleton] at hv; subst hv; intro n e; cases e),rfl,rfl,⟨z,rfl,hwf⟩⟩
  ·cases hf
 | .str,t,hf,n,cs,d,ps,h=>by
  simp only[Sh.fits] at hf
  split at hf
  ·rename_i e
   obtain⟨z,rfl,hx,_⟩:=DataW.trod_string e h
   cases hx
   refine⟨by simp[Sh.aI,aJ],rfl,(fun v hv=>by rw[List.mem_singleton] at hv; subst hv; rfl),(fun v hv=>by rw[List.mem_singleton] at hv; subst hv; intro n e; cases e),rfl,rfl,⟨_,rfl⟩⟩
  ·cases hf
 | .bool,t,hf,n,cs,d,ps,h=>by
  simp only[Sh.fits] at hf
  split at hf
  ·rename_i e
   obtain⟨z,rfl,hx⟩:=DataW.trod_bool e h
   cases hx
   refine⟨by simp[Sh.aI,aJ],rfl,(fun v hv=>by rw[List.mem_singleton] at hv; subst hv; rfl),(fun v hv=>by rw[List.mem_singleton] at hv; subst hv; intro n e; cases e),rfl,rfl,⟨_,rfl⟩⟩
  ·cases hf
 | .sl k s,t,hf,n,cs,d,ps,h=>by
  simp only[Sh.fits] at hf
  split at hf
  ·rename_i e he
   simp only[Bool.and_eq_true] at hf
   obtain⟨⟨⟨f1,f2⟩,f3⟩,f4⟩:=hf
   exact X3 hS he (Nat.eq_of_beq_eq_true f2) (Nat.eq_of_beq_eq_true f3) (Nat.blt_eq.mp f4) (Sh.read hS s e f1) h
  ·cases hf
 | .st l,t,hf,n,cs,d,ps,h=>by
  simp only[Sh.fits] at hf
  split at hf
  ·rename_i fs he
   simp only[Bool.and_eq_true] at hf
   obtain⟨xs,m,_,hx,hlen,hxl,hg⟩:=DataW.trod_struct he h
   cases hx
   have hct:=Nat.eq_of_beq_eq_true hf.2
   have R:=Sh.aaE hS l fs.toList 0 hf.1 m cs xs (by simpa using hxl) (fun i f hi=>by
    have:=hg i f (by simpa using hi)
    rw[<- this]) (by rw[hlen,hct]; simp)
   simp only[List.drop_zero] at R
   refine⟨by simp only[Sh.aI,aJ]; exact R.rep,by rw[hlen,hct]; rfl,R.one,R.u8,R.free,?_,⟨_,rfl,R.wf⟩⟩
   show(Sh.EN l _).length+1=Sh.wQ l+1
   rw[R.cnt]
  ·cases hf
theorem Sh.aaE{E:Env}{base:Nat}{spare:Nat->Bool}{held:Bool}(hS:DV E):(l:List Sh)->(fs:List Field)->(off:Nat)->Sh.Ky P l fs off=true->(n:Nat)->(cs:List Value)->(xs:List (DataW H×List MemPlace))->xs.length=fs.length ->
  (∀ (i:Nat) (f:Field),fs[i]? =some f->DataW.trod enc P E.w base spare held n f.type ((cs.drop f.offset).take (P.cellsOf f.type))=xs[i]?)->cs.length=off+Sh.wQ l->RdL E l (xs.map (·.1)) (cs.drop off)
 |[],[],off,hf,n,cs,xs,hl,hx,hc=>by
  have:xs=[]:=List.length_eq_zero_iff.1 (by simpa using hl)
  subst this
  have:cs.drop off=[]:=List.drop_eq_nil_of_le (by rw[hc]; simp[Sh.wQ])
  rw[this]
  exact⟨rfl,rfl,(fun v hv=>by cases hv),(fun v hv=>by cases hv),rfl,rfl,rfl⟩
 |s::l,f::fs,off,hf,n,cs,xs,hl,hx,hc=>by
  simp only[Sh.Ky,Bool.and_eq_true] at hf
  obtain⟨⟨⟨f1,f2⟩,f3⟩,f4⟩:=hf
  have e2:=Nat.eq_of_beq_eq_true f2
  have e3:=Nat.eq_of_beq_eq_true f3
  match xs,hl with
  |x::xs,hl =>
   have h0:=hx 0 f rfl
   rw[e2,e3] at h0
   have R0:=Sh.read hS s f.type f1 n _ x.1 x.2 h0
   simp only[Sh.wQ] at hc
   have R1:=Sh.aaE hS l fs (off+s.cells) f4 n cs xs (by simpa using hl) (fun i g hi=>by
    have:=hx (i+1) g (by simpa using hi)
    simpa using this) (by omega)
   have e:cs.drop off=(cs.drop off).take s.cells++cs.drop (off+s.cells):=by
    rw[<- List.drop_drop,List.take_append_drop]
   rw[e]
   have h1:(s.aI x.1).kd=0->((cs.drop off).take s.cells).length=1:=by
    intro hk
    rw[R0.len,<- Sh.ng,<- R0.kd,hk]; rfl
   refine⟨?_,?_,?_,?_,?_,?_,⟨_,_,rfl,R0.wf,R1.wf⟩⟩
   ·simp only[List.map_cons,Sh.EN]
    exact U4 (OJ R0.rep h1 R0.one) R1.rep
   ·rw[List.length_append,R0.len,R1.len]; rfl
   ·intro v hv
    rcases List.mem_append.1 hv with h|h
    ·exact R0.one v h
    ·exact R1.one v h
   ·intro v hv
    rcases List.mem_append.1 hv with h|h
    ·exact R0.u8 v h
    ·exact R1.u8 v h
   ·simp only[List.map_cons,Sh.EN]
    exact U5 (Q5 R0.free) R1.free
   ·simp only[List.map_cons,Sh.EN,List.length_append,U6,R0.kd,Sh.ng,R1.cnt]; rfl
 |[],_::_,_,hf,_,_,_,_,_,_=>by simp[Sh.Ky] at hf
 |_::_,[],_,hf,_,_,_,_,_,_=>by simp[Sh.Ky] at hf
end
end
open Go.ChangeShapes Go.WideShapes Go.RowKit
section
variable {P:Program} {H:Type} {enc:TypeId×Value->H}
theorem U7{W:World}(h:Lib.TabIs P W "strings.asciiSpace" .u8 Lib.asciiSpaceTab): ∀ g cs,wO P g=some cs-> ∃ ty m,W.heap[g]? =some (.cells cs ty m):=by
 intro g cs hg
 unfold wO at hg
 split at hg
 ·rename_i e
  cases hg
  unfold Lib.TabIs World.var? at h
  rw[e] at h
  simp only[Option.bind_some] at h
  split at h
  ·rename_i c ty m hc
   cases h
   exact⟨ty,m,hc⟩
  ·cases h
 ·cases hg
def X4(P:Program)(W:World):Env:=⟨W,fun g=>g<W.heap.size/\wO P g=none,fun _=>.nilFunc,fun _=>0,no,none⟩
def ab5(P:Program):Fr P:= {s:=fun g=>(wO P g).isSome=true}
theorem X5{g:Nat}{cs:Array Value}(h:wO P g=some cs): ∀ v∈cs.toList,¬ SY v:=by
 unfold wO at h
 split at h
 ·cases h
  intro v hv hn
  simp only[List.mem_map] at hv
  obtain⟨z,_,rfl⟩:=hv
  exact hn z rfl
 ·cases h
theorem ZW{W:World}(hgl: ∀ g cs,wO P g=some cs-> ∃ ty m,W.heap[g]? =some (.cells cs ty m)):DV (X4 P W):=by
 intro b cur ty m hb hv
 refine⟨(Array.getElem?_eq_some_iff.1 hb).1,?_⟩
 cases hg:wO P b with
 |none=>rfl
 |some cs =>
  obtain⟨ty',m',h⟩:=hgl b cs hg
  rw[show W.heap[b]? =_ from hb] at h
  cases h
  obtain⟨v,hv1,hv2⟩:=hv
  exact absurd hv2 (X5 hg v hv1)
theorem X6{W:World}(hgl: ∀ g cs,wO P g=some cs-> ∃ ty m,W.heap[g]? =some (.cells cs ty m)):oP (ab5 P) (X4 P W):=by
 refine⟨(fun i ob hi=>by cases hi),(fun i ob g hi=>by cases hi),(fun i j oi oj g _ hi=>by cases hi),fun g hg=>hg.1,fun g hg=>?_,fun g hs hg=>?_,⟨fun g cs hg=>⟨?_,hgl g cs hg⟩,fun p hp=>by cases hp⟩⟩
 ·obtain⟨cs,hc⟩:=Option.isSome_iff_exists.1 hg
  obtain⟨ty,m,h⟩:=hgl g cs hc
  exact(Array.getElem?_eq_some_iff.1 h).1
 ·have h1:=hs.2
  have h2:(wO P g).isSome=true:=hg
  rw[h1] at h2; cases h2
 ·show(wO P g).isSome=true
  rw[hg]; rfl
def Sh.args:List Sh->List (DataW H)->List T
 |s::l,d::ds=>s.aI d::Sh.args l ds
 |_,_=>[]
def Sh.OL(P:Program):List Sh->List TypeId->Bool
 |[],[]=>true
 |s::l,t::ts=>s.fits P t&&Sh.OL P l ts
 |_,_=>false
theorem ZX{E:Env}{s:Sh}{t:TypeId}{d:DataW H}{v:Value}{W:World}{base:Nat}(hf:s.fits P t=true)(R:Rd E s d v.cells.toList)(hok:Value.okWide P W .any base t v):je E (s.aI d) v:=by
 cases s with
 |st l =>
  simp only[Sh.fits] at hf
  split at hf
  ·rename_i fs he
   obtain⟨cs,rfl,_⟩:=okWide_struct he hok
   refine .inl ⟨by rw[R.kd]; exact Nat.succ_ne_zero _,cs,rfl,R.rep⟩
  ·cases hf
 |int =>
  simp only[Sh.fits] at hf
  split at hf
  ·rename_i he
   obtain⟨n,rfl⟩:=okWide_int he hok
   exact .inr ⟨R.kd,R.rep⟩
  ·cases hf
 |u64 =>
  simp only[Sh.fits] at hf
  split at hf
  ·rename_i he
   obtain⟨n,rfl⟩:=okWide_int he hok
   exact .inr ⟨R.kd,R.rep⟩
  ·cases hf
 |str =>
  simp only[Sh.fits] at hf
  split at hf
  ·rename_i he
   obtain⟨n,rfl⟩:=okWide_string he hok
   exact .inr ⟨R.kd,R.rep⟩
  ·cases hf
 |bool =>
  simp only[Sh.fits] at hf
  split at hf
  ·rename_i he
   obtain⟨n,rfl⟩:=okWide_bool he hok
   exact .inr ⟨R.kd,R.rep⟩
  ·cases hf
 |sl k s =>
  simp only[Sh.fits] at hf
  split at hf
  ·rename_i e he
   obtain⟨a,len,cap,rfl⟩:=okWide_slice he hok
   exact .inr ⟨R.kd,R.rep⟩
  ·cases hf
theorem X7{E:Env}{base:Nat}{spare:Nat->Bool}{held:Bool}{b2:Nat}(hS:DV E): ∀ {Pv:List Sh} {ts:List TypeId} {vs:List Value} {ds:List (DataW H)} {ps:List MemPlace},Sh.OL P Pv ts=true->DataW.TrodAll enc P E.w base spare held ts vs ds ps ->
  (∀ (j:Nat) (t:TypeId) (v:Value),ts[j]? =some t->vs[j]? =some v->Value.okWide P E.w .any b2 t v)->bD E (Sh.args Pv ds) vs/\T.bZ (Sh.args Pv ds)=true/\Sh.U3 Pv ds:=by
 intro Pv
 induction Pv with
 |nil =>
  intro ts vs ds ps hf hA hok
  cases ts with
  |nil =>
   match vs,ds,hA with
   |[],[],_=>exact⟨rfl,rfl,rfl⟩
  |cons t ts=>cases hf
 |cons s Pv ih =>
  intro ts vs ds ps hf hA hok
  cases ts with
  |nil=>cases hf
  |cons t ts =>
   match vs,ds,hA with
   |v::vs,d::ds,⟨p,q,⟨n,h1⟩,h2,_⟩ =>
    simp only[Sh.OL,Bool.and_eq_true] at hf
    have R:=Sh.read hS s t hf.1 n _ d p h1
    obtain⟨i1,i2,i3⟩:=ih hf.2 h2 fun j t' v' a b=>hok (j+1) t' v' (by simpa using a) (by simpa using b)
    refine⟨?_,?_,⟨d,ds,rfl,R.wf,i3⟩⟩
    ·simp only[Sh.args,bK]
     exact⟨v,vs,rfl,ZX hf.1 R (hok 0 t v rfl rfl),i1⟩
    ·simp only[Sh.args,T.bZ,Bool.and_eq_true]
     exact⟨R.free,i2⟩
theorem U8{W:World}(hgl: ∀ g cs,wO P g=some cs-> ∃ ty m,W.heap[g]? =some (.cells cs ty m)){f:FuncId}{Pv:List Sh}{ts:List TypeId}{args:Array Value}{ds:List (DataW H)}{ps:List MemPlace}{b2:Nat}{u:Value}
  (hf:Sh.OL P Pv ts=true) (hA:DataW.TrodAll enc P W 0 (fun _=>true) true ts args.toList ds ps) (hok: ∀ (j:Nat) (t:TypeId) (v:Value),ts[j]? =some t->args[j]? =some v->Value.okWide P W .any b2 t v)
  (S:Sh.U3 Pv ds->qO P f (Sh.args Pv ds) (.lit u)):Calls P f args W fun e W'=>e= .returned u/\Below W.heap.size W W':=by
 obtain⟨hr,hfr,hwf⟩:=X7 (E:=X4 P W) (ZW hgl) hf hA (fun j t v a b=>hok j t v a (by simpa using b))
 obtain⟨_,_,hcall⟩:=(S hwf).call 0
 have:=hcall (ab5 P) (fun _=>False) (X4 P W) args.toList (X6 hgl) rfl hr (cZ hfr) (BI _) (fun h=>h)
 refine this.mono ?_
 rintro e w' ⟨v,t,E2,rfl,rfl,⟨rfl,_⟩,hv,_,hext,_⟩
 refine⟨by rw[aK.1 hv],hext.os,hext.tape,hext.output,hext.size,fun g hg=>hext.w g ?_⟩
 cases hq:wO P g with
 |none=>exact .inl ⟨hg,hq⟩
 |some cs=>right; show(wO P g).isSome=true; rw[hq]; rfl
theorem Jl(hl:laidOutB P=true){W W':World}(hb:Below W.heap.size W W'){sp:Nat->Bool}: ∀ {ts:List TypeId} {vs:List Value} {ds:List (DataW H)} {ps:List MemPlace},(∀ t∈ts,P.readableRec t=true/\t<P.types.size) ->
  DataW.TrodAll enc P W 0 (fun _=>true) true ts vs ds ps->(∀ x∈ps,x.block<W.heap.size)->(∀ x∈ps,sp x.block=true)->DataW.TrodAll enc P W' 0 sp true ts vs ds ps:=by
 intro ts
 induction ts with
 |nil =>
  intro vs ds ps _ h _ _
  match vs,ds,h with
  |[],[],h=>exact h
 |cons t ts ih =>
  intro vs ds ps hr h hlt hsp
  match vs,ds,h with
  |v::vs,d::ds,⟨p,q,h1,h2,e⟩ =>
   subst e
   refine⟨p,q,?_,ih (fun t ht=>hr t (by simp[ht])) h2 (fun x hx=>hlt x (by simp[hx])) (fun x hx=>hsp x (by simp[hx])),rfl⟩
   obtain⟨r1,r2⟩:=hr t (by simp)
   exact WideElems.Trod_stays hl r1 r2 h1 (fun x hx=>hb.same (hlt x (by simp[hx]))) (fun x hx=>hsp x (by simp[hx]))
theorem X8{W:World}(hgl: ∀ g cs,wO P g=some cs-> ∃ ty m,W.heap[g]? =some (.cells cs ty m)){f:FuncId}{fn:Func}{s:ChangeSpec}{Pv:List Sh}{args:Array Value}{ds gs:List (DataW H)}{before:List MemPlace}{b2:Nat}{tb:TypeId}
  (hl:laidOutB P=true) (hrd: ∀ t∈fn.params.toList,P.readableRec t=true/\t<P.types.size) (hvars:s.vars=[]) (hres:fn.resultTypes= #[tb]) (htb:P.underlying tb=some .bool)
  (hspec:s.fn H ds= {results:=[.lit (.bool true)],args:=ds})
  (hf:Sh.OL P Pv fn.params.toList=true) (hval: ∀ (j:Nat) (t:TypeId) (v:Value),fn.params[j]? =some t->args[j]? =some v->Value.okWide P W .any b2 t v)
  (hW:DataW.Whole enc P fn.params.toList s.vars false W args.toList ds gs before) (S:Sh.U3 Pv ds->qO P f (Sh.args Pv ds) (.bool true)) :
  Calls P f args W fun e W'=> ∃ v,e= .returned v/\s.post enc P fn false true false false W args v W':=by
 have hW':=hW
 obtain⟨p,q,hA,hV,hpq,hfz,hnd⟩:=hW
 have hV0:gs=[]/\q=[]:=by
  rw[hvars] at hV
  cases gs with
  |nil=>exact⟨rfl,hV⟩
  |cons _ _=>exact hV.elim
 obtain⟨rfl,rfl⟩:=hV0
 subst hpq
 refine(U8 hgl hf hA (fun j t v a b=>hval j t v (by simpa using a) b) S).mono ?_
 rintro e W' ⟨rfl,hb⟩
 have hlt: ∀ x∈p,x.block<W.heap.size:=fun x hx=>by simpa using hW'.lt x (by simp[hx])
 refine⟨_,rfl,?_⟩
 have hold: ∀ x∈p,(fun b=>decide (b<W.heap.size)) x.block=true:=fun x hx=>by simpa using hlt x hx
 refine⟨ds,[],p++[],[],p,[],hW',?_,?_,?_,World.keptBut_mono (fun x hx=>⟨by simpa using hx,?_⟩) (hb.frame (· ∈p)),fun h=>by cases h⟩
 ·rw[List.append_nil,hspec,hres]
  exact trodAll_mk1 (shut_bool htb true)
 ·rw[List.append_nil,hspec]
  exact Jl hl hb hrd hA hlt hold
 ·rw[List.append_nil,hspec,hvars]; rfl
 ·right; simpa using hx
end
end Go.Ab
