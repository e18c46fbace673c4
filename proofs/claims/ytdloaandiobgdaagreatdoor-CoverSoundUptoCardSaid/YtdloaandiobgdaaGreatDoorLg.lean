/-
 The typed layer, part 9: contracts of functions; loops.
-/
import Derived.Defers
import Derived.Shelf.SlSortCmp.WholeK
import Derived.Deep.Slices
import Derived.Carry
import Derived.RowKit
import Derived.Stop.LaidErr
import Derived.Deep.DeepHandedRow
import Derived.Deep.DeepWitnessRowRef
import Derived.Lib.LaidTab
import Derived.Test.YtdloaandiobgdaaGreatDoorLf
import Derived.Test.YtdloaandiobgdaaGreatDoorLd
import Derived.Test.YtdloaandiobgdaaGreatDoorLe
namespace Go.Ab
section
variable {P:Program}
structure Body(P:Program)(f:FuncId)(ac:aC)(rs:List RV)(nt:Nat):Prop where
 ex: ∃ fn c,P.funcs[f]? =some fn/\fn.body=some c/\comp P c=some ac/\nO P fn.results.toList=some rs/\fn.ntmps=nt
 cl:callable P f
 dst:oQ nt ac=true
def aak(m:Fm)(h:Hz):RV->Option V
 | .slot t=>m.get t
 | .cell a k=>match m.get a with
  |some v=>match ldZ h k v with|some (u,.no)=>some u|_=>none
  |none=>none
def Po(m:Fm)(h:Hz):List RV->Option (List V)
 |[]=>some []
 |r::rs=>match aak m h r,Po m h rs with
  |some v,some l=>some (v::l)
  |_,_=>none
def resV(m:Fm)(h:Hz)(rs:List RV):Option V :=
 match Po m h rs with
 |some [v]=>some v
 |some l=>some (.dD l)
 |none=>none
theorem aeM{m:Fm}{h:Hz}{s:AS}(R:Rp m s.fr)(hh:s.hp=h.aj){r:RV}{v:V}(q:aak m h r=some v):r.ok s/\r.val s=v.aI:=by
 cases r with
 |slot t=>exact⟨trivial,R.getD q⟩
 |cell a k =>
  simp only[aak] at q;split at q
  ·rename_i u hu;split at q
   ·rename_i w hw;cases q;have:=YS (x:=.t a) hh hw trivial (R.ev (x:=.t a) hu);exact this
   ·cases q
  ·cases q
theorem Wy{m:Fm}{h:Hz}{s:AS}(R:Rp m s.fr)(hh:s.hp=h.aj): ∀ {rs:List RV} {l:List V},Po m h rs=some l->GX s rs/\rs.map (RV.val s)=V.aS l:=by
 intro rs;induction rs with
 |nil=>intro l q; cases q; exact⟨trivial,rfl⟩
 |cons r rs ih =>
  intro l q;simp only[Po] at q;split at q
  ·rename_i v l' h1 h2;cases q;obtain⟨a1,a2⟩:=aeM R hh h1;obtain⟨b1,b2⟩:=ih h2;exact⟨⟨a1,b1⟩,by simp only[bl,V.aS]; rw[a2,b2]⟩
  ·cases q
theorem DX{m:Fm}{h:Hz}{s:AS}(R:Rp m s.fr)(hh:s.hp=h.aj){rs:List RV}{v:V}(q:resV m h rs=some v):GX s rs/\resT s rs=v.aI:=by
 unfold resV at q;split at q
 ·rename_i u e;cases q;obtain⟨a,b⟩:=Wy R hh e;refine⟨a,?_⟩;cases rs with
  |nil=>simp[V.aS] at b
  |cons r rs =>
   cases rs with
   |nil=>simp only[bl,List.map_nil,V.aS,eI,and_true] at b; exact b
   |cons r' rs=>simp[V.aS] at b
 ·rename_i l hne e;cases q;obtain⟨a,b⟩:=Wy R hh e;refine⟨a,?_⟩;match rs,b,e with
  |[],b,_=>simp only[resT,V.aI]; rw[b]
  |[r],b,e =>
   cases l with
   |nil=>simp[V.aS] at b
   |cons u l =>
    cases l with
    |nil=>exact absurd rfl (hne u)
    |cons w l=>simp[V.aS] at b
  |r::r'::rs,b,_=>simp only[resT,V.aI]; rw[b]
 ·cases q
structure ay(res v:V)(h:Hz):Prop where
 ok:T.sub (fun _=>True) h.aj res.aI v.aI
def ajw(rs:List RV)(res:V):Qz
 | .exit _,_,_,_=>False
 |_,m,h,_=>match resV m h rs with
  |some v=>v.seq fun v=>ay res v h
  |none=>False
def tJ:Nat->List V->Fm
 |_,[]=>[]
 |i,v::r=>(i,v)::tJ (i+1) r
theorem YX: ∀ {l:List V} {i j:Nat} {v:V},(tJ i l).get j=some v-> ∃ k,j=i+k/\l[k]? =some v:=by
 intro l;induction l with
 |nil=>intro i j v q; cases q
 |cons u r ih =>
  intro i j v q;simp only[tJ,Fm.get] at q;cases hb:Nat.beq i j with
  |true=>rw[hb] at q; cases q; exact⟨0,(fO hb).symm,rfl⟩
  |false =>
   rw[hb] at q;obtain⟨k,e1,e2⟩:=ih q;exact⟨k+1,by omega,by simpa using e2⟩
theorem rX{l:List V}{n:Nat}:Rp (tJ 0 l) (V.aS l++List.replicate n T.un):=by
 intro i v q;obtain⟨k,e1,e2⟩:=YX q;have e:i=k:=by omega
 subst e;have hk:i<l.length:=(bo.1 e2).1;rw[co (by rw[cO]; exact hk),jG,cM,e2];rfl
theorem Un:(no:Hp)=Hz.aj []:=rfl
@[reducible] def ak(P:Program)(f:FuncId)(args:List V)(res:V):Prop:=zC P f (V.aS args) res.aI
theorem ak.of{f:FuncId}{ac:aC}{rs:List RV}{nt:Nat}{args:List V}{res:V}(B:Body P f ac rs nt)(hn:args.length<=nt)(hf:V.bn args=true)(hr:res.free=true)(H:az P nt 0 ac (ajw rs res) (tJ 0 args) [] 0):ak P f args res:=by
 obtain⟨fn,c,h1,h2,h3,h4,h5⟩:=B.ex;have Aj:res.aI.ids (fun _=>False):=eY (V.jS res hr);refine BU.yN (o:=none) h1 h2 h3 h4 B.cl h5 (V.eG args hf) (fun _ _=>O7 _ Aj) (fun _=>T.aW (fun _ h=>h.elim) _ Aj) (fun _ h=>by cases h) ?_;have:=lQ (P:=P) (N:=nt) (pn:=0) (s:=⟨V.aS args++List.replicate (nt-(V.aS args).length) T.un,no,0,0⟩) B.dst (by simp[cO]; omega) rX Un rfl H;refine kH ?_ this;rintro e s ⟨m,h,a1,a2,a3,a4,a5⟩;have key: ∀ {m h},Rp m s.fr->s.hp=Hz.aj h->(match resV m h rs with|some v=>v.seq fun v=>ay res v h|none=>False)->GX s rs/\T.sub (fun _=>True) s.hp res.aI (resT s rs):=by
  intro m h a2 a3 q;split at q
  ·rename_i v hv;rw[V.seq_eq] at q;obtain⟨b1,b2⟩:=DX a2 a3 hv;exact⟨b1,by rw[b2,a3]; exact q.ok⟩
  ·exact q.elim
 cases e with
 |exit j=>exact a5.elim
 |normal=>exact key a2 a3 a5
 |ret=>exact key a2 a3 a5
theorem ay.int{a b:Int}{h:Hz}(e:a=b):ay (.int a) (.int b) h:=⟨by subst e; exact aH _⟩
theorem ay.bool{a b:Bool}{h:Hz}(e:a=b):ay (.bool a) (.bool b) h:=⟨by subst e; exact aH _⟩
theorem ay.str{a b:Str}{h:Hz}(e:a=b):ay (.str a) (.str b) h:=⟨by subst e; exact aH _⟩
theorem ay.row{a b:Rw}{k:Nat}{f:Bool}{h:Hz}(e:a=b):ay (.row k false a) (.row k f b) h:=⟨by
 subst e; simp only[V.aI,T.sub]; exact⟨.inl trivial,.inl trivial,fun h=>by cases h⟩⟩
theorem ah.pure{dr:Bool}{f:FuncId}{args:List V}{res:V}{h:Hz}{n:Nat}{K:V->Hz->Prop}{KW:Nat->V->Hz->Prop}(S:ak P f args res)(hr:res.free=true)(hK:K res h):ah P dr none f args h n K KW :=
 ⟨.inl (BU.use S (dR _) ⟨res,h,rfl,rfl,fun _=>⟨rfl,V.jS res hr⟩,hK⟩)⟩
theorem ah.iJ{dr:Bool}{b:Bool}{f:FuncId}{args:List V}{res:V}{h:Hz}{n:Nat}{K:V->Hz->Prop}{KW:Nat->V->Hz->Prop}(S:b=true->ak P f args res)(hr:res.free=true)(hK:K res h):ah P dr (some b) f args h n K KW :=
 ⟨.inl (.inl ⟨res,fun e=>BU.use (S e) (dR _) ⟨rfl,rfl⟩,hr,hK⟩)⟩
theorem aag.pure{f:FuncId}{args:List V}{res:V}{h:Hz}{n:Nat}{K:V->Hz->Prop}(S:ak P f args res)(hr:res.free=true)(hK:K res h):aag P f args h n K :=
 ⟨res,none,T.aW (fun _ h=>h.elim) _ (eY (V.jS res hr)),(fun _ h=>by cases h),fun hp _=>(BU.frame S hp n),hK⟩
def Jz(m:Fm):List Nat->Fm->(Fm->Prop)->Prop
 |[],acc,K=>K acc
 |d::r,acc,K=>match m.get d with
  |some v=>v.seq fun v=>Jz m r ((d,v)::acc) K
  |none=>False
theorem y9{m:Fm}: ∀ {l:List Nat} {acc:Fm} {K:Fm->Prop},Jz m l acc K->(∀ i v,acc.get i=some v->m.get i=some v)-> ∃ b,K b/\ ∀ i v,Fm.get i b=some v->m.get i=some v:=by
 intro l;induction l with
 |nil=>intro acc K q ha; exact⟨acc,q,ha⟩
 |cons d r ih =>
  intro acc K q ha;simp only[Jz] at q;split at q
  ·rename_i v hv;rw[V.seq_eq] at q;refine ih q ?_;intro i u hu;simp only[Fm.get] at hu;cases hb:Nat.beq d i with
   |true=>rw[hb] at hu; cases hu; rw[<- fO hb]; exact hv
   |false=>rw[hb] at hu; exact ha i u hu
  ·exact q.elim
def SC(m':Fm):Fm->Prop
 |[]=>True
 |p::r=>(∃ v,m'.get p.1=some v/\p.2.aI=v.aI)/\SC m' r
theorem SE{m':Fm}: ∀ {m0:Fm},SC m' m0-> ∀ {i:Nat} {v:V},m0.get i=some v-> ∃ u,m'.get i=some u/\v.aI=u.aI:=by
 intro m0;induction m0 with
 |nil=>intro _ i v q; cases q
 |cons p r ih =>
  intro hs i v q;simp only[Fm.get] at q;cases hb:Nat.beq p.1 i with
  |true=>rw[hb] at q; cases q; rw[<- fO hb]; exact hs.1
  |false=>rw[hb] at q; exact ih hs.2 q
def ltF(nx N:Nat):Fm->Bool
 |[]=>true
 |p::r=>T.lt nx p.2.aI&&Nat.blt p.1 N&&ltF nx N r
theorem xJ{nx N:Nat}: ∀ {m:Fm},ltF nx N m=true-> ∀ {i:Nat} {v:V},m.get i=some v->T.lt nx v.aI=true/\i<N:=by
 intro m;induction m with
 |nil=>intro _ i v q; cases q
 |cons p r ih =>
  intro hs i v q;simp only[ltF,aD] at hs;simp only[Fm.get] at q;cases hb:Nat.beq p.1 i with
  |true=>rw[hb] at q; cases q; exact⟨hs.1.1,by rw[<- fO hb]; simpa using hs.1.2⟩
  |false=>rw[hb] at q; exact ih hs.2 q
def uU(N:Nat)(m:Fm):List T:=(List.range N).map fun i=>match m.get i with|some v=>v.aI|none=>.any
theorem yc{N:Nat}{m:Fm}:(uU N m).length=N:=by simp[uU]
theorem CV{N:Nat}{m:Fm}(hN: ∀ i v,m.get i=some v->i<N):Rp m (uU N m):=by
 intro i v q;simp only[uU,cM,gF (hN i v q),bp,q]
theorem NP{Z:Nat->Prop}{h:Hp}: ∀ {a b:List T},a.length=b.length->(∀ (i:Nat) (t u:T),a[i]? =some t->b[i]? =some u->T.sub Z h t u)->T.dY Z h a b:=by
 intro a;induction a with
 |nil=>intro b hl _; cases b with|nil=>trivial|cons _ _=>simp at hl
 |cons t a ih =>
  intro b hl H;cases b with
  |nil=>simp at hl
  |cons u b=>exact⟨H 0 t u rfl rfl,ih (by simpa using hl) fun i t u h1 h2=>H (i+1) t u (by simpa using h1) (by simpa using h2)⟩
theorem aal{Z:Nat->Prop}{h:Hp}{t:T}:T.sub Z h .any t:=by cases t<;>simp[T.sub]
theorem WA{N:Nat}{m0 m:Fm}{fr:List T}{Z:Nat->Prop}{h:Hp}(hl:fr.length=N)(R:Rp m fr)(hs: ∀ i v,m0.get i=some v-> ∃ u,m.get i=some u/\v.aI=u.aI):T.dY Z h (uU N m0) fr:=by
 refine NP (by rw[yc,hl]) fun i t u h1 h2=>?_
 simp only[uU,cM] at h1;have hi:i<N:=by
  rcases eR i N with h|h
  ·exact h
  ·rw[cv (by simpa using h)] at h1; cases h1
 rw[gF hi] at h1;simp only[bp,bi] at h1;split at h1
 ·rename_i v hv;obtain⟨w,hw,e⟩:=hs i v hv;have:=R i w hw;rw[h2] at this;simp only[bi] at this;subst h1; rw[this,e]; exact aH _
 ·subst h1; exact aal
theorem CW{N nx:Nat}{m:Fm}(hg: ∀ i v,m.get i=some v->T.lt nx v.aI=true):T.aO (· <nx) (uU N m):=by
 rw[cu];intro t ht;simp only[uU,ax] at ht;obtain⟨i,_,e⟩:=ht;split at e
 ·rename_i v hv; subst e; exact KX (hg i v hv)
 ·subst e; simp[T.ids]
def OV.good(nx:Nat):OV->Bool
 | .row _ k r x=>(match r with| .nil=>true|r=>Nat.beq r.kd k)&&AB k x&&T.Em nx (V.aS x)&& !(Nat.beq k gK)
 | .box _ k v=>AB k [v]&&T.lt nx v.aI&& !(Nat.beq k gK)
 | .map _ _ x=>x.all fun e=>T.lt nx e.2.aI
 | .smap _ _=>true
 | .gen _ k x=>AB k x&&T.Em nx (V.aS x)&& !(Nat.beq k gK)
def tq(nx:Nat):Hz->Bool
 |[]=>true
 |(i,some o)::r=>Nat.blt i nx&&o.good nx&&tq nx r
 |(_,none)::r=>tq nx r
theorem AY{n:Nat}: ∀ {l:List T},T.Em n l=true->T.aO (· <n) l:=by
 intro l;induction l with
 |nil=>intro _; trivial
 |cons t l ih =>
  intro q;simp only[T.Em,aD] at q;exact⟨KX q.1,ih q.2⟩
theorem Rw.kds{r:Rw}: ∀ t∈r.aS,t.kd=r.kd:=by
 intro t ht;cases r<;>simp only[Rw.aS,ax,dx] at ht<;>obtain⟨x,_,rfl⟩:=ht<;>rfl
theorem aam{k:Nat}{l:List V}(q:AB k l=true): ∀ t∈V.aS l,t.kd=k:=by
 intro t ht;rw[jG,ax] at ht;obtain⟨v,hv,rfl⟩:=ht;exact V.Uj (NM q v hv)
theorem Uo{k:Nat}{l:List T}(hk:k≠gK)(h: ∀ t∈l,t.kd=k):Z4 k l=true:=by
 unfold Z4
 have:(k==1000000007)=false:=by simpa using hk
 rw[this]; simp only[ap,bj,bt]; exact h
theorem OV.sS{nx:Nat}{o:OV}(q:o.good nx=true):T.aO (· <nx) o.au.l/\Z4 o.au.k o.au.l=true:=by
 cases o with
 |row ty k r x =>
  simp only[OV.good,aD,bq] at q;obtain⟨⟨⟨q1,q2⟩,q3⟩,q4⟩:=q;simp only[OV.au];refine⟨gB.2 ⟨r.ids,AY q3⟩,Uo (cG q4) fun t ht=>?_⟩;rcases ci.1 ht with ht|ht
  ·split at q1
   ·cases ht
   ·rw[<- fO q1]; exact Rw.kds t ht
  ·exact aam q2 t ht
 |box ty k v =>
  simp only[OV.good,aD,bq] at q;obtain⟨⟨q1,q2⟩,q3⟩:=q;simp only[OV.au];refine⟨⟨KX q2,trivial⟩,Uo (cG q3) fun t ht=>?_⟩;rw[br] at ht; subst ht; exact Um q1
 |gen ty k x =>
  simp only[OV.good,aD,bq] at q;obtain⟨⟨q2,q3⟩,q4⟩:=q;simp only[OV.au];exact⟨AY q3,Uo (cG q4) (aam q2)⟩
 |smap ty es =>
  simp only[OV.au];refine⟨?_,?_⟩
  ·rw[cu];intro t ht;rw[ax] at ht;obtain⟨e,_,rfl⟩:=ht;simp[Ii,eS,T.ids,T.aO]
  ·unfold Z4;simp[gK,iw,Ii,eS]
 |map ty es x =>
  simp only[OV.good,bj] at q;simp only[OV.au];refine⟨?_,?_⟩
  ·rw[cu];intro t ht;rcases ci.1 ht with ht|ht
   ·rw[ax] at ht;obtain⟨e,_,rfl⟩:=ht;simp[MS,T.ids,T.aO]
   ·rw[ax] at ht;obtain⟨e,he,rfl⟩:=ht;simp only[abU,T.ids,T.aO]; exact⟨trivial,KX (q e he),trivial⟩
  ·unfold Z4;simp[gK,iw,MS,abU]
theorem zX{nx:Nat}: ∀ {h:Hz},tq nx h=true->HpG nx h.aj:=by
 intro h;induction h with
 |nil=>intro _ i ob e; simp[Hz.aj,Hz.get] at e
 |cons p r ih =>
  obtain⟨j,o⟩:=p;intro q;rw[bI];cases o with
  |none=>exact ahy (ih q)
  |some o =>
   simp only[tq,aD] at q;obtain⟨g1,g2⟩:=OV.sS q.1.2;exact ahx (ih q.2) (by simpa using q.1.1) g1 g2
def Fh(nx:Nat):Hz->Hz
 |[]=>[]
 |(i,o)::r=>bif Nat.blt i nx then(i,o)::Fh nx r else Fh nx r
theorem Pq{nx i:Nat}(hi:i<nx): ∀ {h:Hz},(Fh nx h).get i=h.get i:=by
 intro h;induction h with
 |nil=>rfl
 |cons p r ih =>
  obtain⟨j,o⟩:=p;simp only[Fh];cases hb:Nat.blt j nx with
  |true=>simp only[bE,Hz.get]; cases Nat.beq j i<;>simp[ih]
  |false =>
   simp only[ap,Hz.get];have hne:Nat.beq j i=false:=by
    cases e:Nat.beq j i with
    |false=>rfl
    |true =>
     have:=fO e; subst this
     have:Nat.blt j nx=true:=by simpa using hi
     rw[this] at hb; cases hb
   rw[hne]; exact ih
structure amo{ι:Type}(inv:ι->Prop)(μ:ι->Nat)(vars:ι->Fm)(base:Fm)(hs:Hz)(nx:Nat)(i:ι)(m:Fm)(h:Hz):Prop where
 ok: ∃ j,inv j/\μ j<μ i/\SC m (vars j)/\SC m base/\Fh nx h=hs
theorem get_append{a b:Fm}{i:Nat}{v:V}(q:Fm.get i (a++b)=some v):a.get i=some v\/Fm.get i b=some v:=by
 induction a with
 |nil=>exact .inr q
 |cons p r ih =>
  simp only[cj,Fm.get] at q ⊢;cases hb:Nat.beq p.1 i with
  |true=>rw[hb] at q; exact .inl q
  |false=>rw[hb] at q; exact ih q
theorem aG.same{N pn nx:Nat}{b:aC}{Q:Qz}{m:Fm}{h:Hz}{ι:Type}(live:List Nat)(vars:ι->Fm)(inv:ι->Prop)(μ:ι->Nat)(i0:ι)(hd:oQ N b=true)(hp:pn<=nx)(hg:tq nx h=true)(hv: ∀ i,ltF nx N (vars i)=true)(h0:inv i0)(he:SC m (vars i0))
  (H:Jz m live [] fun base=>ltF nx N base=true/\ ∀ i,inv i->az P N pn b (fun e m' h' n'=>match e with
   | .normal=>amo inv μ vars base (Fh nx h) nx i m' h'
   |e=>Q e m' h' n') (vars i++base) h nx):aG P N pn b Q m h nx:=by
 obtain⟨base,⟨hb,H⟩,hbm⟩:=y9 H (fun i v q=>by cases q);refine⟨fun fr hl R=>?_⟩;have hall: ∀ i j v,Fm.get j (vars i++base)=some v->T.lt nx v.aI=true/\j<N:=fun i j v q=>by
  rcases get_append q with q|q
  ·exact xJ (hv i) q
  ·exact xJ hb q
 have wk: ∀ (i:ι) (m':Fm) (h':Hz) (s':AS),s'.fr.length=N->Rp m' s'.fr->s'.hp=h'.aj->s'.pin=pn->SC m' (vars i)->(∀ j v,Fm.get j base=some v-> ∃ u,m'.get j=some u/\v.aI=u.aI)->Fh nx h'=Fh nx h ->
   Wk ⟨uU N (vars i++base),h.aj,nx,pn⟩ s':=by
  intro i m' h' s' a1 a2 a3 a4 a5 a6 a7;obtain⟨fr',hp',nx',pn'⟩:=s';simp only at a1 a2 a3 a4;subst a3; subst a4;refine Wk.same (WA a1 a2 fun j v q=>?_) (CW fun j v q=>(hall i j v q).1) (zX hg) (fun j hj=>?_) hp
  ·rcases get_append q with q|q
   ·exact SE a5 q
   ·exact a6 j v q
  ·simp only[Hz.aj]; rw[<- Pq hj,a7,Pq hj]
 refine Cb.rule (fun i=>⟨uU N (vars i++base),h.aj,nx,pn⟩) inv μ i0 h0 (wk i0 m h _ hl R rfl rfl he (fun j v q=>⟨v,hbm j v q,rfl⟩) rfl) ?_;intro i hi;have:=lQ (P:=P) (N:=N) (pn:=pn) (s:=⟨uU N (vars i++base),h.aj,nx,pn⟩) hd yc (CV fun j v q=>(hall i j v q).2) rfl rfl (H i hi);refine kH ?_ this;rintro e s' ⟨m',h',a1,a2,a3,a4,a5⟩;cases e with
 |normal =>
  obtain⟨j,b1,b2,b3,b4,b5⟩:=a5.ok;exact⟨j,⟨b1,b2⟩,wk j m' h' s' a1 a2 a3 a4 b3 (fun j v q=>SE b4 q) b5⟩
 |exit j=>exact⟨m',h',a1,a2,a3,a4,a5⟩
 |ret=>exact⟨m',h',a1,a2,a3,a4,a5⟩
end
def sq(l:List aT)(c:aC):aC:=.seq (.reg false l) c
def qm(d x:Nat):aT:=o d (.mv (.t x))
def qz'(d:Nat)(n:Int):aT:=o d (.mv (.c (.int n)))
def qv(d:Nat)(b:Bool):aT:=o d (.mv (.c (.bool b)))
def qb(op:BinOp)(d x y:Nat):aT:=o d (.bin op (.t x) (.t y))
def qk(op:BinOp)(d x:Nat)(n:Int):aT:=o d (.bin op (.t x) (.c (.int n)))
def ql(d k x:Nat):aT:=o d (.ld k (.t x))
def qf(d a k x:Nat):aT:=o d (.fa a k (.t x))
def qi(d k x y:Nat):aT:=o d (.ia k (.t x) (.t y))
def qn(d x:Nat):aT:=o d (.len false (.t x))
def qo(d a b:Nat):aT:=o d (.pick (.t a) (.c (.bool true)) (.t b))
def qa(d a b:Nat):aT:=o d (.pick (.t a) (.t b) (.c (.bool false)))
def qx(d x:Nat):aT:=o d (.not (.t x))
def qe(d x i:Nat):aT:=o d (.ex (.t x) i)
def qB(d:Nat)(ty:TypeId)(k x:Nat):aT:=o d (.box ty k (.t x))
def qs(k x y:Nat):aT:=ov (.st k (.t x) (.t y))
def qC(d:Nat)(f:FuncId)(l:List Nat):aT:=o d (.call f (l.map .t))
def aT.w(q:aT)(g:Nat):aT:=⟨q.d,q.op,some (g,true),q.fl,q.ne,q.ad,q.ar⟩
def aT.n(q:aT)(g:Nat):aT:=⟨q.d,q.op,some (g,false),q.fl,q.ne,q.ad,q.ar⟩
theorem Body.of{P:Program}{f:FuncId}{fn:Func}{ac:aC}{rs:List RV}{nt:Nat}(h1:P.funcs[f]? =some fn)(h2:(fn.body.isSome,comp P (fn.body.getD .skip),nO P fn.results.toList,fn.ntmps,oQ nt ac)=(true,some ac,some rs,nt,true))(h3:callable P f):Body P f ac rs nt:=by
 simp only[fe] at h2;obtain⟨a,b,c,d,e⟩:=h2;obtain⟨cd,hc⟩:=am.1 a;rw[hc] at b;exact⟨⟨fn,cd,h1,hc,b,c,d⟩,h3,e⟩
section
variable {P:Program}
def dB(a b:List T):Prop:= ∀ (Z:Nat->Prop) (h:Hp),T.dY Z h a b
theorem dB.refl(a:List T):dB a a:=fun _ _=>dR a
def OV.zn:OV->Bool
 | .row _ _ _ x=>V.bn x
 | .box _ _ v=>v.free
 | .map _ _ x=>V.bn (x.map (·.2))
 | .smap _ _=>true
 | .gen _ _ x=>V.bn x
theorem OV.xK{o:OV}(q:o.zn=true):T.aO (fun _=>False) o.au.l:=by
 cases o with
 |row ty k r x=>exact gB.2 ⟨r.ids,dh (V.eG x q)⟩
 |box ty k v=>exact⟨eY (V.jS v q),trivial⟩
 |gen ty k x=>exact dh (V.eG x q)
 |smap ty es =>
  simp only[OV.au];rw[cu];intro t ht;rw[ax] at ht;obtain⟨e,_,rfl⟩:=ht;simp[Ii,eS,T.ids,T.aO]
 |map ty es x =>
  simp only[OV.zn] at q;refine gB.2 ⟨cu.2 fun t ht=>?_,cu.2 fun t ht=>?_⟩
  ·obtain⟨e,_,rfl⟩:=ax.1 ht;simp[MS,T.ids,T.aO]
  ·obtain⟨e,he,rfl⟩:=ax.1 ht;simp only[abU,T.ids,T.aO];refine⟨trivial,?_,trivial⟩;have:=dh (V.eG _ q);rw[cu] at this;exact this _ (by rw[jG,cy]; exact ax.2 ⟨e,he,rfl⟩)
theorem OV.fC{o:OV}(q:o.zn=true)(ρ:Nat->Nat):T.dF ρ o.au.l=o.au.l:=xI _ (OV.xK q)
def gU:List (Nat×OV)->List Nat->Nat->Nat
 |(c,_)::r,n::s,i=>bif Nat.beq i c then n else gU r s i
 |_,_,i=>i
def rF(n:Nat):List Nat->Bool
 |[]=>true
 |m::r=> !(Nat.beq n m)&&rF n r
def ab3(nx pn:Nat)(h:Hz):List (Nat×OV)->List Nat->Prop
 |[],[]=>True
 |(c,o)::r,n::s=>(Nat.blt c nx=true/\(Nat.blt c pn=true->n=c)/\rF n s=true/\o.good nx=true/\o.zn=true /\
   ∃ o',h.get n=some o'/\o'.au.ty=o.au.ty/\o'.au.k=o.au.k/\dB o.au.l o'.au.l)/\ab3 nx pn h r s
 |_,_=>False
theorem mV{nx pn c n:Nat}{h:Hz}{s:List Nat}{o:OV}(a:(Nat.blt c nx&&(!(Nat.blt c pn)||Nat.beq n c)&&rF n s&&(o.good nx&&o.zn))=true)(b:(h.get n).map OV.au=some o.au):Nat.blt c nx=true/\(Nat.blt c pn=true->n=c)/\rF n s=true/\o.good nx=true/\o.zn=true /\
   ∃ o',h.get n=some o'/\o'.au.ty=o.au.ty/\o'.au.k=o.au.k/\dB o.au.l o'.au.l:=by
 simp only[aD,cY,bq] at a;obtain⟨⟨⟨a1,a2⟩,a3⟩,a4,a5⟩:=a;obtain⟨o',b1,b2⟩:=be.1 b;exact⟨a1,fun h=>a2.elim (fun q=>by rw[q] at h; cases h) cw,a3,a4,a5,o',b1,by rw[b2],by rw[b2],by rw[b2]; exact .refl _⟩
def xF:List (Nat×OV)->List Nat->List (Nat×Nat×Ob)
 |(c,o)::r,n::s=>(c,n,o.au)::xF r s
 |_,_=>[]
def rD(l:List (Nat×OV)):Hz:=l.map fun p=>(p.1,some p.2)
theorem CX: ∀ {l:List (Nat×OV)} {s:List Nat} {i:Nat},Ep (xF l s) i=gU l s i:=by
 intro l;induction l with
 |nil=>intro s i; cases s<;>rfl
 |cons p r ih =>
  obtain⟨c,o⟩:=p;intro s i;cases s with
  |nil=>rfl
  |cons n s =>
   simp only[xF,Ep,gU];rw[ih];cases hb:Nat.beq i c with
   |true=>rw[bc (fO hb)]; rfl
   |false=>rw[bB (cG hb)]; rfl
theorem ahM{nx pn:Nat}{h:Hz}: ∀ {l:List (Nat×OV)} {s:List Nat},ab3 nx pn h l s->hpL (xF l s)=(rD l).aj:=by
 intro l;induction l with
 |nil=>intro s q; cases s with
  |nil=>rfl
  |cons _ _=>exact q.elim
 |cons p r ih =>
  obtain⟨c,o⟩:=p;intro s q;cases s with
  |nil=>exact q.elim
  |cons n s =>
   simp only[xF,hpL];have e:rD ((c,o)::r)=(c,some o)::rD r:=rfl;rw[e,bI,ih q.2]; rfl
theorem WB{n:Nat}: ∀ {l:List (Nat×OV)} {s:List Nat},rF n s=true-> ¬ Gs (xF l s) n:=by
 intro l;induction l with
 |nil=>intro s _ q; cases s<;>exact q
 |cons p r ih =>
  obtain⟨c,o⟩:=p;intro s hs q;cases s with
  |nil=>exact q
  |cons m s =>
   simp only[rF,aD] at hs;simp only[xF,Gs] at q;rcases q with q|q
   ·rw[q,gS] at hs; cases hs.1
   ·exact ih hs.2 q
theorem ahN{nx pn:Nat}{h:Hz}{Z:Nat->Prop}{ρ:Nat->Nat}: ∀ {l:List (Nat×OV)} {s:List Nat},ab3 nx pn h l s->okL Z ρ h.aj nx pn (xF l s):=by
 intro l;induction l with
 |nil=>intro s _; cases s<;>trivial
 |cons p r ih =>
  obtain⟨c,o⟩:=p;intro s q;cases s with
  |nil=>exact q.elim
  |cons n s =>
   obtain⟨⟨q1,q2,q3,q4,q5,o',q6,q7,q8,q9⟩,q⟩:=q;obtain⟨g1,g2⟩:=OV.sS q4;refine⟨⟨cF.mp q1,fun hc=>q2 (cF.mpr hc),WB q3,g1,g2,o'.au.l,?_,?_⟩,ih q⟩
   ·have:=aK q6;show h.aj n=some ⟨o.au.ty,o.au.k,o'.au.l⟩;rw[this,<- q7,<- q8]
   ·show T.dY Z h.aj (T.dF ρ o.au.l) o'.au.l;rw[OV.fC q5]; exact q9 _ _
def mZ(ρ:Nat->Nat)(m':Fm):Fm->Prop
 |[]=>True
 |(i,v)::r=>(∃ u,m'.get i=some u/\dB [v.aI.ren ρ] [u.aI])/\mZ ρ m' r
theorem vJ{ρ:Nat->Nat}{m':Fm}: ∀ {m0:Fm},mZ ρ m' m0-> ∀ {i:Nat} {v:V},m0.get i=some v-> ∃ u,m'.get i=some u/\dB [v.aI.ren ρ] [u.aI]:=by
 intro m0;induction m0 with
 |nil=>intro _ i v q; cases q
 |cons p r ih =>
  obtain⟨j,w⟩:=p;intro hs i v q;simp only[Fm.get] at q;cases hb:Nat.beq j i with
  |true=>rw[hb] at q; cases q; rw[<- fO hb]; exact hs.1
  |false=>rw[hb] at q; exact ih hs.2 q
theorem dB.eq{a b:T}(h:a=b):dB [a] [b]:=by subst h; exact .refl _
theorem sR{ρ:Nat->Nat}{m':Fm}: ∀ {m0:Fm},(m0.map fun p=>some (p.2.aI.ren ρ))=(m0.map fun p=>(m'.get p.1).map V.aI)->mZ ρ m' m0:=by
 intro m0;induction m0 with
 |nil=>intro _; trivial
 |cons p r ih =>
  intro h;simp only[bl,eI] at h;obtain⟨h1,h2⟩:=h;obtain⟨u,e1,e2⟩:=be.1 h1.symm;exact⟨⟨u,e1,.eq e2.symm⟩,ih h2⟩
theorem Gh{N:Nat}{m0 m:Fm}{fr:List T}{Z:Nat->Prop}{h:Hp}{ρ:Nat->Nat}(hl:fr.length=N)(R:Rp m fr)(hs: ∀ i v,m0.get i=some v-> ∃ u,m.get i=some u/\dB [v.aI.ren ρ] [u.aI]):T.dY Z h (T.dF ρ (uU N m0)) fr:=by
 refine NP (by rw[xZ,yc,hl]) fun i t u h1 h2=>?_
 have e: ∀ l:List T,T.dF ρ l=l.map (T.ren ρ):=by
  intro l;induction l with
  |nil=>rfl
  |cons a l ih=>simp only[T.dF,bl,ih]
 rw[e] at h1;simp only[uU,cM] at h1;have hi:i<N:=by
  rcases eR i N with h|h
  ·exact h
  ·rw[cv (by simpa using h)] at h1; cases h1
 rw[gF hi] at h1;simp only[bp,bi] at h1;split at h1
 ·rename_i v hv;obtain⟨w,hw,e⟩:=hs i v hv;have:=R i w hw;rw[h2] at this;simp only[bi] at this;subst h1; rw[this]; exact(e Z h).1
 ·subst h1; exact aal
structure amq{ι:Type}(inv:ι->Prop)(μ:ι->Nat)(vars:ι->Fm)(objs:ι->List (Nat×OV))(base:Fm)(nx pn:Nat)(i:ι)(m:Fm)(h:Hz):Prop where
 ok: ∃ j nw,inv j/\μ j<μ i/\mZ (gU (objs j) nw) m (vars j)/\mZ (gU (objs j) nw) m base/\ab3 nx pn h (objs j) nw
theorem aG.objs{N pn nx0:Nat}(nx:Nat){b:aC}{Q:Qz}{m:Fm}{h:Hz}{ι:Type}(live:List Nat)(vars:ι->Fm)(objs:ι->List (Nat×OV))(inv:ι->Prop)(μ:ι->Nat)(i0:ι)(XU:List Nat)(hd:oQ N b=true)(hp:pn<=nx)(hv: ∀ i,ltF nx N (vars i)=true)(h0:inv i0)
  (he:mZ (gU (objs i0) XU) m (vars i0)) (ho:ab3 nx pn h (objs i0) XU)
  (H:Jz m live [] fun base=>mZ (gU (objs i0) XU) m base/\ltF nx N base=true/\ ∀ i,inv i->az P N pn b (fun e m' h' n'=>match e with
   | .normal=>amq inv μ vars objs base nx pn i m' h'
   |e=>Q e m' h' n') (vars i++base) (rD (objs i)) nx):aG P N pn b Q m h nx0:=by
 obtain⟨base,⟨hbs,hb,H⟩,hbm⟩:=y9 H (fun i v q=>by cases q);refine⟨fun fr hl R=>?_⟩;have hall: ∀ i j v,Fm.get j (vars i++base)=some v->T.lt nx v.aI=true/\j<N:=fun i j v q=>by
  rcases get_append q with q|q
  ·exact xJ (hv i) q
  ·exact xJ hb q
 have wk: ∀ (i:ι) (nw:List Nat) (m':Fm) (h':Hz) (s':AS),s'.fr.length=N->Rp m' s'.fr->s'.hp=h'.aj->s'.pin=pn->mZ (gU (objs i) nw) m' (vars i)->mZ (gU (objs i) nw) m' base->ab3 nx pn h' (objs i) nw ->
   Wk ⟨uU N (vars i++base),(rD (objs i)).aj,nx,pn⟩ s':=by
  intro i nw m' h' s' a1 a2 a3 a4 a5 a6 a7;obtain⟨fr',hp',nx',pn'⟩:=s';simp only at a1 a2 a3 a4;subst a3; subst a4;rw[<- ahM a7];refine Wk.objs (xF (objs i) nw) (Gh a1 a2 fun j v q=>?_) (CW fun j v q=>(hall i j v q).1) hp (ahN a7);have e:Ep (xF (objs i) nw)=gU (objs i) nw:=funext fun _=>CX
  rw[e];rcases get_append q with q|q
  ·exact vJ a5 q
  ·exact vJ a6 q
 refine Cb.rule (fun i=>⟨uU N (vars i++base),(rD (objs i)).aj,nx,pn⟩) inv μ i0 h0 (wk i0 XU m h _ hl R rfl rfl he hbs ho) ?_;intro i hi;have:=lQ (P:=P) (N:=N) (pn:=pn) (s:=⟨uU N (vars i++base),(rD (objs i)).aj,nx,pn⟩) hd yc (CV fun j v q=>(hall i j v q).2) rfl rfl (H i hi);refine kH ?_ this;rintro e s' ⟨m',h',a1,a2,a3,a4,a5⟩;cases e with
 |normal =>
  obtain⟨j,nw,b1,b2,b3,b4,b5⟩:=a5.ok;exact⟨j,⟨b1,b2⟩,wk j nw m' h' s' a1 a2 a3 a4 b3 b4 b5⟩
 |exit j=>exact⟨m',h',a1,a2,a3,a4,a5⟩
 |ret=>exact⟨m',h',a1,a2,a3,a4,a5⟩
theorem aG.nil{N pn nx:Nat}{b:aC}{Q:Qz}{m:Fm}{h:Hz}(d ty k:Nat){k':Nat}{r:Rw}(hd:m.get d=some (.row k' true r))(hr:r.aS=[])(hk:Bv k=true)(hN:Nat.blt d N=true)
  (H:aG P N pn b Q ((d,.own nx)::m) ((nx,some (.row ty k .nil []))::h) (nx+1)):aG P N pn b Q m h nx:=by
 refine⟨fun fr hl R=>?_⟩;have hdl:d<fr.length:=by rw[hl]; exact cF.mp hN
 have hget:fr.getD d .any= .sl k' true []:=by
  rw[R.getD hd]; simp only[V.aI,hr]
 have H':=H.ok (fr.set d (.own nx)) (by simpa using hl) (fun i v q=>by
  simp only[Fm.get] at q;cases hb:Nat.beq d i with
  |true=>rw[hb] at q; cases q; rw[<- fO hb]; simp[hdl,V.aI]
  |false =>
   rw[hb] at q
   rw[dy (cG hb)]; exact R i v q)
 have e:Hz.aj ((nx,some (.row ty k .nil []))::h)=upd h.aj nx (some ⟨ty,k,[]⟩):=by rw[bI]; rfl
 rw[e] at H';obtain⟨I,μ,⟨s0,w0,i0⟩,round⟩:=H';exact⟨I,μ,⟨s0,Wk.ahv d ty k hget hk w0,i0⟩,round⟩
structure gq(h0:Hz)(n:Nat)(post:T->Hp->Prop)(v:V)(h:Hz):Prop where
 ok: ∃ (Z:Nat->Prop) (ρ:Nat->Nat) (t:T) (h':Hp),post t h'/\T.sub Z h.aj (t.ren ρ) v.aI/\(∀ i ob,h' i=some ob-> ∃ ob',h.aj (ρ i)=some ob'/\ ¬ Z (ρ i)/\Ov Z h.aj ρ ob ob') /\
  (∀ i j,(h' i).isSome=true->(h' j).isSome=true->ρ i=ρ j->i=j)/\t.ids (fun i=>(h0.aj i).isSome=true\/i=n)/\pq (fun i=>(h0.aj i).isSome=true\/i=n) h' /\
  ∀ i,(h0.aj i).isSome=true->(h' i).isSome=true->ρ i=i
def ajx(h0:Hz)(n:Nat)(post:T->Hp->Prop)(rs:List RV):Qz
 | .exit _,_,_,_=>False
 |_,m,h,_=>match resV m h rs with
  |some v=>v.seq fun v=>gq h0 n post v h
  |none=>False
theorem nT.of{f:FuncId}{ac:aC}{rs:List RV}{nt nx n:Nat}{args:List V}{h0:Hz}{post:T->Hp->Prop}(B:Body P f ac rs nt)(hn:args.length<=nt)(hin: ∃ t h',post t h')(ha:T.Em nx (V.aS args)=true)(hg:tq nx h0=true)
  (H:az P nt nx ac (ajx h0 n post rs) (tJ 0 args) h0 nx):aP P f (V.aS args) h0.aj n post:=by
 obtain⟨fn,c,h1,h2,h3,h4,h5⟩:=B.ex;have hG:=zX hg;refine aP.yN (nx:=nx) h1 h2 h3 h4 B.cl h5 hin (AY ha) (fun i ob hi=>⟨(hG i ob hi).1,(hG i ob hi).2.1⟩) ?_;have:=lQ (P:=P) (N:=nt) (pn:=nx) (s:=⟨V.aS args++List.replicate (nt-(V.aS args).length) T.un,h0.aj,nx,nx⟩) B.dst (by simp[cO]; omega) rX rfl rfl H;refine kH ?_ this;rintro e s ⟨m,h,a1,a2,a3,a4,a5⟩;have key: ∀ {m h},Rp m s.fr->s.hp=Hz.aj h->(match resV m h rs with|some v=>v.seq fun v=>gq h0 n post v h|none=>False)-> ∃ s1,IJ s1 s/\Ret h0.aj n post rs s1:=by
  intro m h a2 a3 q;split at q
  ·rename_i v hv;rw[V.seq_eq] at q;obtain⟨b1,b2⟩:=DX a2 a3 hv;obtain⟨Z,ρ,t,h',c1,c2,c3,c4,c5,c6,c7⟩:=q.ok;exact⟨s,.refl _,b1,Z,ρ,t,h',c1,by rw[b2,a3]; exact c2,by rw[a3]; exact c3,c4,c5,c6,c7⟩
  ·exact q.elim
 cases e with
 |exit j=>exact a5.elim
 |normal=>exact key a2 a3 a5
 |ret=>exact key a2 a3 a5
theorem gq.one{h0 h:Hz}{n c j:Nat}{post:T->Hp->Prop}{v:V}{o:OV}{t:T}(hj:h.get j=some o)(hg:o.good (j+1)=true)(hf:o.zn=true)(hc:(h0.get c).isSome=true->j=c)(hc':(h0.get c).isSome=true\/c=n)
  (ht:t.ids (fun i=>i=c)) (hv:dB [t.ren fun _=>j] [v.aI]) (hp:post t (Hz.aj [(c,some o)])):gq h0 n post v h:=by
 have hgood:=(OV.sS hg).2;have hM: ∀ i,i=c->(h0.aj i).isSome=true\/i=n:=by
  rintro i rfl;rcases hc' with h|h
  ·left; simpa [Hz.aj] using h
  ·exact .inr h
 have hx: ∀ i ob,Hz.aj [(c,some o)] i=some ob->i=c/\ob=o.au:=fun i ob hi=>by
  simp only[Hz.aj,Hz.get] at hi;cases hb:Nat.beq c i with
  |true=>rw[hb] at hi; simp only[bE,bp,bi] at hi; exact⟨(fO hb).symm,hi.symm⟩
  |false=>rw[hb] at hi; simp at hi
 refine⟨fun i=>i≠j,fun _=>j,t,Hz.aj [(c,some o)],hp,(hv _ _).1,fun i ob hi=>?_,fun i i' hi hi' _=>?_,T.aW hM _ ht,fun i ob hi=>?_,fun i hi hi'=>?_⟩
 ·obtain⟨rfl,rfl⟩:=hx i ob hi;refine⟨o.au,aK hj,by simp,rfl,rfl,?_,uS hgood⟩;rw[OV.fC hf]; exact dR _
 ·obtain⟨oi,hi⟩:=am.1 hi;obtain⟨oj,hi'⟩:=am.1 hi';rw[(hx _ _ hi).1,(hx _ _ hi').1]
 ·obtain⟨rfl,rfl⟩:=hx i ob hi;exact⟨hM _ rfl,T.aA (fun _ h=>h.elim) _ (OV.xK hf)⟩
 ·obtain⟨oi,hi'⟩:=am.1 hi';obtain⟨rfl,_⟩:=hx _ _ hi';exact hc (by simpa [Hz.aj] using hi)
theorem ah.heap{f:FuncId}{args:List V}{h:Hz}{n:Nat}{K:V->Hz->Prop}{KW:Nat->V->Hz->Prop}{post:T->Hp->Prop}(S:aP P f (V.aS args) h.aj n post)(hK: ∀ t hp,post t hp-> ∃ v h',t=v.aI/\hp=Hz.aj h'/\K v h'):ah P false none f args h n K KW :=
 ⟨.inl (S.mono fun t hp q=>by
  obtain⟨v,h',h1,h2,h3⟩:=hK t hp q
  exact⟨v,h',h1,h2,(fun e=>by cases e),h3⟩)⟩
end
section
variable {P:Program}
def LoopN(body:(qL->AS->Prop)->AS->Prop)(Q:qL->AS->Prop):Nat->AS->Prop
 |0,_=>False
 |k+1,s=>body (fun e s'=>match e with| .normal=>LoopN body Q k s'|e=>Q e s') s
open Classical in
theorem Cb.ofN{b:aC}{Q:qL->AS->Prop}{k:Nat}{s:AS}(h:LoopN (aw P b) Q k s):Cb (aw P b) Q s:=by
 let I:AS->Nat->Prop:=fun s n=>LoopN (aw P b) Q n s
 let μ:AS->Nat:=fun s=>if hh: ∃ n,I s n then Classical.choose (YN _ (Classical.choose_spec hh)) else 0
 have hμ: ∀ s,(∃ n,I s n)->I s (μ s)/\ ∀ k,I s k->μ s<=k:=by
  intro s hh;have e:μ s=Classical.choose (YN _ (Classical.choose_spec hh)):=dif_pos hh;rw[e];exact Classical.choose_spec (YN _ (Classical.choose_spec hh))
 refine⟨fun s=> ∃ n,I s n,μ,⟨s,⟨s,.refl _,.inl rfl⟩,k,h⟩,fun s hI=>?_⟩;have h2:=(hμ s hI).1;generalize hm:μ s=m at h2;cases m with
 |zero=>exact h2.elim
 |succ m =>
  have h3:aw P b (fun e s'=>match e with| .normal=>LoopN (aw P b) Q m s'|e=>Q e s') s:=h2;refine kH ?_ h3;intro e s' q;cases e with
  |normal=>exact⟨s',⟨s',.refl _,.inl rfl⟩,⟨m,q⟩,by have:=(hμ s' ⟨m,q⟩).2 m q; omega⟩
  |exit j=>exact q
  |ret=>exact q
def azN(P:Program)(N pn:Nat)(b:aC)(Q:Qz):Nat->Fm->Hz->Nat->Prop
 |0,_,_,_=>False
 |k+1,m,h,nx=>az P N pn b (fun e m' h' nx'=>match e with| .normal=>azN P N pn b Q k m' h' nx'|e=>Q e m' h' nx') m h nx
theorem aG.times{N pn nx:Nat}{b:aC}{Q:Qz}{m:Fm}{h:Hz}(k:Nat)(hd:oQ N b=true)(H:azN P N pn b Q k m h nx):aG P N pn b Q m h nx:=by
 refine⟨fun fr hl R=>Cb.ofN (k:=k) ?_⟩;have key: ∀ (k:Nat) {m:Fm} {h:Hz} {nx:Nat} {s:AS},s.fr.length=N->Rp m s.fr->s.hp=h.aj->s.pin=pn->s.nx=nx->azN P N pn b Q k m h nx->LoopN (aw P b) (Lift N pn Q) k s:=by
  intro k;induction k with
  |zero=>intro m h nx s _ _ _ _ _ H; exact H.elim
  |succ k ih =>
   intro m h nx s a1 a2 a3 a4 a5 H;subst a5;have:=lQ (P:=P) (N:=N) (pn:=pn) (s:=s) hd a1 a2 a3 a4 H;show aw P b _ s;refine kH ?_ this;rintro e s' ⟨m',h',b1,b2,b3,b4,b5⟩;cases e with
   |normal=>exact ih b1 b2 b3 b4 rfl b5
   |exit j=>exact⟨m',h',b1,b2,b3,b4,b5⟩
   |ret=>exact⟨m',h',b1,b2,b3,b4,b5⟩
 exact key k hl R rfl rfl rfl H
end
section
variable {P:Program}
theorem SG{Z:Nat->Prop}{h:Hp}{t u:T}: ∀ {fr:List T} {j:Nat},fr[j]? =some u->T.sub Z h t u->T.dY Z h (fr.set j t) fr
 |[],_,e,_=>by simp at e
 |a::r,0,e,q=>by
  simp only[List.getElem?_cons_zero,bi] at e; subst e;exact⟨q,dR _⟩
 |a::r,j+1,e,q=>by
  simp only[List.getElem?_cons_succ] at e;exact⟨aH _,SG e q⟩
theorem aG.fzV{N pn nx:Nat}{b:aC}{Q:Qz}{m:Fm}{h:Hz}(d i:Nat)(u v:V)(hd:m.get d=some v)(hN:Nat.blt d N=true)(hs:T.sub (fun j=>j=i) h.aj u.aI v.aI)
  (H:aG P N pn b Q ((d,u)::m) ((i,none)::h) nx):aG P N pn b Q m h nx:=by
 refine⟨fun fr hl R=>?_⟩;have hdl:d<fr.length:=by rw[hl]; exact cF.mp hN
 have hget:fr[d]? =some v.aI:=R d _ hd
 have H':=H.ok (fr.set d u.aI) (by simpa using hl) (fun j v q=>by
  simp only[Fm.get] at q;cases hb:Nat.beq d j with
  |true=>rw[hb] at q; cases q; rw[<- fO hb]; simp[hdl]
  |false =>
   rw[hb] at q
   rw[dy (cG hb)]; exact R j v q)
 obtain⟨I,μ,⟨s0,⟨s1,w1,w2⟩,i0⟩,round⟩:=H';have F:adU (fun j=>j=i) ⟨fr.set d u.aI,Hz.aj ((i,none)::h),nx,pn⟩ ⟨fr,h.aj,nx,pn⟩:=by
  refine⟨SG hget hs,fun j ob hj=>?_,rfl,rfl⟩;have hne:j≠i:=by
   rintro rfl;simp[Hz.aj,Hz.get] at hj
  have hj':h.aj j=some ob:=by
   have hb:Nat.beq i j=false:=by
    cases hb:Nat.beq i j with
    |false=>rfl
    |true=>exact absurd (cw hb).symm hne
   simp only[Hz.aj,Hz.get,hb] at hj ⊢; exact hj
  exact⟨ob,hj',hne,rfl,rfl,dR _,rfl,rfl⟩
 exact⟨I,μ,⟨s0,⟨s1,w1.trans (.fz F (.refl _)),w2⟩,i0⟩,round⟩
theorem aG.fz{N pn nx:Nat}{b:aC}{Q:Qz}{m:Fm}{h:Hz}(d i k:Nat)(r:Rw)(hd:m.get d=some (.own i))(hN:Nat.blt d N=true)(hs:T.sub (fun j=>j=i) h.aj (V.row k false r).aI (V.own i).aI)
  (H:aG P N pn b Q ((d,.row k false r)::m) ((i,none)::h) nx):aG P N pn b Q m h nx:=aG.fzV d i _ _ hd hN hs H
end
section
variable {P:Program}
theorem ng{o:OV}(q:o.zn=true)(ρ:Nat->Nat):o.au.ren ρ=o.au:=by
 have:=OV.fC q ρ;unfold Ob.ren;rw[this]
theorem Lm{j:Nat}{o:OV}{i:Nat}:Hz.aj [(j,some o)] i=if i=j then some o.au else none:=by
 simp only[Hz.aj,Hz.get];cases hb:Nat.beq j i with
 |true=>rw[bc (fO hb).symm]; rfl
 |false=>rw[bB (fun e=>cG hb e.symm)]; rfl
theorem ny{j i:Nat}{o:Option OV}{h:Hz}:Hz.aj ((j,o)::h) i=if i=j then o.map OV.au else h.aj i:=by
 simp only[Hz.aj,Hz.get];cases hb:Nat.beq j i with
 |true=>rw[bc (fO hb).symm]; rfl
 |false=>rw[bB (fun e=>cG hb e.symm)]; rfl
theorem ah.ady{f:FuncId}{ts args:List V}{h:Hz}{i n:Nat}{o0:OV}{K:V->Hz->Prop}{KW:Nat->V->Hz->Prop}{post:T->Hp->Prop}(H:aP P f (V.aS ts) (Hz.aj [(0,some o0)]) 1 post)
  (ha:T.dF (fun _=>i) (V.aS ts)=V.aS args) (hid:T.Em 1 (V.aS ts)=true) (hg:o0.good 1=true) (hf:o0.zn=true) (hi:h.get i=some o0) (hn:h.get n=none)
  (hK: ∀ t hp,post t hp->(∃ v o,hp=Hz.aj [(0,some o)]/\o.zn=true/\t.ren (nameAt (fun _=>i) 1 n)=v.aI/\K v ((i,some o)::h)) \/
   (∃ v o,hp=Hz.aj [(1,some o)]/\o.zn=true/\t.ren (nameAt (fun _=>i) 1 n)=v.aI/\K v ((n,some o)::(i,none)::h))):ah P false none f args h n K KW:=by
 have hin:i≠n:=by rintro rfl; rw[hi] at hn; cases hn
 have hl0: ∀ j:Nat,j<1->(Hz.aj [(0,some o0)] j).isSome=true:=fun j hj=>by rw[Lm,bc (by omega)]; rfl
 have hsome: ∀ j,(Hz.aj [(0,some o0)] j).isSome=true->j=0:=fun j hj=>by
  rw[Lm] at hj; split at hj
  ·assumption
  ·cases hj
 refine ah.heap (post:=fun t' h'=> ∃ t h1,post t h1/\t'=t.ren (nameAt (fun _=>i) 1 n)/\h'=placed (fun _=>i) 1 n (Hz.aj [(0,some o0)]) h.aj h1) ?_ ?_
 ·rw[<- ha];refine aP.place H (T.aA hl0 _ (AY hid)) (fun j ob hj=>?_) (by rw[Lm]; rfl) (fun j ob hj=>?_) (fun a b h1 h2 _=>by rw[hsome a h1,hsome b h2])
  ·rw[Lm] at hj; split at hj
   ·cases hj;have hz:T.aO (fun _=>False) o0.au.l:=OV.xK hf;exact⟨T.aA (fun _ h=>h.elim) _ hz,(OV.sS hg).2⟩
   ·cases hj
  ·rw[Lm] at hj; split at hj
   ·cases hj;rw[ng hf]; exact aK hi
   ·cases hj
 ·rintro t' h' ⟨t,h1,hp,rfl,rfl⟩;have inj: ∀ a b,((Hz.aj [(0,some o0)] a).isSome=true\/a=1)->((Hz.aj [(0,some o0)] b).isSome=true\/b=1)->nameAt (fun _=>i) 1 n a=nameAt (fun _=>i) 1 n b->a=b:=by
   intro a b ha hb e;rcases ha with ha|rfl<;>rcases hb with hb|rfl
   ·rw[hsome a ha,hsome b hb]
   ·rw[hsome a ha] at e; exact absurd e hin
   ·rw[hsome b hb] at e; exact absurd e.symm hin
   ·rfl
  have at0: ∀ h1,placed (fun _=>i) 1 n (Hz.aj [(0,some o0)]) h.aj h1 i=(h1 0).map (Ob.ren (nameAt (fun _=>i) 1 n)):=fun h1=>Lc (h:=h.aj) (h1:=h1) inj (i:=0) (.inl (hl0 0 (by decide)))
  have at1: ∀ h1,placed (fun _=>i) 1 n (Hz.aj [(0,some o0)]) h.aj h1 n=(h1 1).map (Ob.ren (nameAt (fun _=>i) 1 n)):=fun h1=>Lc (h:=h.aj) (h1:=h1) inj (i:=1) (.inr rfl)
  have atO: ∀ h1 j,j≠i->j≠n->placed (fun _=>i) 1 n (Hz.aj [(0,some o0)]) h.aj h1 j=h.aj j:=fun h1 j g1 g2=>O9 (by
   rintro⟨a,ha,e⟩;rcases ha with ha|rfl
   ·rw[hsome a ha] at e; exact g1 e.symm
   ·exact g2 e.symm)
  rcases hK t h1 hp with ⟨v,o,rfl,ho,hv,hk⟩|⟨v,o,rfl,ho,hv,hk⟩
  ·refine⟨v,_,hv,?_,hk⟩;funext j;rw[ny];by_cases e1:j=i
   ·subst e1; rw[bc rfl,at0,Lm,bc rfl,bp,ng ho]; rfl
   ·rw[bB e1];by_cases e2:j=n
    ·subst e2; rw[at1,Lm,bB (by decide)]; simp only[Hz.aj,hn]; rfl
    ·exact atO _ j e1 e2
  ·refine⟨v,_,hv,?_,hk⟩;funext j;rw[ny,ny];by_cases e2:j=n
   ·subst e2; rw[bc rfl,at1,Lm,bc rfl,bp,ng ho]; rfl
   ·rw[bB e2];by_cases e1:j=i
    ·subst e1; rw[bc rfl,at0,Lm,bB (by decide)]; rfl
    ·rw[bB e1]; exact atO _ j e1 e2
end
section
variable {P:Program}
def okR(ρ:Nat->Nat)(nx pn:Nat)(h:Hz):List (Nat×OV)->List Nat->Prop
 |[],[]=>True
 |(c,o)::r,n::s=>(Nat.blt c nx=true/\(Nat.blt c pn=true->n=c)/\rF n s=true/\o.good nx=true /\
   ∃ o',h.get n=some o'/\o'.au.ty=o.au.ty/\o'.au.k=o.au.k/\dB (T.dF ρ o.au.l) o'.au.l)/\okR ρ nx pn h r s
 |_,_=>False
theorem qO{ρ:Nat->Nat}{nx pn:Nat}{h:Hz}: ∀ {l:List (Nat×OV)} {s:List Nat},okR ρ nx pn h l s->hpL (xF l s)=(rD l).aj:=by
 intro l;induction l with
 |nil=>intro s q; cases s with
  |nil=>rfl
  |cons _ _=>exact q.elim
 |cons p r ih =>
  obtain⟨c,o⟩:=p;intro s q;cases s with
  |nil=>exact q.elim
  |cons n s =>
   simp only[xF,hpL];have e:rD ((c,o)::r)=(c,some o)::rD r:=rfl;rw[e,bI,ih q.2]; rfl
theorem Fj{nx pn:Nat}{h:Hz}{Z:Nat->Prop}{ρ:Nat->Nat}: ∀ {l:List (Nat×OV)} {s:List Nat},okR ρ nx pn h l s->okL Z ρ h.aj nx pn (xF l s):=by
 intro l;induction l with
 |nil=>intro s _; cases s<;>trivial
 |cons p r ih =>
  obtain⟨c,o⟩:=p;intro s q;cases s with
  |nil=>exact q.elim
  |cons n s =>
   obtain⟨⟨q1,q2,q3,q4,o',q6,q7,q8,q9⟩,q⟩:=q;obtain⟨g1,g2⟩:=OV.sS q4;refine⟨⟨cF.mp q1,fun hc=>q2 (cF.mpr hc),WB q3,g1,g2,o'.au.l,?_,?_⟩,ih q⟩
   ·have:=aK q6;show h.aj n=some ⟨o.au.ty,o.au.k,o'.au.l⟩;rw[this,<- q7,<- q8]
   ·exact q9 _ _
structure amr{ι:Type}(inv:ι->Prop)(μ:ι->Nat)(vars:ι->Fm)(objs:ι->List (Nat×OV))(base:Fm)(nx pn:Nat)(i:ι)(m:Fm)(h:Hz):Prop where
 ok: ∃ j nw,inv j/\μ j<μ i/\mZ (gU (objs j) nw) m (vars j)/\mZ (gU (objs j) nw) m base/\okR (gU (objs j) nw) nx pn h (objs j) nw
theorem aG.vK{N pn nx0:Nat}(nx:Nat){b:aC}{Q:Qz}{m:Fm}{h:Hz}{ι:Type}(live:List Nat)(vars:ι->Fm)(objs:ι->List (Nat×OV))(inv:ι->Prop)(μ:ι->Nat)(i0:ι)(XU:List Nat)(hd:oQ N b=true)(hp:pn<=nx)(hv: ∀ i,ltF nx N (vars i)=true)(h0:inv i0)
  (he:mZ (gU (objs i0) XU) m (vars i0)) (ho:okR (gU (objs i0) XU) nx pn h (objs i0) XU)
  (H:Jz m live [] fun base=>mZ (gU (objs i0) XU) m base/\ltF nx N base=true/\ ∀ i,inv i->az P N pn b (fun e m' h' n'=>match e with
   | .normal=>amr inv μ vars objs base nx pn i m' h'
   |e=>Q e m' h' n') (vars i++base) (rD (objs i)) nx):aG P N pn b Q m h nx0:=by
 obtain⟨base,⟨hbs,hb,H⟩,hbm⟩:=y9 H (fun i v q=>by cases q);refine⟨fun fr hl R=>?_⟩;have hall: ∀ i j v,Fm.get j (vars i++base)=some v->T.lt nx v.aI=true/\j<N:=fun i j v q=>by
  rcases get_append q with q|q
  ·exact xJ (hv i) q
  ·exact xJ hb q
 have wk: ∀ (i:ι) (nw:List Nat) (m':Fm) (h':Hz) (s':AS),s'.fr.length=N->Rp m' s'.fr->s'.hp=h'.aj->s'.pin=pn->mZ (gU (objs i) nw) m' (vars i)->mZ (gU (objs i) nw) m' base->okR (gU (objs i) nw) nx pn h' (objs i) nw ->
   Wk ⟨uU N (vars i++base),(rD (objs i)).aj,nx,pn⟩ s':=by
  intro i nw m' h' s' a1 a2 a3 a4 a5 a6 a7;obtain⟨fr',hp',nx',pn'⟩:=s';simp only at a1 a2 a3 a4;subst a3; subst a4;rw[<- qO a7];have e:Ep (xF (objs i) nw)=gU (objs i) nw:=funext fun _=>CX
  refine Wk.objs (xF (objs i) nw) (Gh a1 a2 fun j v q=>?_) (CW fun j v q=>(hall i j v q).1) hp (by rw[e]; exact Fj a7);rw[e];rcases get_append q with q|q
  ·exact vJ a5 q
  ·exact vJ a6 q
 refine Cb.rule (fun i=>⟨uU N (vars i++base),(rD (objs i)).aj,nx,pn⟩) inv μ i0 h0 (wk i0 XU m h _ hl R rfl rfl he hbs ho) ?_;intro i hi;have:=lQ (P:=P) (N:=N) (pn:=pn) (s:=⟨uU N (vars i++base),(rD (objs i)).aj,nx,pn⟩) hd yc (CV fun j v q=>(hall i j v q).2) rfl rfl (H i hi);refine kH ?_ this;rintro e s' ⟨m',h',a1,a2,a3,a4,a5⟩;cases e with
 |normal =>
  obtain⟨j,nw,b1,b2,b3,b4,b5⟩:=a5.ok;exact⟨j,⟨b1,b2⟩,wk j nw m' h' s' a1 a2 a3 a4 b3 b4 b5⟩
 |exit j=>exact⟨m',h',a1,a2,a3,a4,a5⟩
 |ret=>exact⟨m',h',a1,a2,a3,a4,a5⟩
end
section
variable {P:Program}
def QO(Z:Nat->Prop)(h:Hz):Hz->Prop
 |[]=>True
 |(_,none)::r=>QO Z h r
 |(i,some o)::r=>(∃ o',h.get i=some o'/\ ¬ Z i/\o'.au.ty=o.au.ty/\o'.au.k=o.au.k/\T.dY Z h.aj o.au.l o'.au.l/\o.au.l.map T.kd=o'.au.l.map T.kd/\o.au.l.map iw=o'.au.l.map iw)/\QO Z h r
def Frz(h h2:Hz):Prop:= ∃ Z,QO Z h h2
theorem JA{Z:Nat->Prop}{h:Hz}: ∀ {h2:Hz},QO Z h h2-> ∀ {i:Nat} {o:OV},h2.get i=some o-> ∃ o',h.get i=some o'/\ ¬ Z i/\o'.au.ty=o.au.ty/\o'.au.k=o.au.k/\T.dY Z h.aj o.au.l o'.au.l/\o.au.l.map T.kd=o'.au.l.map T.kd/\o.au.l.map iw=o'.au.l.map iw:=by
 intro h2;induction h2 with
 |nil=>intro _ i o e; cases e
 |cons p r ih =>
  obtain⟨j,u⟩:=p;intro hf i o e;simp only[Hz.get] at e;cases u with
  |none =>
   cases hb:Nat.beq j i with
   |true=>rw[hb] at e; cases e
   |false=>rw[hb] at e; exact ih hf e
  |some u =>
   cases hb:Nat.beq j i with
   |true=>rw[hb] at e; cases e; rw[<- fO hb]; exact hf.1
   |false=>rw[hb] at e; exact ih hf.2 e
theorem Frz.wk{s _s1:AS}{fr:List T}{h h2:Hz}{nx pn:Nat}(f:Frz h h2)(w:Wk s ⟨fr,h2.aj,nx,pn⟩):Wk s ⟨fr,h.aj,nx,pn⟩:=by
 obtain⟨Z,f⟩:=f;obtain⟨s1,w1,w2⟩:=w;have F:adU Z ⟨fr,h2.aj,nx,pn⟩ ⟨fr,h.aj,nx,pn⟩:=by
  refine⟨dR _,fun i ob hi=>?_,rfl,rfl⟩;simp only[Hz.aj,be] at hi;obtain⟨o,e1,rfl⟩:=hi;obtain⟨o',a1,a2,a3,a4,a5,a6,a7⟩:=JA f e1;exact⟨o'.au,aK a1,a2,a3,a4,a5,a6,a7⟩
 exact⟨s1,w1.trans (.fz F (.refl _)),w2⟩
structure ams{ι:Type}(inv:ι->Prop)(μ:ι->Nat)(vars:ι->Fm)(objs:ι->List (Nat×OV))(base:Fm)(nx pn:Nat)(i:ι)(m:Fm)(h:Hz):Prop where
 ok: ∃ h2 j nw,Frz h h2/\inv j/\μ j<μ i/\mZ (gU (objs j) nw) m (vars j)/\mZ (gU (objs j) nw) m base/\okR (gU (objs j) nw) nx pn h2 (objs j) nw
theorem aG.ZG{N pn nx0:Nat}(nx:Nat){b:aC}{Q:Qz}{m:Fm}{h:Hz}{ι:Type}(live:List Nat)(vars:ι->Fm)(objs:ι->List (Nat×OV))(inv:ι->Prop)(μ:ι->Nat)(i0:ι)(XU:List Nat)(h2:Hz)(hd:oQ N b=true)(hp:pn<=nx)(hv: ∀ i,ltF nx N (vars i)=true)(h0:inv i0)
  (he:mZ (gU (objs i0) XU) m (vars i0)) (hf:Frz h h2) (ho:okR (gU (objs i0) XU) nx pn h2 (objs i0) XU)
  (H:Jz m live [] fun base=>mZ (gU (objs i0) XU) m base/\ltF nx N base=true/\ ∀ i,inv i->az P N pn b (fun e m' h' n'=>match e with
   | .normal=>ams inv μ vars objs base nx pn i m' h'
   |e=>Q e m' h' n') (vars i++base) (rD (objs i)) nx):aG P N pn b Q m h nx0:=by
 obtain⟨base,⟨hbs,hb,H⟩,hbm⟩:=y9 H (fun i v q=>by cases q);refine⟨fun fr hl R=>?_⟩;have hall: ∀ i j v,Fm.get j (vars i++base)=some v->T.lt nx v.aI=true/\j<N:=fun i j v q=>by
  rcases get_append q with q|q
  ·exact xJ (hv i) q
  ·exact xJ hb q
 have wk: ∀ (i:ι) (nw:List Nat) (m':Fm) (h' h2':Hz) (s':AS),s'.fr.length=N->Rp m' s'.fr->s'.hp=h'.aj->s'.pin=pn->Frz h' h2'->mZ (gU (objs i) nw) m' (vars i)->mZ (gU (objs i) nw) m' base->okR (gU (objs i) nw) nx pn h2' (objs i) nw ->
   Wk ⟨uU N (vars i++base),(rD (objs i)).aj,nx,pn⟩ s':=by
  intro i nw m' h' h2' s' a1 a2 a3 a4 af a5 a6 a7;obtain⟨fr',hp',nx',pn'⟩:=s';simp only at a1 a2 a3 a4;subst a3; subst a4;refine af.wk (_s1:=⟨fr',h2'.aj,nx',pn'⟩) ?_;rw[<- qO a7];have e:Ep (xF (objs i) nw)=gU (objs i) nw:=funext fun _=>CX
  refine Wk.objs (xF (objs i) nw) (Gh a1 a2 fun j v q=>?_) (CW fun j v q=>(hall i j v q).1) hp (by rw[e]; exact Fj a7);rw[e];rcases get_append q with q|q
  ·exact vJ a5 q
  ·exact vJ a6 q
 refine Cb.rule (fun i=>⟨uU N (vars i++base),(rD (objs i)).aj,nx,pn⟩) inv μ i0 h0 (wk i0 XU m h h2 _ hl R rfl rfl hf he hbs ho) ?_;intro i hi;have:=lQ (P:=P) (N:=N) (pn:=pn) (s:=⟨uU N (vars i++base),(rD (objs i)).aj,nx,pn⟩) hd yc (CV fun j v q=>(hall i j v q).2) rfl rfl (H i hi);refine kH ?_ this;rintro e s' ⟨m',h',a1,a2,a3,a4,a5⟩;cases e with
 |normal =>
  obtain⟨h2',j,nw,bf,b1,b2,b3,b4,b5⟩:=a5.ok;exact⟨j,⟨b1,b2⟩,wk j nw m' h' h2' s' a1 a2 a3 a4 bf b3 b4 b5⟩
 |exit j=>exact⟨m',h',a1,a2,a3,a4,a5⟩
 |ret=>exact⟨m',h',a1,a2,a3,a4,a5⟩
theorem jR{Z:Nat->Prop}{h:Hz}{i:Nat}{o:OV}(e:h.get i=some o)(hz: ¬ Z i): ∃ o',h.get i=some o'/\ ¬ Z i/\o'.au.ty=o.au.ty/\o'.au.k=o.au.k/\T.dY Z h.aj o.au.l o'.au.l/\o.au.l.map T.kd=o'.au.l.map T.kd/\o.au.l.map iw=o'.au.l.map iw :=
 ⟨o,e,hz,rfl,rfl,dR _,rfl,rfl⟩
end
section
variable {P:Program}
theorem AZ{t:T}(q:t.free=true)(ρ:Nat->Nat):t.ren ρ=t:=by
 have:T.dF ρ [t]=[t]:=xI _ ⟨eY q,trivial⟩
 simpa [T.dF] using this
structure aod(o0 o1:OV)(v:V)(h:Hz):Prop where
 ok: ∃ a b o0',v= .ptr a 0 0/\a≠b/\h.get a=some o0'/\o0.au.ren (fun i=>bif Nat.beq i 0 then a else b)=o0'.au/\h.get b=some o1
end
section
variable {P:Program}
def aan(ρ:Nat->Nat)(h:Hz):Hz->Prop
 |[]=>True
 |(_,none)::r=>aan ρ h r
 |(i,some o)::r=>(∃ o',h.get (ρ i)=some o'/\o.au.ren ρ=o'.au)/\aan ρ h r
theorem ab4{ρ:Nat->Nat}{h:Hz}: ∀ {pre:Hz},aan ρ h pre-> ∀ {i:Nat} {o:OV},pre.get i=some o-> ∃ o',h.get (ρ i)=some o'/\o.au.ren ρ=o'.au:=by
 intro pre;induction pre with
 |nil=>intro _ i o e; cases e
 |cons p r ih =>
  obtain⟨j,u⟩:=p;intro hf i o e;simp only[Hz.get] at e;cases u with
  |none =>
   cases hb:Nat.beq j i with
   |true=>rw[hb] at e; cases e
   |false=>rw[hb] at e; exact ih hf e
  |some u =>
   cases hb:Nat.beq j i with
   |true=>rw[hb] at e; cases e; rw[<- fO hb]; exact hf.1
   |false=>rw[hb] at e; exact ih hf.2 e
def aeN(σ:Nat->Nat)(hp:Hp):Nat->List (Option OV)->Prop
 |_,[]=>True
 |i,r::rs=>r.map OV.au=(hp i).map (Ob.ren σ)/\aeN σ hp (i+1) rs
theorem ab5{σ:Nat->Nat}{hp:Hp}: ∀ {rs:List (Option OV)} {i k:Nat},aeN σ hp i rs->k<rs.length->(rs.getD k none).map OV.au=(hp (i+k)).map (Ob.ren σ):=by
 intro rs;induction rs with
 |nil=>intro i k _ hk; cases hk
 |cons r rs ih =>
  intro i k ha hk;cases k with
  |zero=>exact ha.1
  |succ k =>
   have:=@ih (i+1) k ha.2 (Nat.lt_of_succ_lt_succ hk);rw[List.getD_cons_succ,this,Nat.succ_add_eq_add_succ]
def YZ:List Nat->List (Option OV)->Hz->Hz
 |k::ks,r::rs,h=>(k,r)::YZ ks rs h
 |_,_,h=>h
theorem aeO{h:Hz}{a:Nat}: ∀ {ks:List Nat} {rs:List (Option OV)},a ∉ ks->(YZ ks rs h).aj a=h.aj a:=by
 intro ks;induction ks with
 |nil=>intro rs _; rfl
 |cons k ks ih =>
  intro rs ha;cases rs with
  |nil=>rfl
  |cons r rs =>
   simp only[bv,not_or] at ha;show Hz.aj ((k,r)::YZ ks rs h) a=_;rw[ny,bB ha.1,ih ha.2]
theorem ahO{h:Hz}: ∀ {ks:List Nat} {rs:List (Option OV)} {i:Nat},ks.length=rs.length->ks.Nodup->i<ks.length->(YZ ks rs h).aj (ks.getD i 0)=(rs.getD i none).map OV.au:=by
 intro ks;induction ks with
 |nil=>intro rs i _ _ hi; cases hi
 |cons k ks ih =>
  intro rs i hl hn hi;cases rs with
  |nil=>cases hl
  |cons r rs =>
   cases i with
   |zero=>show Hz.aj ((k,r)::YZ ks rs h) k=_; rw[ny,bc rfl]; rfl
   |succ i =>
    have hi':i<ks.length:=Nat.lt_of_succ_lt_succ hi;rw[List.nodup_cons] at hn;have hne:ks.getD i 0≠k:=fun e=>hn.1 (by rw[<- e,show ks.getD i 0=ks[i] by simp[hi']]; exact bh hi')
    show Hz.aj ((k,r)::YZ ks rs h) (ks.getD i 0)=_;rw[ny,bB hne];exact ih (Nat.succ.inj hl) hn.2 hi'
theorem ab6{is:List Nat}{n i:Nat}:(is++[n]).getD i 0=if i=is.length then n else if i<is.length then is.getD i 0 else 0:=by
 by_cases h:i<is.length
 ·rw[bB (by omega),bc h]; simp[List.getD_eq_getElem?_getD,List.getElem?_append_left h]
 ·by_cases e:i=is.length
  ·subst e; simp
  ·rw[bB e,bB h]; simp[List.getD_eq_getElem?_getD,List.getElem?_eq_none (by simp; omega:(is++[n]).length<=i)]
theorem ah.DY{f:FuncId}{ts args:List V}{h pre:Hz}{m n:Nat}{K:V->Hz->Prop}{KW:Nat->V->Hz->Prop}{post:T->Hp->Prop}(is:List Nat)(H:aP P f (V.aS ts) pre.aj m post)(hm:is.length=m)
  (ha:T.dF (is.getD · 0) (V.aS ts)=V.aS args) (hid:T.Em m (V.aS ts)=true) (hg:tq m pre=true) (hall:((List.range m).all fun i=>(pre.get i).isSome)=true) (hpl:aan (is.getD · 0) h pre) (_hn:h.get n=none) (nd:(is++[n]).Nodup)
  (hK: ∀ t hp,post t hp-> ∃ v rs,rs.length=m+1/\t.ren (nameAt (is.getD · 0) m n)=v.aI/\aeN (nameAt (is.getD · 0) m n) hp 0 rs/\K v (YZ (is++[n]) rs h)):ah P false none f args h n K KW:=by
 have hG:=zX hg;have hlt: ∀ i,i<m->(pre.aj i).isSome=true:=fun i hi=>by
  rw[bj] at hall;have:=hall i (cD.2 hi);simpa [Hz.aj] using this
 have hsome: ∀ i,(pre.aj i).isSome=true->i<m:=fun i hi=>by
  obtain⟨ob,hob⟩:=am.1 hi;exact(hG i ob hob).1
 have hnm: ∀ i,i<=m->nameAt (is.getD · 0) m n i=(is++[n]).getD i 0:=fun i hi=>by
  rw[ab6,hm];unfold nameAt;by_cases e:i=m
  ·rw[bc e,bc e]
  ·rw[bB e,bB e,bc (by omega)]
 have hlen:(is++[n]).length=m+1:=by rw[aL,hm]; rfl
 have hinj: ∀ i j,i<=m->j<=m->nameAt (is.getD · 0) m n i=nameAt (is.getD · 0) m n j->i=j:=fun i j hi hj e=>by
  rw[hnm i hi,hnm j hj] at e;have hi':i<(is++[n]).length:=by omega
  have hj':j<(is++[n]).length:=by omega
  rw[show(is++[n]).getD i 0=(is++[n])[i] from by rw[ab,bS hi']; rfl,show(is++[n]).getD j 0=(is++[n])[j] from by rw[ab,bS hj']; rfl] at e;have hpw:=List.pairwise_iff_getElem.1 nd;rcases Nat.lt_trichotomy i j with q|q|q
  ·exact absurd e (hpw i j hi' hj' q)
  ·exact q
  ·exact absurd e.symm (hpw j i hj' hi' q)
 have hD: ∀ i,((pre.aj i).isSome=true\/i=m)->i<=m:=fun i hi=>hi.elim (fun q=>gn (hsome i q)) (fun q=>by omega)
 have inj: ∀ i j,((pre.aj i).isSome=true\/i=m)->((pre.aj j).isSome=true\/j=m)->nameAt (is.getD · 0) m n i=nameAt (is.getD · 0) m n j->i=j:=fun i j hi hj e=>hinj i j (hD i hi) (hD j hj) e
 have hne: ∀ i,i<m->nameAt (is.getD · 0) m n i=is.getD i 0:=fun i hi=>bB (by omega)
 refine ah.heap (post:=fun t' h'=> ∃ t h1,post t h1/\t'=t.ren (nameAt (is.getD · 0) m n)/\h'=placed (is.getD · 0) m n pre.aj h.aj h1) ?_ ?_
 ·rw[<- ha];refine aP.place H (T.aA hlt _ (AY hid)) (fun a ob hob=>⟨T.aA hlt _ (hG a ob hob).2.1,(hG a ob hob).2.2⟩) ?_ (fun a ob hob=>?_) (fun i j hi hj e=>hinj i j (gn (hsome i hi)) (gn (hsome j hj)) (by rw[hne i (hsome i hi),hne j (hsome j hj)]; exact e))
  ·cases e:pre.aj m with
   |none=>rfl
   |some ob=>have:=(hG m ob e).1; omega
  ·simp only[Hz.aj,be] at hob;obtain⟨o,e1,rfl⟩:=hob;obtain⟨o',a1,a2⟩:=ab4 hpl e1;rw[aK a1,<- a2]
 ·rintro t' h' ⟨t,h1,hp,rfl,rfl⟩;obtain⟨v,rs,hr,hv,hat,hk⟩:=hK t h1 hp;refine⟨v,_,hv,?_,hk⟩;funext a;by_cases he: ∃ i,i<=m/\(is++[n]).getD i 0=a
  ·obtain⟨i,hi,rfl⟩:=he;rw[ahO (by omega) nd (by omega),ab5 hat (by omega),fS,<- hnm i hi];have hin:(pre.aj i).isSome=true\/i=m:=by
    by_cases e:i=m
    ·exact .inr e
    ·exact .inl (hlt i (by omega))
   exact Lc (h:=h.aj) (h1:=h1) inj hin
  ·have hoff:a ∉ is++[n]:=fun hmem=>by
    obtain⟨i,hi,e⟩:=dt hmem;exact he ⟨i,by omega,by rw[ab,bS hi]; exact e⟩
   rw[aeO hoff];exact O9 (fun⟨i,hi,e⟩=>he ⟨i,hD i hi,by rw[<- hnm i (hD i hi)]; exact e⟩)
theorem gq.boxed{h0 h:Hz}{n c ty:Nat}{post:T->Hp->Prop}{v:V}{o o2:OV}(q0:h.get 0=some (.box ty 0 (.own c)))(qc:h.get c=some o)(hc:c≠0)(h00:(h0.aj 0).isSome=true)(hn0:n≠0)(h0n:h0.aj n=none)(hf:o.zn=true)(hg:o.good (c+1)=true)(hb:(OV.box ty 0 (.own c)).good (c+1)=true)(he:o.au=o2.au)(hv:v.free=true)
  (hp:post v.aI (Hz.aj [(0,some (.box ty 0 (.own n))),(n,some o2)])):gq h0 n post v h:=by
 have hx: ∀ i ob,Hz.aj [(0,some (.box ty 0 (.own n))),(n,some o2)] i=some ob->(i=0/\ob=(OV.box ty 0 (.own n)).au)\/(i=n/\ob=o.au):=fun i ob hi=>by
  rw[ny,Lm] at hi;by_cases e0:i=0
  ·rw[bc e0] at hi; cases hi; exact .inl ⟨e0,rfl⟩
  ·rw[bB e0] at hi;by_cases e1:i=n
   ·rw[bc e1] at hi; cases hi; exact .inr ⟨e1,he.symm⟩
   ·rw[bB e1] at hi; cases hi
 have hfr:=V.jS v hv;refine⟨fun _=>False,fun i=>if i=n then c else i,v.aI,_,hp,by rw[AZ hfr]; exact aH _,fun i ob hi=>?_,fun i j hi hj e=>?_,T.aW (fun _ h=>h.elim) _ (eY hfr),fun i ob hi=>?_,fun i hi hi'=>?_⟩
 ·rcases hx i ob hi with ⟨e1,rfl⟩|⟨e1,rfl⟩
  ·have e2:(fun i=>if i=n then c else i) i=0:=by rw[e1]; exact bB (Ne.symm hn0)
   refine⟨(OV.box ty 0 (.own c)).au,by rw[e2]; exact aK q0,fun h=>h,rfl,rfl,?_,uS (OV.sS hb).2⟩
   have:T.dF (fun i=>if i=n then c else i) (OV.box ty 0 (.own n)).au.l=(OV.box ty 0 (.own c)).au.l:=by
    show [T.own (if n=n then c else n)]=[T.own c];rw[bc rfl]
   rw[this]; exact dR _
  ·have e2:(fun i=>if i=n then c else i) i=c:=bc e1;refine⟨o.au,by rw[e2]; exact aK qc,fun h=>h,rfl,rfl,?_,uS (OV.sS hg).2⟩;rw[OV.fC hf]; exact dR _
 ·obtain⟨oi,hi⟩:=am.1 hi;obtain⟨oj,hj⟩:=am.1 hj;have k0: ∀ i,i=0->(fun i=>if i=n then c else i) i=0:=fun i e1=>by rw[e1]; exact bB (Ne.symm hn0)
  have kn: ∀ i,i=n->(fun i=>if i=n then c else i) i=c:=fun i e1=>bc e1
  rcases hx _ _ hi with ⟨a,_⟩|⟨a,_⟩<;>rcases hx _ _ hj with ⟨b,_⟩|⟨b,_⟩
  ·rw[a,b]
  ·rw[k0 i a,kn j b] at e; exact absurd e.symm hc
  ·rw[kn i a,k0 j b] at e; exact absurd e hc
  ·rw[a,b]
 ·rcases hx i ob hi with ⟨rfl,rfl⟩|⟨rfl,rfl⟩
  ·exact⟨.inl h00,⟨.inr rfl,trivial⟩⟩
  ·exact⟨.inr rfl,T.aA (fun _ h=>h.elim) _ (OV.xK hf)⟩
 ·have:i≠n:=fun e=>by subst e; rw[h0n] at hi; cases hi
  exact bB this
end
section
variable {P:Program}
structure Dfr where
 d:Nat
 g:FuncId
 x:Nat
 y:Nat
def amu:List Oper->Option Dfr
 |[o1,o2]=>match o1.op,o1.dst,o1.guard,o2.op,o2.dst,o2.guard with
  | .makeFunc (.func g) ⟨[]⟩ ⟨[.tmp x,.tmp y]⟩,some d,none,.defer ⟨.value (.tmp e),⟨[]⟩,⟨[]⟩⟩,none,none=>bif Nat.beq d e then some ⟨d,g,x,y⟩ else none
  |_,_,_,_,_,_=>none
 |_=>none
def aeP(P:Program):Code->Option (aC×Dfr×aC)
 | .seq (.region id ops false) c=>match amu ops.toList with
  |some i=>(comp P c).map fun b=>(.skip,i,b)
  |none=>match comp P (.region id ops false),aeP P c with
   |some a,some (a',i,b)=>some (.seq a a',i,b)
   |_,_=>none
 | .seq a c=>match comp P a,aeP P c with
  |some a,some (a',i,b)=>some (.seq a a',i,b)
  |_,_=>none
 |_=>none
def ahP(P:Program)(f:FuncId)(ts:List T)(h:Hp)(n:Nat)(post:Hp->Prop):Prop :=
 ∀ (F:Fr P) (M:Nat->Prop) (E:Env) (vs:List Value),qY F E->E.h=h->bg E ts vs->T.aO M ts->pq M h-> ¬ M n ->
  CallsD P f vs.toArray .returning E.w fun e u w'=>u= .returning/\Ends F M E n (fun _ h'=>post h') e w'
structure aoe(P:Program)(f:FuncId)(a b:aC)(i:Dfr)(rs:List RV)(nt:Nat):Prop where
 ex: ∃ fn c,P.funcs[f]? =some fn/\fn.body=some c/\aeP P c=some (a,i,b)/\nO P fn.results.toList=some rs/\fn.ntmps=nt
 cl:callable P f
 dst:(oQ nt a&&oQ nt b&&Nat.blt i.d nt)=true
structure aoi(P:Program)(g:FuncId)(us:List V)(h:Hz)(nx pn:Nat)(K:Hz->Prop):Prop where
 ok:T.Em pn (V.aS us)=true/\ahP P g (V.aS us) h.aj nx fun hp=> ∃ h':Hz,hp=h'.aj/\K h'
theorem aP.frz{f:FuncId}{ts ts2:List T}{h h2:Hp}{n:Nat}{post:T->Hp->Prop}(Z:Nat->Prop)(H:aP P f ts2 h2 n post)(hs:T.dY Z h ts2 ts)
  (ho: ∀ i ob,h2 i=some ob-> ∃ ob',h i=some ob'/\ ¬ Z i/\ob'.ty=ob.ty/\ob'.k=ob.k/\T.dY Z h ob.l ob'.l/\ob.l.map T.kd=ob'.l.map T.kd/\ob.l.map iw=ob'.l.map iw):aP P f ts h n post:=by
 obtain⟨h1,hcl,hcall⟩:=H;refine⟨h1,hcl,fun F M E vs hk he hrep hid hm hn=>?_⟩;subst he;have Ue: ∀ i ob,h2 i=some ob-> ∃ ob',E.h (id i)=some ob'/\ ¬ Z (id i)/\Ov Z E.h id ob ob':=fun i ob hi=>by
  obtain⟨ob',a1,a2,a3,a4,a5,a6,a7⟩:=ho i ob hi;refine⟨ob',a1,a2,a3,a4,by rw[CJ]; exact a5,?_⟩;have hkd:=(hk.obs i ob' a1).1.kinds;rw[<- a4];rcases hkd with ⟨g1,g2⟩|⟨g1,g2⟩
  ·exact .inl ⟨g1,O4 a7 g2⟩
  ·exact .inr ⟨g1,La a6 g2⟩
 let E2:Env:=(E.shut Z).ren id h2
 have hk2:qY F E2:=hk.ren Ue fun i j _ _ e=>e
 have hl: ∀ i,(h2 i).isSome=true->((E.shut Z).h (id i)).isSome=true:=fun i hi=>by
  obtain⟨ob,hob⟩:=am.1 hi;obtain⟨ob',b1,b2,_⟩:=Ue i ob hob;rw[yM b2,b1]; rfl
 have aeQ:bg E2 ts2 vs:=by
  have e:T.dF id ts2=ts2:=CJ ts2;have:=sO hk _ _ hs _ hrep;rw[<- e] at this;exact xw hl _ _ this
 refine(hcall F M E2 vs hk2 rfl aeQ (uh _ _ hs hid) (fun i ob hi=>?_) hn).mono ?_
 ·obtain⟨ob',a1,_,_,_,a5,_⟩:=ho i ob hi;exact⟨(hm i ob' a1).1,uh _ _ a5 (hm i ob' a1).2⟩
 ·rintro e w' ⟨v,t,E',rfl,rfl,r3,r4,r5,r6,r7,r8,r9⟩;refine⟨v,t,E',rfl,rfl,r3,r4,r5,⟨fun g hg=>r6.s g (.inl hg),fun g hg=>r6.w g (hg.imp .inl id),r6.size,r6.os,r6.tape,r6.output,r6.dr,r6.y⟩,fun i hi hsome=>?_,r8,r9⟩;obtain⟨q1,q2,q3⟩:=r7 i hi hsome;obtain⟨ob,hob⟩:=am.1 q1;obtain⟨ob',a1,_⟩:=ho i ob hob;exact⟨by rw[a1]; rfl,q2,q3⟩
end
section
variable {P:Program}
theorem ahQ{w w':World}(hh: ∀ g,g<w.heap.size->w'.heap[g]? =w.heap[g]?)(hs:w.heap.size<=w'.heap.size)(ho:w'.os=w.os)(ht:w'.tape=w.tape)(hp:w'.output=w.output)(hd:w.drawn<=w'.drawn) :
  ∃ q os,w'=Sort.grow (w.drewN q) os:=by
 refine⟨w'.drawn-w.drawn,w'.heap.extract w.heap.size w'.heap.size,?_⟩;obtain⟨h1,t1,d1,o1,p1⟩:=w;obtain⟨h2,t2,d2,o2,p2⟩:=w';simp only at hh hs ho ht hp hd;subst ho ht hp;simp only[Sort.grow,World.drewN]
 congr 1
 ·apply Array.ext_getElem?;intro i;rw[Array.getElem?_append];split
  ·rename_i hi; rw[hh i hi]
  ·rename_i hi;simp only[Array.getElem?_extract];by_cases hi2:i<h2.size
   ·rw[bc (by omega)]
    congr 1; omega
   ·rw[Array.getElem?_eq_none (by omega),bB (by omega)]
 ·omega
def El(E:Env)(l:List T)(k:Nat):Type:= {p:T×List Value // p.1∈l/\aN E p.1 p.2/\p.2.length=k/\ ∀ v∈p.2,v.oneCell'=true}
theorem Y0{E:Env}{k:Nat}: ∀ {l:List T} {vs:List Value},l.length*bD k<=vs.length->(∀ j t,l[j]? =some t->t.kd=k/\(∀ v∈(vs.drop (j*bD k)).take (bD k),v.oneCell'=true)/\aN E t ((vs.drop (j*bD k)).take (bD k)))->aJ E k l vs:=by
 intro l;induction l with
 |nil=>intro vs _ _; trivial
 |cons t ts ih =>
  intro vs hl H;simp only[bX,de,gO] at hl;obtain⟨h1,h2,h3⟩:=H 0 t rfl;simp only[Nat.zero_mul,List.drop_zero] at h2 h3;refine⟨h1,by omega,h2,h3,ih (by simp; omega) fun j u hj=>?_⟩;have:=H (j+1) u (by simpa using hj);rw[dm];rw[de,gO,gR (j*bD k)] at this;exact this
theorem Y3{w:World}{g:Nat}{cur:Array Value}{ty:TypeId}(h:w.heap[g]? =some (.cells cur ty (0,0)))(off:Nat):w.frozen? ⟨g,off,none⟩=false:=by
 simp[World.frozen?,h]
open Go.Proofs in
set_option maxHeartbeats 1000000 in
theorem aP.sort{ρ:Shelf.Ren}(L:SlLaysF0.n6 P ρ)(k:Nat)(hk0:0<k)(aE: ∀ w,(isAgg (ρ.t 24)).run P w= .ok true w)(zE: ∀ w,(Go.sizeOf (ρ.t 24)).run P w= .ok k w)(hcl:callable P (ρ.f 6))
  {g:Nat} (hg:g<4096) (hgc:callable P g) {l:List T} (hne:l≠[]) (hkd: ∀ t∈l,t.kd=k+1) (hfree:T.bn l=true) (hlen:l.length<4611686018427387904) (cf:T->T->Int)
  (anJ: ∀ x∈l,¬ cf x x<0) (htr: ∀ x∈l,∀ y∈l,∀ z∈l,cf x y<0->cf y z<0->cf x z<0) (hnt: ∀ x∈l,∀ y∈l,∀ z∈l,¬ cf x y<0-> ¬ cf y z<0-> ¬ cf x z<0)
  (hc: ∀ x∈l,∀ y∈l,zC P g [x,y] (.int (cf x y))) (hkm:k+1≠gK) (hex: ∃ l':List T,l'.Perm l/\l'.Pairwise (fun a b=> ¬ cf b a<0)) {h:Hp} {i ty n:Nat} (hi:h i=some ⟨ty,k+1,l⟩) :
  aP P (ρ.f 6) [.own i,.fn g []] h n fun t h'=>t= .dD []/\ ∃ l',l'.Perm l/\l'.Pairwise (fun a b=> ¬ cf b a<0)/\h'=upd h i (some ⟨ty,k+1,l'⟩):=by
 refine⟨?_,hcl,fun F M E vs hk he hts hid hm hn=>?_⟩
 ·obtain⟨l',h1,h2⟩:=hex;exact⟨_,_,rfl,l',h1,h2,rfl⟩
 subst he;simp only[bQ] at hts;obtain⟨v0,r0,rfl,hv0,v1,r1,rfl,hv1,hnil⟩:=hts;simp only[bg] at hnil;subst hnil;rw[aB rfl] at hv0 hv1;simp only[aN] at hv0 hv1;obtain⟨u0,hu0,hlive⟩:=hv0;obtain⟨cs,hu1,hcs⟩: ∃ cs:Array Value,[v1]=[fnV g cs]/\aX E [] cs.toList:=by
  rcases hv1 with ⟨_,h⟩|⟨h,_⟩
  ·exact h
  ·rw[cF.mpr (Nat.lt_trans hg (by decide))] at h; cases h
 simp only[aX] at hcs;have akN:v0=E.φ i:=by have:=hlive (by rw[hi]; rfl); simp only[eI,and_true] at hu0; rw[hu0,this]
 have hcs':cs= #[]:=Array.eq_empty_of_size_eq_zero (by simpa using dC List.length hcs);have anK:v1= .func (.func g) #[] #[]:=by simp only[eI,and_true] at hu1; rw[hu1,hcs',OB hg]
 obtain⟨hob,GI,hsz⟩:=hk.obs i _ hi;have hrow:=hob.row hkm;rcases hrow with ⟨a,_,hl0⟩|⟨b,c,cur,hφ,hlc,hcm,hcell,hcsz,hrr⟩
 ·exact absurd hl0 hne
 simp only at hφ hlc hcell hcsz hrr;have abC:bD (k+1)=k:=rfl;rw[abC] at hcsz;have hrb:rowB (E.φ i)=some b:=by rw[hφ]; rfl
 obtain⟨hbS,hbF⟩:=hk.out i _ b hi hrb;have hblt:b<E.w.heap.size:=hob.lt hrb;subst akN anK;have hlen0:0<l.length:=fg.2 hne;have hcur:l.length*k<=cur.toList.length:=by
  have:=zK hrr; rw[abC] at this; exact this
 have hget: ∀ j t,l[j]? =some t->aN E t ((cur.toList.drop (j*k)).take k)/\((cur.toList.drop (j*k)).take k).length=k/\ ∀ v∈(cur.toList.drop (j*k)).take k,v.oneCell'=true:=by
  intro j t hj;obtain⟨hjl,rfl⟩:=bo.1 hj;have:=vF hrr hjl;rw[abC] at this;obtain⟨h1,h2,h3,h4⟩:=this;have hle:j*k+k<=cur.toList.length:=by
   have:(j+1)*k<=l.length*k:=cr _ hjl
   rw[de,gO] at this; omega
  have hlen':((cur.toList.drop (j*k)).take k).length=k:=by rw[bR,cA]; omega
  have e:l.getD j .any=l[j]:=by simp[hjl]
  rw[e] at h4;exact⟨h4,hlen',h3⟩
 let ahR:(j:Fin l.length)->El E l k:=fun j=>⟨(l[j],(cur.toList.drop (j*k)).take k),bh j.2,(hget j l[j] (bS j.2)).1,(hget j l[j] (bS j.2)).2.1,(hget j l[j] (bS j.2)).2.2⟩
 haveI:Inhabited (El E l k):=⟨ahR ⟨0,hlen0⟩⟩
 let d:Array (El E l k):=Array.ofFn ahR
 have hd:d.size=l.length:=by simp[d]
 let enc:El E l k->List Value:=fun p=>p.1.2
 let cg:El E l k->El E l k->Int:=fun p q=>cf p.1.1 q.1.1
 have hO:Sort.SWO (ltOf cg):= {
  irrefl:=fun x=>by simp only[ltOf,cg]; exact cB (anJ _ x.2.1)
  trans:=fun x y z h1 h2=>by
   simp only[ltOf,cg,aq] at h1 h2 ⊢;exact htr _ x.2.1 _ y.2.1 _ z.2.1 h1 h2
  ntrans:=fun x y z h1 h2=>by
   simp only[ltOf,cg,bA] at h1 h2 ⊢
   exact hnt _ x.2.1 _ y.2.1 _ z.2.1 h1 h2}
 have henc: ∀ x:El E l k,(enc x).length=k:=fun x=>x.2.2.2.1
 have hone: ∀ x:El E l k,∀ v∈enc x,v.oneCell'=true:=fun x=>x.2.2.2.2
 have hsw: ∀ (m:Nat) (os:Array Obj) (dk:Array (El E l k)) (q:Nat),q<E.w.heap.size->q≠b->(sortWorldK enc k E.w b 0 m dk os).heap[q]? =E.w.heap[q]? :=by
  intro m os dk q hq hqb;unfold sortWorldK;rw[Sort.heap_grow_old _ _ (by simpa [Sort.putRowK] using hq)];simp only[Sort.putRowK,Sort.putRow,Sort.mapBlock,Array.getElem?_modify];rw[bB (Ne.symm hqb)]; rfl
 have hsz': ∀ (m:Nat) (os:Array Obj) (dk:Array (El E l k)),E.w.heap.size<=(sortWorldK enc k E.w b 0 m dk os).heap.size:=by
  intro m os dk;unfold sortWorldK;rw[Sort.size_grow]; simp[Sort.putRowK]
 have hcmp:CmpLays P g #[] enc k cg b 0 d.size E.w:=by
  intro m os dk hdk x y;generalize hW:sortWorldK enc k E.w b 0 m dk os=W;have hWb: ∀ q,q<E.w.heap.size->q≠b->W.heap[q]? =E.w.heap[q]? :=fun q h1 h2=>by rw[<- hW]; exact hsw m os dk q h1 h2
  have hWs:E.w.heap.size<=W.heap.size:=by rw[<- hW]; exact hsz' m os dk
  let E1:Env:= {w:=W,S:=E.S,φ:=E.φ,κ:=E.κ,h:=no,y:=E.y}
  let F1:Fr P:= {s:=fun q=>q<W.heap.size/\ ¬ E.S q}
  have hnS: ∀ q,E.S q->q<E.w.heap.size/\q≠b:=fun q hq=>⟨hk.slt q hq,fun e=>hbS (e▸hq)⟩
  have hk1:qY F1 E1:=by
   refine⟨(fun i ob hi=>by cases hi),(fun i ob g hi=>by cases hi),(fun i j oi oj g _ hi=>by cases hi),fun q hq=>cU (hk.slt q hq) hWs,fun q hq=>hq.1,fun q hs hq=>hq.2 hs,fun q cs hq=>?_,hk.gl.2.of (E:=E) (fun q hq=>⟨cU (hk.flt q hq) hWs,fun hs=>hk.sf q hs hq⟩) (fun q hq=>hWb q (hk.flt q hq) fun e=>hbF (e▸hq)) rfl⟩;obtain⟨h1,ty',m',h2⟩:=hk.gl.1 q cs hq;have hqb:q≠b:=fun e=>hbF (e▸h1)
   refine⟨⟨cU (hk.flt q h1) hWs,fun hs=>hk.sf q hs h1⟩,ty',m',?_⟩;show W.heap[q]? =_;rw[hWb q (hk.flt q h1) hqb]; exact h2
  have hkeep:Keeps E E1 (fun _=>False):=⟨fun _ h=>h,fun q hq=>hWb q (hnS q hq).1 (hnS q hq).2,fun _ hf=>hf.elim,rfl⟩
  have hrep: ∀ z:El E l k,lZ E1 z.1.1 (.agg (enc z).toArray):=fun z=>by
   have hzf:z.1.1.free=true:=iO.1 hfree _ z.2.1;have hzk:=hkd _ z.2.1;exact .inl ⟨by rw[hzk]; exact Nat.succ_ne_zero _,(enc z).toArray,rfl,by simpa using iE _ _ hkeep (eY hzf) _ z.2.2.1⟩
  obtain⟨_,_,hcall⟩:=(hc x.1.1 x.2.1 y.1.1 y.2.1).call 0
  have:=hcall F1 (fun _=>False) E1 [.agg (enc x).toArray,.agg (enc y).toArray] hk1 rfl (by
   simp only[bQ]; exact⟨_,_,rfl,hrep x,_,_,rfl,hrep y,rfl⟩) (dh (hc x.1.1 x.2.1 y.1.1 y.2.1).free) (BA _) (fun h=>h)
  refine(this.mono ?_);rintro e w' ⟨v,t,E2,rfl,rfl,⟨rfl,_⟩,hv,_,hext,_⟩;have hv':v= .int .i64 (cg x y):=aQ.1 hv;refine⟨by rw[hv'],?_⟩;refine ahQ (fun q hq=>hext.w q ?_) hext.size hext.os hext.tape hext.output hext.dr;by_cases hs:E.S q
  ·exact .inl hs
  ·exact .inr ⟨hq,hs⟩
 have hdj: ∀ j,j<l.length->enc d[j]! =(cur.toList.drop (j*k)).take k:=by
  intro j hj;rw[gr d j (by rw[hd]; exact hj)];show(((Array.ofFn ahR)[j]'(by simpa using hj)).1.2)=_;rw[Array.getElem_ofFn]
 have hH:Sort.HoldsK enc k E.w b 0 d:=by
  intro t ht;rw[Sort.size_flatK,hd] at ht;refine⟨?_,Y3 hcell _⟩;have hq:t / k<l.length:=Nat.div_lt_of_lt_mul (by rw[gm]; exact ht);have hr:t % k<k:=Nat.mod_lt _ hk0;rw[Sort.get_flatK _ _ _ _ (by rw[hd]; exact ht),hdj _ hq,fS];have hdm:t / k*k+t % k=t:=by rw[gm]; exact Nat.div_add_mod t k
  have htc:t<cur.size:=by simp at hcur; omega
  have hle:t / k*k+k<=cur.toList.length:=by
   have:(t / k+1)*k<=l.length*k:=cr _ hq
   rw[de,gO] at this; omega
  have hlt:t % k<((cur.toList.drop (t / k*k)).take k).length:=by rw[bR,cA]; omega
  rw[gr ((cur.toList.drop (t / k*k)).take k) (t % k) hlt];simp only[World.cell?,hcell];rw[List.getElem_take,List.getElem_drop];simp[hdm,htc]
 have hcon:=AnyQ.slices_SortFunc L k aE zE enc henc hone cg hO g #[] b 0 (c+1) d E.w hgc hcmp hH hblt (by rw[hd]; exact hlen);have hargs:([E.φ i,Value.func (.func g) #[] #[]]:List Value).toArray= #[.slice (some ⟨b,0,none⟩) d.size (c+1),.func (.func g) #[] #[]]:=by
  rw[hφ,hd]
 rw[hargs];refine hcon.mono ?_;rintro e w' ⟨rfl,d',nn,os,hperm,hsort,hw⟩;have hd':d'.size=l.length:=by rw[hperm.1,hd]
 let l':List T:=d'.toList.map fun p=>p.1.1
 have hl':l'.length=l.length:=by simp[l',hd']
 have hdl:d.toList.map (fun p=>p.1.1)=l:=by
  apply eW
  ·simp[hd]
  ·intro j h1 h2;rw[ep];have hj:j<l.length:=h2;show((Array.ofFn ahR).toList[j]'(by simpa using hj)).1.1=l[j];rw[Array.getElem_toList,Array.getElem_ofFn]; rfl
 have hp:l'.Perm l:=by
  have:=hperm.2.2;have e1:(d'.extract 0 d.size)=d':=by rw[hd,<- hd']; simp
  have e2:(d.extract 0 d.size)=d:=by simp
  rw[e1,e2] at this;have:=this.map (fun p:El E l k=>p.1.1);rw[hdl] at this; exact this
 have hpw:l'.Pairwise (fun a b=> ¬ cf b a<0):=by
  rw[List.pairwise_iff_getElem];intro x y hx hy hxy;simp only[l',ep,Array.getElem_toList];have hx':x<d'.size:=by simpa [l'] using hx
  have hy':y<d'.size:=by simpa [l'] using hy
  have:=hsort x y (ao _) hxy (by rw[hd,<- hd']; exact hy');rw[gr d' x hx',gr d' y hy'] at this;simpa [ltOf,cg] using this
 let F':Array Value:=Sort.flatK enc k d'
 have hF':F'.size=l.length*k:=by simp[F',hd']
 let cs':Array Value:=Sort.putCells id 0 F' cur
 have Fp:cs'.size=cur.size:=by simp[cs',Sort.putCells]
 have hcell':w'.heap[b]? =some (.cells cs' ty (0,0)):=by
  rw[hw];unfold sortWorldK;rw[Sort.heap_grow_old _ _ (by simpa [Sort.putRowK] using hblt)];simp only[Sort.putRowK,Sort.putRow,Sort.mapBlock,Array.getElem?_modify];rw[bc trivial];show(E.w.heap[b]?).map _=_;rw[hcell]; rfl
 have hold': ∀ q,q<E.w.heap.size->q≠b->w'.heap[q]? =E.w.heap[q]? :=fun q h1 h2=>by rw[hw]; exact hsw nn os d' q h1 h2
 have hsize':E.w.heap.size<=w'.heap.size:=by rw[hw]; exact hsz' nn os d'
 let E':Env:= {w:=w',S:=E.S,φ:=E.φ,κ:=E.κ,h:=upd E.h i (some ⟨ty,k+1,l'⟩),y:=E.y}
 have hlf:T.bn l'=true:=by
  rw[iO] at hfree ⊢;exact fun t ht=>hfree t (hp.mem_iff.1 ht)
 have hext:Ext F E E':=by
  refine⟨fun _ h=>h,fun q hq=>hold' q ?_ ?_,hsize',by show w'.os=_; rw[hw]; rfl,by show w'.tape=_; rw[hw]; rfl,by show w'.output=_; rw[hw]; rfl,by show _<=w'.drawn; rw[hw]; exact gN _ _,rfl⟩
  ·rcases hq with hq|hq
   ·exact hk.slt q hq
   ·exact hk.flt q hq
  ·rintro rfl;rcases hq with hq|hq
   ·exact hbS hq
   ·exact hbF hq
 have hS:Same E E' M:=by
  intro j _ hj;refine⟨?_,rfl,rfl⟩;by_cases hji:j=i
  ·subst hji; rw[hi]; rfl
  ·simpa [E',upd,hji] using hj
 have hK:Keeps E E' M:=.of hext hS;have akO:aJ E' (k+1) l' cs'.toList:=by
  refine Y0 (by rw[abC,hl']; simp only[bu,Fp]; simpa using hcur) fun j t hj=>?_
  rw[abC];obtain⟨hjl,rfl⟩:=bo.1 hj;have hjx:j<d'.size:=by simpa [l'] using hjl
  have ht:l'[j]=(d'[j]'(hjx)).1.1:=by simp[l']
  have hcells:(cs'.toList.drop (j*k)).take k=enc d'[j]:=by
   have hle:j*k+k<=l.length*k:=by
    have:(j+1)*k<=l.length*k:=cr _ (by rw[<- hd']; exact hjx)
    rw[de,gO] at this; exact this
   have aof:l.length*k<=cur.size:=by simpa using hcur
   apply eW
   ·rw[bR,cA,henc]; simp only[bu,Fp]; omega
   ·intro x hx1 hx2;rw[henc] at hx2;rw[List.getElem_take,List.getElem_drop,Array.getElem_toList];have hin:j*k+x<F'.size:=by rw[hF']; omega
    show(Sort.putCells id 0 F' cur)[j*k+x]'_=_;simp only[Sort.putCells,Array.getElem_mapIdx,ao,iA,fS,Nat.sub_zero];rw[bc hin];show F'[j*k+x]! =_;show(Sort.flatK enc k d')[j*k+x]! =_;rw[Sort.get_flatK _ _ _ _ (by rw[hd']; omega)];have e1:(j*k+x) / k=j:=by rw[gm,Nat.mul_add_div hk0,Nat.div_eq_of_lt hx2,fo]
    have e2:(j*k+x) % k=x:=by rw[gm,Nat.mul_add_mod,Nat.mod_eq_of_lt hx2]
    rw[e1,e2,gr d' j hjx,gr _ x (by rw[henc]; exact hx2)]
  rw[hcells,ht];refine⟨hkd _ d'[j].2.1,hone _,?_⟩;exact iE _ _ hK (T.aW (fun _ h=>h.elim) _ (eY (iO.1 hfree _ d'[j].2.1))) _ d'[j].2.2.1
 have fF:uN E' ⟨ty,k+1,l'⟩ (E.φ i):=by
  refine .inl ⟨hkm,.inr ⟨b,c,cs',by rw[hφ]; simp only[hl'],by simp only[hl']; exact hlc,hcm,hcell',by rw[Fp]; exact hcsz,akO⟩⟩
 have hhm:pq M E.h:=hm;refine⟨.tuple #[],.dD [],E',rfl,rfl,⟨rfl,l',hp,hpw,rfl⟩,?_,?_,hext,hS,by simp[T.ids,T.aO],?_⟩
 ·rw[aB rfl]; simp only[aN]; exact⟨#[],rfl,rfl⟩
 ·have hsome: ∀ j oj,E'.h j=some oj-> ∃ QH,E.h j=some QH:=fun j oj hj=>by
   by_cases hji:j=i
   ·subst hji; exact⟨_,hi⟩
   ·exact⟨oj,by simpa [E',upd,hji] using hj⟩
  refine⟨fun j oj hj=>?_,fun j oj q hj hq=>?_,fun j j' oj QH q hjj hj hj' hq hq'=>?_,fun q hq=>cU (hk.slt q hq) hsize',fun q hq=>cU (hk.flt q hq) hsize',hk.sf,hext.gl hk⟩
  ·by_cases hji:j=i
   ·subst hji
    have:oj=⟨ty,k+1,l'⟩:=by simpa [E',upd] using hj.symm
    subst this;exact⟨fF,GI,hsz⟩
   ·have hj0:E.h j=some oj:=by simpa [E',upd,hji] using hj
    obtain⟨k1,k2,k3⟩:=hk.obs j oj hj0;refine⟨k1.keep hK (hhm j oj hj0).2 fun q hq=>hold' q (k1.lt hq) ?_,k2,k3⟩;rintro rfl;exact hk.sep j i oj _ q hji hj0 hi hq hrb
  ·obtain⟨QH,hj0⟩:=hsome j oj hj;exact hk.out j QH q hj0 hq
  ·obtain⟨o1,h1⟩:=hsome j oj hj;obtain⟨o2,h2⟩:=hsome j' QH hj';exact hk.sep j j' o1 o2 q hjj h1 h2 hq hq'
 ·intro j oj hj;by_cases hji:j=i
  ·subst hji
   have:oj=⟨ty,k+1,l'⟩:=by simpa [E',upd] using hj.symm
   subst this;exact⟨.inl (hhm j _ hi).1,T.aA (fun _ h=>h.elim) _ (dh hlf)⟩
  ·have hj0:E.h j=some oj:=by simpa [E',upd,hji] using hj
   exact⟨.inl (hhm j oj hj0).1,T.aA (fun _ h=>.inl h) _ (hhm j oj hj0).2⟩
end
section
variable {P:Program}
structure nU(ρ:Nat->Nat)(nx pn:Nat)(h h0:Hz):Prop where
 ob: ∀ c o,h0.get c=some o->c<nx/\(c<pn->ρ c=c)/\o.good nx=true/\ ∃ o',h.get (ρ c)=some o'/\o'.au.ty=o.au.ty/\o'.au.k=o.au.k/\dB (T.dF ρ o.au.l) o'.au.l
 inj: ∀ c c',(h0.get c).isSome=true->(h0.get c').isSome=true->ρ c=ρ c'->c=c'
theorem Ur{h:Hz}{i:Nat}{ob:Ob}(e:h.aj i=some ob): ∃ o,h.get i=some o/\o.au=ob:=by
 simp only[Hz.aj,be] at e;exact e
theorem nU.wk{ρ:Nat->Nat}{nx pn nx':Nat}{h h0:Hz}(H:nU ρ nx pn h h0)(hp:pn<=nx){fr fr':List T}(hf:T.aO (· <nx) fr)(hs: ∀ Z h,T.dY Z h (T.dF ρ fr) fr'):Wk ⟨fr,h0.aj,nx,pn⟩ ⟨fr',h.aj,nx',pn⟩:=by
 refine⟨_,.refl _,.inr ⟨fun i=> ¬ ∃ c o,h0.get c=some o/\ρ c=i,ρ,⟨hs _ _,fun i ob hi=>?_,fun i j hi hj e=>?_,hf,fun i ob hi=>?_,rfl,hp,fun i hi hs'=>?_⟩⟩⟩
 ·obtain⟨o,e,rfl⟩:=Ur hi;obtain⟨_,_,hg,o',e1,e2,e3,e4⟩:=H.ob i o e;exact⟨o'.au,aK e1,fun hz=>hz ⟨i,o,e,rfl⟩,e2,e3,e4 _ _,uS (OV.sS hg).2⟩
 ·exact H.inj i j (by simpa [Hz.aj] using hi) (by simpa [Hz.aj] using hj) e
 ·obtain⟨o,e,rfl⟩:=Ur hi;obtain⟨h1,_,hg,_⟩:=H.ob i o e;exact⟨h1,(OV.sS hg).1⟩
 ·obtain⟨ob,hob⟩:=am.1 hs';obtain⟨o,e,_⟩:=Ur hob;exact(H.ob i o e).2.1 hi
def aeR(h h2:Hz):Prop:=h2=h\/Frz h h2
theorem aeR.wk{s s1:AS}{fr:List T}{h h2:Hz}{nx pn:Nat}(f:aeR h h2)(w:Wk s ⟨fr,h2.aj,nx,pn⟩):Wk s ⟨fr,h.aj,nx,pn⟩:=by
 rcases f with rfl|f
 ·exact w
 ·exact f.wk (_s1:=s1) w
structure wI{ι:Type}(inv:ι->Prop)(μ:ι->Nat)(vars:ι->Fm)(objs:ι->Hz)(base:Fm)(nx pn:Nat)(i:ι)(m:Fm)(h:Hz):Prop where
 ok: ∃ h2 j ρ,aeR h h2/\inv j/\μ j<μ i/\mZ ρ m (vars j)/\mZ ρ m base/\nU ρ nx pn h2 (objs j)
theorem aG.fam{N pn nx0:Nat}(nx:Nat){b:aC}{Q:Qz}{m:Fm}{h:Hz}{ι:Type}(live:List Nat)(vars:ι->Fm)(objs:ι->Hz)(inv:ι->Prop)(μ:ι->Nat)(i0:ι)(ρ0:Nat->Nat)(h2:Hz)(hd:oQ N b=true)(hp:pn<=nx)(hv: ∀ i,ltF nx N (vars i)=true)(h0:inv i0)
  (he:mZ ρ0 m (vars i0)) (hf:aeR h h2) (ho:nU ρ0 nx pn h2 (objs i0))
  (H:Jz m live [] fun base=>mZ ρ0 m base/\ltF nx N base=true/\ ∀ i,inv i->az P N pn b (fun e m' h' n'=>match e with
   | .normal=>wI inv μ vars objs base nx pn i m' h'
   |e=>Q e m' h' n') (vars i++base) (objs i) nx):aG P N pn b Q m h nx0:=by
 obtain⟨base,⟨hbs,hb,H⟩,hbm⟩:=y9 H (fun i v q=>by cases q);refine⟨fun fr hl R=>?_⟩;have hall: ∀ i j v,Fm.get j (vars i++base)=some v->T.lt nx v.aI=true/\j<N:=fun i j v q=>by
  rcases get_append q with q|q
  ·exact xJ (hv i) q
  ·exact xJ hb q
 have wk: ∀ (i:ι) (ρ:Nat->Nat) (m':Fm) (h' h2':Hz) (s':AS),s'.fr.length=N->Rp m' s'.fr->s'.hp=h'.aj->s'.pin=pn->aeR h' h2'->mZ ρ m' (vars i)->mZ ρ m' base->nU ρ nx pn h2' (objs i) ->
   Wk ⟨uU N (vars i++base),(objs i).aj,nx,pn⟩ s':=by
  intro i ρ m' h' h2' s' a1 a2 a3 a4 af a5 a6 a7;obtain⟨fr',hp',nx',pn'⟩:=s';simp only at a1 a2 a3 a4;subst a3; subst a4;refine af.wk (s1:=⟨fr',h2'.aj,nx',pn'⟩) ?_;refine a7.wk hp (CW fun j v q=>(hall i j v q).1) fun Z h=>Gh a1 a2 fun j v q=>?_
  rcases get_append q with q|q
  ·exact vJ a5 q
  ·exact vJ a6 q
 refine Cb.rule (fun i=>⟨uU N (vars i++base),(objs i).aj,nx,pn⟩) inv μ i0 h0 (wk i0 ρ0 m h h2 _ hl R rfl rfl hf he hbs ho) ?_;intro i hi;have:=lQ (P:=P) (N:=N) (pn:=pn) (s:=⟨uU N (vars i++base),(objs i).aj,nx,pn⟩) hd yc (CV fun j v q=>(hall i j v q).2) rfl rfl (H i hi);refine kH ?_ this;rintro e s' ⟨m',h',a1,a2,a3,a4,a5⟩;cases e with
 |normal =>
  obtain⟨h2',j,ρ,bf,b1,b2,b3,b4,b5⟩:=a5.ok;exact⟨j,⟨b1,b2⟩,wk j ρ m' h' h2' s' a1 a2 a3 a4 bf b3 b4 b5⟩
 |exit j=>exact⟨m',h',a1,a2,a3,a4,a5⟩
 |ret=>exact⟨m',h',a1,a2,a3,a4,a5⟩
def kJ(B:Nat):List (Option OV)->Hz
 |[]=>[]
 |o::r=>(B,o)::kJ (B+1) r
theorem Fq{c:Nat}: ∀ {L:List (Option OV)} {B:Nat},(kJ B L).get c=bif Nat.ble B c then(L[c-B]?).join else none:=by
 intro L;induction L with
 |nil=>intro B; simp[kJ,Hz.get]
 |cons o r ih =>
  intro B;simp only[kJ,Hz.get];cases hb:Nat.beq B c with
  |true =>
   have:=fO hb; subst this;simp[Nat.ble_self_eq_true]
  |false =>
   have hne:=cG hb;simp only[ap];rw[ih];cases h1:Nat.ble B c with
   |false =>
    have:Nat.ble (B+1) c=false:=by
     cases h2:Nat.ble (B+1) c with
     |false=>rfl
     |true=>have:=ej h2; have:Nat.ble B c=true:=ff.mpr (by omega); rw[this] at h1; cases h1
    rw[this]; rfl
   |true =>
    have h3:=ej h1
    have:Nat.ble (B+1) c=true:=ff.mpr (by omega)
    rw[this];simp only[bE];have e:c-B=(c-(B+1))+1:=by omega
    rw[e]; rfl
theorem aao{L:List (Option OV)}{B j:Nat}:(kJ B L).get (B+j)=(L[j]?).join:=by
 rw[Fq,ff.mpr (gN B j),bE,Nat.add_sub_cancel_left]
theorem WC{L:List (Option OV)}{B c:Nat}(h:c<B\/B+L.length<=c):(kJ B L).get c=none:=by
 rw[Fq];cases hb:Nat.ble B c with
 |false=>rfl
 |true =>
  have:=ej hb;rcases h with h|h
  ·omega
  ·rw[bE,cv (by omega)]; rfl
def Gu(pre t h:Hz):Prop:=h=pre++t
theorem Gu.nil{t:Hz}:Gu [] t t:=rfl
theorem Gu.cons{x:Nat×Option OV}{pre t h:Hz}(e:Gu pre t h):Gu (x::pre) t (x::h):=by unfold Gu at *; rw[e]; rfl
def BD(B C:Nat):Hz->Bool
 |[]=>true
 |p::r=>(Nat.blt p.1 B||Nat.ble C p.1)&&BD B C r
theorem JB{B C c:Nat}(h1:B<=c)(h2:c<C){t:Hz}: ∀ {pre:Hz},BD B C pre=true->Hz.get c (pre++t)=t.get c:=by
 intro pre;induction pre with
 |nil=>intro _; rfl
 |cons p r ih =>
  obtain⟨k,o⟩:=p;intro q;simp only[BD,aD,cY] at q;simp only[cj,Hz.get]
  have:Nat.beq k c=false:=by
   cases hb:Nat.beq k c with
   |false=>rfl
   |true =>
    have:=fO hb;rcases q.1 with q|q
    ·have:=cF.mp q; omega
    ·have:=ej q; omega
  rw[this,ap]; exact ih q.2
theorem ahS{B C j:Nat}{L:List (Option OV)}{pre:Hz}{o:Option OV}(ho:BD B C pre=true)(hC:B+L.length<=C)(hj:j<L.length):(pre++kJ B (L.set j o)).aj=upd (pre++kJ B L).aj (B+j) (o.map OV.au):=by
 funext c;simp only[Hz.aj,upd];by_cases hc:c=B+j
 ·subst hc;rw[bc rfl,JB (gN _ _) (by omega) ho,aao,List.getElem?_set_self hj]; rfl
 ·rw[bB hc];by_cases h1:B<=c/\c<C
  ·rw[JB h1.1 h1.2 ho,JB h1.1 h1.2 ho,Fq,Fq,dy (by omega)]
  ·have e1:(kJ B L).get c=none:=WC (by omega);have e2:(kJ B (L.set j o)).get c=none:=WC (by rw[dv]; omega)
   have: ∀ (t t':Hz),t.get c=none->t'.get c=none->Hz.get c (pre++t)=Hz.get c (pre++t'):=by
    intro t t' h1 h2;induction pre with
    |nil=>exact h1.trans h2.symm
    |cons p r ih =>
     obtain⟨k,o⟩:=p;simp only[cj,Hz.get];simp only[BD,aD] at ho;rw[ih ho.2]
   rw[this _ _ e2 e1]
theorem JC{B C j:Nat}{L:List (Option OV)}{pre h:Hz}{o:OV}(e:Gu pre (kJ B L) h)(ho:BD B C pre=true)(hC:B+L.length<=C)(hj:L[j]? =some (some o)):h.get (B+j)=some o:=by
 have hl:j<L.length:=(bo.1 hj).1;rw[e,JB (gN _ _) (by omega) ho,aao,hj]; rfl
theorem SA.fam{B:Nat}(C:Nat){j ty k:Nat}{L:List (Option OV)}{r:Rw}{pre h:Hz}{K:Nat->Rw->Prop}(e:Gu pre (kJ B L) h)(ho:BD B C pre=true)(hC:B+L.length<=C)(hj:L[j]? =some (some (.row ty k r [])))(hK:K k r):SA h (B+j) K :=
 ⟨ty,k,r,JC e ho hC hj,hK⟩
theorem QM.fam{B:Nat}(C:Nat){j x ty k:Nat}{L:List (Option OV)}{r r':Rw}{v:V}{pre h:Hz}{K:Hz->Prop}(e:Gu pre (kJ B L) h)(ho:BD B C pre=true)(hC:B+L.length<=C)(hj:L[j]? =some (some (.row ty k r [])))(hs:r.set x v=some r')(hr:r.rng x)
  (hK:K (pre++kJ B (L.set j (some (.row ty k r' []))))):QM h (B+j) x k v K :=
 ⟨ty,r,r',_,JC e ho hC hj,hs,hr,by rw[e,ahS ho hC (bo.1 hj).1]; rfl,hK⟩
def qW(B:Nat)(g f:Nat->Nat)(c:Nat):Nat:=bif Nat.ble B c then g (c-B) else f c
theorem yP{B j:Nat}{g f:Nat->Nat}:qW B g f (B+j)=g j:=by
 unfold qW; rw[ff.mpr (gN B j),bE,Nat.add_sub_cancel_left]
theorem JD{B c:Nat}{g f:Nat->Nat}(h:c<B):qW B g f c=f c:=by
 unfold qW;cases hb:Nat.ble B c with
 |false=>rfl
 |true=>have:=ej hb; omega
theorem ahT{c:Nat}{o:OV}: ∀ {l:List (Nat×OV)},(rD l).get c=some o-> ∃ p∈l,p.1=c/\p.2=o:=by
 intro l;induction l with
 |nil=>intro h; cases h
 |cons p r ih =>
  obtain⟨k,u⟩:=p;intro h;have e:rD ((k,u)::r)=(k,some u)::rD r:=rfl;rw[e] at h;simp only[Hz.get] at h;cases hb:Nat.beq k c with
  |true=>rw[hb] at h; cases h; exact⟨_,List.mem_cons_self,fO hb,rfl⟩
  |false =>
   rw[hb] at h;obtain⟨p,h1,h2⟩:=ih h;exact⟨p,dE _ h1,h2⟩
def ltB(B:Nat):List (Nat×OV)->Bool
 |[]=>true
 |p::r=>Nat.blt p.1 B&&ltB B r
theorem ahU{B:Nat}: ∀ {l:List (Nat×OV)},ltB B l=true-> ∀ p∈l,p.1<B:=by
 intro l;induction l with
 |nil=>intro _ p hp; cases hp
 |cons a r ih =>
  intro q p hp;simp only[ltB,aD] at q;rcases bv.1 hp with rfl|hp
  ·exact cF.mp q.1
  ·exact ih q.2 p hp
theorem ahV{c:Nat}{a b:Hz}{o:OV}(h:Hz.get c (a++b)=some o):a.get c=some o\/b.get c=some o:=by
 induction a with
 |nil=>exact .inr h
 |cons p r ih =>
  obtain⟨k,u⟩:=p;simp only[cj,Hz.get] at h ⊢;cases hb:Nat.beq k c with
  |true=>rw[hb] at h; exact .inl h
  |false=>rw[hb] at h; exact ih h
theorem JE{ρ:Nat->Nat}{nx pn:Nat}{h:Hz}: ∀ {l:List (Nat×OV)} {s:List Nat},okR ρ nx pn h l s-> ∀ {c:Nat} {o:OV},(rD l).get c=some o ->
  c<nx/\(c<pn->gU l s c=c)/\o.good nx=true/\(∃ o',h.get (gU l s c)=some o'/\o'.au.ty=o.au.ty/\o'.au.k=o.au.k/\dB (T.dF ρ o.au.l) o'.au.l)/\gU l s c∈s:=by
 intro l;induction l with
 |nil=>intro s _ c o e; cases e
 |cons p r ih =>
  obtain⟨k,u⟩:=p;intro s q c o e;cases s with
  |nil=>exact q.elim
  |cons n s =>
   have e0:rD ((k,u)::r)=(k,some u)::rD r:=rfl;rw[e0] at e;simp only[Hz.get] at e;simp only[gU];cases hb:Nat.beq k c with
   |true =>
    rw[hb] at e; cases e;have:=fO hb; subst this;rw[gS,bE];obtain⟨⟨q1,q2,_,q4,q5⟩,_⟩:=q;exact⟨cF.mp q1,fun hc=>q2 (cF.mpr hc),q4,q5,List.mem_cons_self⟩
   |false =>
    rw[hb] at e;have hne:Nat.beq c k=false:=by
     cases h2:Nat.beq c k with
     |false=>rfl
     |true=>have:=fO h2; subst this; rw[gS] at hb; cases hb
    rw[hne,ap];obtain⟨a1,a2,a3,a4,a5⟩:=ih q.2 e;exact⟨a1,a2,a3,a4,dE _ a5⟩
theorem Lp{n:Nat}: ∀ {s:List Nat},rF n s=true->n ∉ s:=by
 intro s;induction s with
 |nil=>intro _ h; cases h
 |cons m s ih =>
  intro q h;simp only[rF,aD,bq] at q;rcases bv.1 h with rfl|h
  ·rw[gS] at q; cases q.1
  ·exact ih q.2 h
theorem ahW{ρ:Nat->Nat}{nx pn:Nat}{h:Hz}: ∀ {l:List (Nat×OV)} {s:List Nat},okR ρ nx pn h l s-> ∀ {c c':Nat} {o o':OV},(rD l).get c=some o->(rD l).get c'=some o'->gU l s c=gU l s c'->c=c':=by
 intro l;induction l with
 |nil=>intro s _ c c' o o' e; cases e
 |cons p r ih =>
  obtain⟨k,u⟩:=p;intro s q c c' o o' e e' hn;cases s with
  |nil=>exact q.elim
  |cons n s =>
   have e0:rD ((k,u)::r)=(k,some u)::rD r:=rfl;rw[e0] at e e';simp only[Hz.get] at e e';simp only[gU] at hn;have sw: ∀ a b:Nat,Nat.beq a b=Nat.beq b a:=fun a b=>by
    cases h1:Nat.beq a b with
    |true=>have:=fO h1; subst this; exact(gS _).symm
    |false =>
     cases h2:Nat.beq b a with
     |false=>rfl
     |true=>have:=fO h2; subst this; rw[gS] at h1; cases h1
   rw[sw c k,sw c' k] at hn;have hni:=Lp q.1.2.2.1;cases hb:Nat.beq k c<;>cases hb':Nat.beq k c'<;>rw[hb] at hn e<;>rw[hb'] at hn e'<;>simp only[bE,ap] at hn e e'
   ·exact ih q.2 e e' hn
   ·exact absurd (hn▸(JE q.2 e).2.2.2.2) hni
   ·exact absurd (hn▸(JE q.2 e').2.2.2.2) hni
   ·rw[<- fO hb,<- fO hb']
theorem nU.fam{nx pn B:Nat}{h:Hz}{g:Nat->Nat}{L:List (Option OV)}(lits:List (Nat×OV))(nw:List Nat)(h1:okR (qW B g (gU lits nw)) nx pn h lits nw)(hB:ltB B lits=true)(hp:pn<=B)(hx:B+L.length<=nx)
  (hL: ∀ j o,L[j]? =some (some o)->o.good nx=true/\o.zn=true/\(∃ o',h.get (g j)=some o'/\o'.au=o.au)/\rF (g j) nw=true) (hi: ∀ j j' o o',L[j]? =some (some o)->L[j']? =some (some o')->g j=g j'->j=j') :
  nU (qW B g (gU lits nw)) nx pn h (rD lits++kJ B L):=by
 have key: ∀ c o,Hz.get c (rD lits++kJ B L)=some o->(c<B/\(rD lits).get c=some o)\/ ∃ j,c=B+j/\L[j]? =some (some o):=by
  intro c o e;rcases ahV e with e|e
  ·obtain⟨p,hp,rfl,_⟩:=ahT e;exact .inl ⟨ahU hB p hp,e⟩
  ·rw[Fq] at e;cases hb:Nat.ble B c with
   |false=>rw[hb] at e; cases e
   |true =>
    rw[hb,bE,Option.join_eq_some_iff] at e;exact .inr ⟨c-B,by have:=ej hb; omega,e⟩
 refine⟨fun c o e0=>?_,fun c c' e0 e0' hn=>?_⟩
 ·rcases key c o e0 with ⟨hc,e⟩|⟨j,rfl,e⟩
  ·rw[JD hc];obtain⟨a1,a2,a3,a4,_⟩:=JE h1 e;exact⟨a1,a2,a3,a4⟩
  ·rw[yP];obtain⟨b1,b2,⟨o',b3,b4⟩,_⟩:=hL j o e;have hl:j<L.length:=(bo.1 e).1;exact⟨by omega,fun hc=>by omega,b1,o',b3,by rw[b4],by rw[b4],by rw[OV.fC b2,b4]; exact .refl _⟩
 ·obtain⟨o,e1⟩:=am.1 e0;obtain⟨o',e1'⟩:=am.1 e0';rcases key c o e1 with ⟨hc,e⟩|⟨j,rfl,e⟩<;>rcases key c' o' e1' with ⟨hc',e'⟩|⟨j',rfl,e'⟩
  ·rw[JD hc,JD hc'] at hn; exact ahW h1 e e' hn
  ·rw[JD hc,yP] at hn;exact absurd (hn▸(JE h1 e).2.2.2.2) (Lp (hL j' o' e').2.2.2)
  ·rw[yP,JD hc'] at hn;exact absurd (hn▸(JE h1 e').2.2.2.2) (Lp (hL j o e).2.2.2)
  ·rw[yP,yP] at hn; rw[hi j j' o o' e e' hn]
def Us(B C:Nat):List Nat->Bool
 |[]=>true
 |n::r=>(Nat.blt n B||Nat.ble C n)&&Us B C r
theorem aap{B C c:Nat}(h1:B<=c)(h2:c<C): ∀ {s:List Nat},Us B C s=true->rF c s=true:=by
 intro s;induction s with
 |nil=>intro _; rfl
 |cons n r ih =>
  intro q;simp only[Us,aD,cY] at q;simp only[rF,aD,bq];refine⟨?_,ih q.2⟩;cases hb:Nat.beq c n with
  |false=>rfl
  |true =>
   have:=fO hb;rcases q.1 with q|q
   ·have:=cF.mp q; omega
   ·have:=ej q; omega
theorem nU.JF{nx pn B:Nat}(C:Nat){h pre:Hz}{L:List (Option OV)}(lits:List (Nat×OV))(nw:List Nat)(e:Gu pre (kJ B L) h)(ho:BD B C pre=true)(hn:Us B C nw=true)(hB:ltB B lits=true)(hp:pn<=B)(hC:B+L.length<=C)(hx:C<=nx)
  (hg: ∀ o,some o∈L->o.good nx=true/\o.zn=true) (h1:okR (qW B (fun j=>B+j) (gU lits nw)) nx pn h lits nw):nU (qW B (fun j=>B+j) (gU lits nw)) nx pn h (rD lits++kJ B L):=by
 refine nU.fam lits nw h1 hB hp (by omega) (fun j o hj=>?_) fun j j' _ _ _ _ q=>by simpa using q
 have hl:j<L.length:=(bo.1 hj).1;obtain⟨g1,g2⟩:=hg o (cx hj);exact⟨g1,g2,⟨o,JC e ho hC hj,rfl⟩,aap (by omega) (by omega) hn⟩
theorem nU.aeS{nx pn B:Nat}(C i N:Nat){h pre:Hz}{L L0:List (Option OV)}(lits:List (Nat×OV))(nw:List Nat)(e:Gu pre (kJ B L0) h)(ho:BD B C pre=true)(hn:Us B C (N::nw)=true)(hN:rF N nw=true)(hB:ltB B lits=true)(hp:pn<=B)(hC:B+L.length<=C)(hC0:B+L0.length<=C)(hx:C<=nx)
  (hg: ∀ o,some o∈L->o.good nx=true/\o.zn=true) (hi: ∀ o,L[i]? =some (some o)-> ∃ o',h.get N=some o'/\o'.au=o.au) (hj: ∀ j o,j≠i->L[j]? =some (some o)->L0[j]? =some (some o))
  (h1:okR (qW B (fun j=>if j=i then N else B+j) (gU lits nw)) nx pn h lits nw):nU (qW B (fun j=>if j=i then N else B+j) (gU lits nw)) nx pn h (rD lits++kJ B L):=by
 simp only[Us,aD,cY] at hn;have hN':N<B\/C<=N:=hn.1.imp cF.mp ej;refine nU.fam lits nw h1 hB hp (by omega) (fun j o q=>?_) fun j j' o o' q q' w=>?_
 ·have hl:j<L.length:=(bo.1 q).1;obtain⟨g1,g2⟩:=hg o (cx q);refine⟨g1,g2,?_⟩;by_cases hji:j=i
  ·subst hji; rw[bc rfl]; exact⟨hi o q,hN⟩
  ·rw[bB hji]; exact⟨⟨o,JC e ho hC0 (hj j o hji q),rfl⟩,aap (by omega) (by omega) hn.2⟩
 ·have hl:j<L.length:=(bo.1 q).1;have hl':j'<L.length:=(bo.1 q').1;split at w<;>split at w<;>omega
def dP(B C:Nat)(t h:Hz):Prop:= ∃ pre,Gu pre t h/\BD B C pre=true
theorem dP.nil{B C:Nat}{t:Hz}:dP B C t t:=⟨[],.nil,rfl⟩
theorem dP.lo{B C k:Nat}{o:Option OV}{t h:Hz}(hk:Nat.blt k B=true)(q:dP B C t h):dP B C t ((k,o)::h):=by
 obtain⟨pre,e,q⟩:=q;exact⟨_,e.cons,by simp only[BD,hk,q,Bool.true_or,fI]⟩
theorem dP.hi{B C k:Nat}{o:Option OV}{t h:Hz}(hk:Nat.ble C k=true)(q:dP B C t h):dP B C t ((k,o)::h):=by
 obtain⟨pre,e,q⟩:=q;exact⟨_,e.cons,by simp only[BD,hk,q,Bool.or_true,fI]⟩
theorem wI.JF{ι:Type}{inv:ι->Prop}{μ:ι->Nat}{vars:ι->Fm}{objs:ι->Hz}{base:Fm}{nx pn B:Nat}{i:ι}{m:Fm}{h:Hz}(C:Nat)(j:ι)(L:List (Option OV))(lits:List (Nat×OV))(nw:List Nat)(eo:objs j=rD lits++kJ B L)(h1:inv j)(h2:μ j<μ i)
  (q:dP B C (kJ B L) h) (hn:Us B C nw=true) (hB:ltB B lits=true) (hp:pn<=B) (hC:B+L.length<=C) (hx:C<=nx) (hg: ∀ o,some o∈L->o.good nx=true/\o.zn=true)
  (h3:mZ (qW B (fun j=>B+j) (gU lits nw)) m (vars j)) (h4:mZ (qW B (fun j=>B+j) (gU lits nw)) m base) (h5:okR (qW B (fun j=>B+j) (gU lits nw)) nx pn h lits nw):wI inv μ vars objs base nx pn i m h:=by
 obtain⟨pre,e,ho⟩:=q;exact⟨h,j,_,.inl rfl,h1,h2,h3,h4,eo▸nU.JF C lits nw e ho hn hB hp hC hx hg h5⟩
theorem wI.aeS{ι:Type}{inv:ι->Prop}{μ:ι->Nat}{vars:ι->Fm}{objs:ι->Hz}{base:Fm}{nx pn B:Nat}{i:ι}{m:Fm}{h:Hz}(C:Nat)(j:ι)(a N:Nat)(L0 L:List (Option OV))(lits:List (Nat×OV))(nw:List Nat)(eo:objs j=rD lits++kJ B L)(h1:inv j)(h2:μ j<μ i)
  (q:dP B C (kJ B L0) h) (hn:Us B C (N::nw)=true) (hN:rF N nw=true) (hB:ltB B lits=true) (hp:pn<=B) (hC:B+L.length<=C) (hC0:B+L0.length<=C) (hx:C<=nx) (hg: ∀ o,some o∈L->o.good nx=true/\o.zn=true)
  (hi: ∀ o,L[a]? =some (some o)-> ∃ o',h.get N=some o'/\o'.au=o.au) (hj: ∀ j o,j≠a->L[j]? =some (some o)->L0[j]? =some (some o))
  (h3:mZ (qW B (fun j=>if j=a then N else B+j) (gU lits nw)) m (vars j)) (h4:mZ (qW B (fun j=>if j=a then N else B+j) (gU lits nw)) m base) (h5:okR (qW B (fun j=>if j=a then N else B+j) (gU lits nw)) nx pn h lits nw):wI inv μ vars objs base nx pn i m h:=by
 obtain⟨pre,e,ho⟩:=q;exact⟨h,j,_,.inl rfl,h1,h2,h3,h4,eo▸nU.aeS C a N lits nw e ho hn hN hB hp hC hC0 hx hg hi hj h5⟩
theorem nU.aaq{nx pn B:Nat}(C:Nat){h:Hz}{L:List (Option OV)}(lits:List (Nat×OV))(nw:List Nat)(q:dP B C (kJ B L) h)(hn:Us B C nw=true)(hB:ltB B lits=true)(hp:pn<=B)(hC:B+L.length<=C)(hx:C<=nx)
  (hg: ∀ o,some o∈L->o.good nx=true/\o.zn=true) (h1:okR (qW B (fun j=>B+j) (gU lits nw)) nx pn h lits nw):nU (qW B (fun j=>B+j) (gU lits nw)) nx pn h (rD lits++kJ B L):=by
 obtain⟨pre,e,ho⟩:=q;exact nU.JF C lits nw e ho hn hB hp hC hx hg h1
theorem dP.get{B C j:Nat}{L:List (Option OV)}{h:Hz}{o:OV}(q:dP B C (kJ B L) h)(hC:B+L.length<=C)(hj:L[j]? =some (some o)):h.get (B+j)=some o:=by
 obtain⟨pre,e,ho⟩:=q;exact JC e ho hC hj
structure kF(res v:V)(h:Hz):Prop where
 ok: ∃ h2,Frz h h2/\T.sub (fun _=>True) h2.aj res.aI v.aI
def akP(rs:List RV)(res:V):Qz
 | .exit _,_,_,_=>False
 |_,m,h,_=>match resV m h rs with
  |some v=>v.seq fun v=>kF res v h
  |none=>False
def Ut:List RV->Bool
 |[]=>true
 | .slot _::r=>Ut r
 |_=>false
theorem WE{m:Fm}{h h2:Hz}: ∀ {rs:List RV},Ut rs=true->Po m h rs=Po m h2 rs:=by
 intro rs;induction rs with
 |nil=>intro _; rfl
 |cons r rs ih =>
  intro q;cases r with
  |slot t=>simp only[Po,aak]; rw[ih q]
  |cell a k=>cases q
theorem Y4{m:Fm}{h h2:Hz}{rs:List RV}(q:Ut rs=true):resV m h rs=resV m h2 rs:=by
 unfold resV; rw[WE (h2:=h2) q]
theorem ak.ofF{f:FuncId}{ac:aC}{rs:List RV}{nt:Nat}{args:List V}{res:V}(B:Body P f ac rs nt)(hrs:Ut rs=true)(hn:args.length<=nt)(hf:V.bn args=true)(hr:res.free=true)(H:az P nt 0 ac (akP rs res) (tJ 0 args) [] 0):ak P f args res:=by
 obtain⟨fn,c,h1,h2,h3,h4,h5⟩:=B.ex;have Aj:res.aI.ids (fun _=>False):=eY (V.jS res hr);refine⟨V.eG args hf,fun _=>T.aW (fun _ h=>h.elim) _ Aj,(fun _ h=>by cases h),(fun _ h=>by cases h),fun n=>?_⟩;refine aP.yN (nx:=0) (nt:=nt) h1 h2 h3 h4 B.cl h5 ⟨_,_,rfl,rfl⟩ (T.aA (fun _ h=>h.elim) _ (dh (V.eG args hf))) (BA _) ?_;have:=lQ (P:=P) (N:=nt) (pn:=0) (s:=⟨V.aS args++List.replicate (nt-(V.aS args).length) T.un,no,0,0⟩) B.dst (by simp[cO]; omega) rX Un rfl H;refine kH ?_ this;rintro e s ⟨m,h,a1,a2,a3,a4,a5⟩;have key: ∀ {m h},Rp m s.fr->s.hp=Hz.aj h->(match resV m h rs with|some v=>v.seq fun v=>kF res v h|none=>False)-> ∃ s1,IJ s1 s/\Ret no n (fun t' h'=>t'=res.aI/\h'=jM no n none) rs s1:=by
  intro m h a2 a3 q;split at q
  ·rename_i v hv;rw[V.seq_eq] at q;obtain⟨hz,⟨Z,hfz⟩,hsub⟩:=q.ok;rw[Y4 (h2:=hz) hrs] at hv;obtain⟨b1,b2⟩:=DX (s:=⟨s.fr,hz.aj,s.nx,s.pin⟩) a2 rfl hv;refine⟨⟨s.fr,hz.aj,s.nx,s.pin⟩,.fz (Z:=Z) ?_ (.refl _),b1,fun _=>True,fun _=>0,res.aI,no,⟨rfl,rfl⟩,by rw[O7 _ Aj,b2]; exact hsub,(fun i ob hi=>by cases hi),(fun i j hi=>by cases hi),T.aW (fun _ h=>h.elim) _ Aj,BA _,(fun i hi=>by cases hi)⟩;refine⟨dR _,fun i ob hi=>?_,rfl,rfl⟩;obtain⟨o,e1,rfl⟩:=Ur hi;obtain⟨o',c1,c2,c3,c4,c5,c6,c7⟩:=JA hfz e1;rw[a3];exact⟨o'.au,aK c1,c2,c3,c4,c5,c6,c7⟩
  ·exact q.elim
 cases e with
 |exit j=>exact a5.elim
 |normal=>exact key a2 a3 a5
 |ret=>exact key a2 a3 a5
end
section
variable {P:Program}
theorem jr.frz{f:FuncId}{ts ts2:List T}{h h2:Hp}{n k:Nat}{post:T->Hp->Prop}(Z:Nat->Prop)(H:jr P f ts2 h2 n k post)(hs:T.dY Z h ts2 ts)
  (ho: ∀ i ob,h2 i=some ob-> ∃ ob',h i=some ob'/\ ¬ Z i/\ob'.ty=ob.ty/\ob'.k=ob.k/\T.dY Z h ob.l ob'.l/\ob.l.map T.kd=ob'.l.map T.kd/\ob.l.map iw=ob'.l.map iw):jr P f ts h n k post:=by
 obtain⟨h1,hcl,hcall⟩:=H;refine⟨h1,hcl,fun F M E vs hk he hrep hid hm hn=>?_⟩;subst he;have Ue: ∀ i ob,h2 i=some ob-> ∃ ob',E.h (id i)=some ob'/\ ¬ Z (id i)/\Ov Z E.h id ob ob':=fun i ob hi=>by
  obtain⟨ob',a1,a2,a3,a4,a5,a6,a7⟩:=ho i ob hi;refine⟨ob',a1,a2,a3,a4,by rw[CJ]; exact a5,?_⟩;have hkd:=(hk.obs i ob' a1).1.kinds;rw[<- a4];rcases hkd with ⟨g1,g2⟩|⟨g1,g2⟩
  ·exact .inl ⟨g1,O4 a7 g2⟩
  ·exact .inr ⟨g1,La a6 g2⟩
 let E2:Env:=(E.shut Z).ren id h2
 have hk2:qY F E2:=hk.ren Ue fun i j _ _ e=>e
 have hl: ∀ i,(h2 i).isSome=true->((E.shut Z).h (id i)).isSome=true:=fun i hi=>by
  obtain⟨ob,hob⟩:=am.1 hi;obtain⟨ob',b1,b2,_⟩:=Ue i ob hob;rw[yM b2,b1]; rfl
 have aeQ:bg E2 ts2 vs:=by
  have e:T.dF id ts2=ts2:=CJ ts2;have:=sO hk _ _ hs _ hrep;rw[<- e] at this;exact xw hl _ _ this
 refine(hcall F M E2 vs hk2 rfl aeQ (uh _ _ hs hid) (fun i ob hi=>?_) hn).mono ?_
 ·obtain⟨ob',a1,_,_,_,a5,_⟩:=ho i ob hi;exact⟨(hm i ob' a1).1,uh _ _ a5 (hm i ob' a1).2⟩
 ·rintro e w' ⟨v,t,E',rfl,rfl,r3,r4,r5,r6,r7,r8,r9⟩;refine⟨v,t,E',rfl,rfl,r3,r4,r5,⟨fun g hg=>r6.s g (.inl hg),fun g hg=>r6.w g (hg.imp .inl id),r6.size,r6.os,r6.tape,r6.output,r6.dr,r6.y⟩,fun i hi hsome=>?_,r8,r9⟩;obtain⟨q1,q2,q3⟩:=r7 i hi hsome;obtain⟨ob,hob⟩:=am.1 q1;obtain⟨ob',a1,_⟩:=ho i ob hob;exact⟨by rw[a1]; rfl,q2,q3⟩
abbrev vU(B k:Nat):List V:=(List.range k).map fun j=>V.inn (B+j)
abbrev Fv(ty B k:Nat):OV:=.gen ty 0 (vU B k)
theorem aeT{B k j:Nat}(h:j<k):(vU B k)[j]? =some (.inn (B+j)):=by
 rw[cM,gF h]; rfl
theorem rY{B k:Nat}:(vU B k).length=k:=by simp
theorem AtZ.inn{B k j:Nat}{K:V->Prop}(h:j<k)(hK:K (.inn (B+j))):AtZ (vU B k) j K:=⟨_,aeT h,hK⟩
theorem pJ{B k:Nat}:V.aS (vU B k)=(List.range k).map fun j=>T.own (B+j):=by
 rw[jG,cy]; rfl
theorem ahX{B:Nat}: ∀ {k:Nat},AB 0 (vU B k)=true:=by
 have: ∀ l:List V,(∀ v∈l,v.kd=some 0)->AB 0 l=true:=by
  intro l;induction l with
  |nil=>intro _; rfl
  |cons v r ih =>
   intro h;have h1:=h v (by simp);have h2:=ih fun u hu=>h u (dE _ hu)
   simp only[AB,h1,h2];simp
 intro k;refine this _ fun v hv=>?_
 obtain⟨j,_,rfl⟩:=ax.1 hv;rfl
theorem dS{ty B k nx:Nat}(h:B+k<=nx):(Fv ty B k).good nx=true:=by
 have hl: ∀ l:List T,(∀ t∈l,T.lt nx t=true)->T.Em nx l=true:=by
  intro l;induction l with
  |nil=>intro _; rfl
  |cons t ts ih=>intro q; simp only[T.Em,q t (by simp),ih fun u hu=>q u (dE _ hu),fI]
 simp only[OV.good,ahX,aD,cV];refine⟨hl _ fun t ht=>?_,rfl⟩;rw[pJ,ax] at ht;obtain⟨j,hj,rfl⟩:=ht;have:=cD.1 hj;exact cF.mpr (by omega)
theorem Y5{B j:Nat}{L:List (Option OV)}{h:Hz}(hj:j<L.length):Hz.get (B+j) (kJ B L++h)=(L[j]?).join:=by
 induction L generalizing B j with
 |nil=>cases hj
 |cons o r ih =>
  simp only[kJ,cj,Hz.get];cases j with
  |zero=>rw[fo,gS,bE]; cases o<;>rfl
  |succ j =>
   have hne:Nat.beq B (B+(j+1))=false:=by
    cases e:Nat.beq B (B+(j+1)) with
    |false=>rfl
    |true=>have:=fO e; omega
   rw[hne,ap];have:=@ih (B+1) j (Nat.lt_of_succ_lt_succ hj);rw[show B+(j+1)=B+1+j by omega,this]; rfl
theorem Uu{B c:Nat}{L:List (Option OV)}{h:Hz}(hc:c<B\/B+L.length<=c):Hz.get c (kJ B L++h)=h.get c:=by
 induction L generalizing B with
 |nil=>rfl
 |cons o r ih =>
  simp only[kJ,cj,Hz.get];rw[bX] at hc;have hne:Nat.beq B c=false:=by
   cases e:Nat.beq B c with
   |false=>rfl
   |true=>have:=fO e; omega
  rw[hne,ap];exact ih (by omega)
theorem Lr(ρ:Nat->Nat): ∀ l:List T,T.dF ρ l=l.map (T.ren ρ):=by
 intro l;induction l with
 |nil=>rfl
 |cons a l ih=>simp only[T.dF,bl,ih]
theorem nC{ty B k:Nat}{f:Nat->Nat}:dB (T.dF (qW B (fun j=>B+j) f) (Fv ty B k).au.l) (Fv ty B k).au.l:=by
 refine(fun q=>by rw[q]; exact .refl _: ∀ {a b:List T},a=b->dB a b) ?_;show T.dF _ (V.aS (vU B k))=V.aS (vU B k);rw[pJ,Lr,cy];refine ce fun j _=>?_
 show T.own (qW B (fun j=>B+j) f (B+j))=T.own (B+j);rw[yP]
theorem Ls{ty B k N:Nat}{f:Nat->Nat}:dB (T.dF (qW B (fun j=>if j=k then N else B+j) f) (Fv ty B (k+1)).au.l) (OV.gen ty 0 (vU B k++[.own N])).au.l:=by
 refine(fun q=>by rw[q]; exact .refl _: ∀ {a b:List T},a=b->dB a b) ?_;show T.dF _ (V.aS (vU B (k+1)))=V.aS (vU B k++[.own N]);rw[pJ,Lr,cy,jG,cP,<- jG,pJ,cp,cP]
 congr 1
 ·refine ce fun j hj=>?_
  show T.own (qW B _ f (B+j))=T.own (B+j);rw[yP,bB (by have:=cD.1 hj; omega)]
 ·show [T.own (qW B _ f (B+k))]=[T.own N];rw[yP,bc rfl]
abbrev zY(ty:Nat)(O:List OV):Hp:=Hz.aj ((0,some (Fv ty 1 O.length))::(kJ 1 (O.map some)++[]))
theorem Pv{ty:Nat}{O:List OV}:zY ty O 0=some (Fv ty 1 O.length).au:=rfl
theorem WG{ty j:Nat}{O:List OV}:zY ty O (1+j)=(O[j]?).map OV.au:=by
 show Hz.aj (_::_) (1+j)=_;rw[ny,bB (by omega)];simp only[Hz.aj];rcases eR j O.length with h|h
 ·rw[Y5 (by simpa using h),cM,bS h]; rfl
 ·rw[Uu (.inr (by simp; omega)),cv h]; rfl
theorem CY{ty i:Nat}{O:List OV}{ob:Ob}(h:zY ty O i=some ob):(i=0/\ob=(Fv ty 1 O.length).au)\/ ∃ j u,i=1+j/\O[j]? =some u/\ob=u.au:=by
 cases i with
 |zero=>left; exact⟨rfl,by rw[Pv] at h; cases h; rfl⟩
 |succ j =>
  right;rw[show j+1=1+j by omega,WG,be] at h;obtain⟨u,h1,h2⟩:=h;exact⟨j,u,by omega,h1,h2.symm⟩
theorem WH{ty:Nat}{O:List OV}(hO: ∀ o∈O,o.zn=true){i:Nat}{ob:Ob}(h:zY ty O i=some ob):i<=O.length/\T.aO (fun i=>i<=O.length) ob.l:=by
 rcases CY h with ⟨rfl,rfl⟩|⟨j,u,rfl,hj,rfl⟩
 ·refine⟨ao _,?_⟩;show T.aO _ (V.aS (vU 1 O.length));rw[pJ,cu];intro t ht;obtain⟨j,hj,rfl⟩:=ax.1 ht;have:=cD.1 hj;show 1+j<=O.length;omega
 ·have hl:=(bo.1 hj).1;exact⟨by omega,T.aA (fun _ h=>h.elim) _ (OV.xK (hO u (cx hj)))⟩
theorem ahY{ty:Nat}{O:List OV}(hg: ∀ o∈O,o.good 0=true){i:Nat}{ob:Ob}(h:zY ty O i=some ob):(ob.k=gK/\ob.l.all iw=true)\/(ob.k≠gK/\ ∀ t∈ob.l,t.kd=ob.k):=by
 rcases CY h with ⟨rfl,rfl⟩|⟨j,u,rfl,hj,rfl⟩
 ·exact uS (OV.sS (dS (nx:=1+O.length) (ba _))).2
 ·exact uS (OV.sS (hg u (cx hj))).2
structure Uw(tv:Nat->V)(ty:Nat)(O:List OV)(v:V)(h:Hz):Prop where
 ok: ∃ (a:Nat) (g:Nat->Nat) (o:OV),v=tv a/\h.get a=some o/\o.au.ty=ty/\o.au.k=0/\o.au.l=(List.range O.length).map (fun j=>T.own (g j)) /\
  (∀ j,j<O.length->g j≠a/\ ∃ o' u,h.get (g j)=some o'/\O[j]? =some u/\o'.au=u.au)/\ ∀ i j,i<O.length->j<O.length->g i=g j->i=j
def ajy(tv:Nat->V)(ty:Nat)(O:List OV)(rs:List RV):Qz
 | .exit _,_,_,_=>False
 |_,m,h,_=>match resV m h rs with
  |some v=>v.seq fun v=>Uw tv ty O v h
  |none=>False
structure ab7(tv:Nat->V):Prop where
 ren: ∀ ρ a,(tv a).aI.ren ρ=(tv (ρ a)).aI
 ids: ∀ a,(tv a).aI.ids (fun i=>i=a)
@[reducible] def Fz(P:Program)(f:FuncId)(args:List V)(tv:Nat->V)(ty:Nat)(O:List OV):Prop:=jr P f (V.aS args) (Hz.aj []) 0 O.length fun t hp=>t=(tv 0).aI/\hp=zY ty O
theorem Fz.of'{f:FuncId}{ac:aC}{rs:List RV}{nt:Nat}{args:List V}{tv:Nat->V}{ty:Nat}{O:List OV}{Q:Qz}(B:Body P f ac rs nt)(hn:args.length<=nt)(ha:V.bn args=true)(ht:ab7 tv)(hO: ∀ o∈O,o.zn=true/\o.good 0=true)
  (hQ: ∀ e m h n,Q e m h n->ajy tv ty O rs e m h n) (H:az P nt 0 ac Q (tJ 0 args) [] 0):Fz P f args tv ty O:=by
 obtain⟨fn,c,h1,h2,h3,h4,h5⟩:=B.ex;refine jr.yN (nx:=0) h1 h2 h3 h4 B.cl h5 ⟨_,_,rfl,rfl⟩ (T.aA (fun _ h=>h.elim) _ (dh (V.eG _ ha))) (fun i ob hi=>by cases hi) ?_;have:=lQ (P:=P) (N:=nt) (pn:=0) (s:=⟨V.aS args++List.replicate (nt-(V.aS args).length) T.un,(Hz.aj []),0,0⟩) B.dst (by simp[cO]; omega) rX rfl rfl H;refine kH ?_ this;rintro e s ⟨m,h,a1,a2,a3,a4,a5⟩;replace a5:=hQ _ _ _ _ a5;have key: ∀ {m h},Rp m s.fr->s.hp=Hz.aj h->(match resV m h rs with|some v=>v.seq fun v=>Uw tv ty O v h|none=>False)-> ∃ s1,IJ s1 s/\V8 (Hz.aj []) (fun i=>0<=i/\i<=0+O.length) (fun t hp=>t=(tv 0).aI/\hp=zY ty O) rs s1:=by
  intro m h a2 a3 q;split at q
  ·rename_i v hv;rw[V.seq_eq] at q;obtain⟨b1,b2⟩:=DX a2 a3 hv;obtain⟨a,g,o,rfl,q1,q2,q3,q4,q5,q6⟩:=q.ok;obtain⟨ρ,r0,rS⟩: ∃ ρ:Nat->Nat,ρ 0=a/\ ∀ j,ρ (1+j)=g j:=⟨fun i=>if i=0 then a else g (i-1),rfl,fun j=>by show(if 1+j=0 then a else g (1+j-1))=g j; rw[bB (by omega),Nat.add_sub_cancel_left]⟩
   refine⟨s,.refl _,b1,fun _=>False,ρ,(tv 0).aI,zY ty O,⟨rfl,rfl⟩,?_,fun i ob hi=>?_,fun i j hi hj e=>?_,?_,fun i ob hi=>?_,fun i hi=>by cases hi⟩
   ·rw[b2,ht.ren,r0]; exact aH _
   ·rw[a3];have hk:=ahY (fun o ho=>(hO o ho).2) hi;rcases CY hi with ⟨rfl,rfl⟩|⟨j,u,rfl,hj,rfl⟩
    ·refine⟨o.au,by rw[r0]; exact aK q1,fun h=>h,q2,q3,?_,hk⟩
     have:T.dF ρ (Fv ty 1 O.length).au.l=o.au.l:=by
      show T.dF _ (V.aS (vU 1 O.length))=_;rw[pJ,q4];have e: ∀ (ρ:Nat->Nat) (l:List T),T.dF ρ l=l.map (T.ren ρ):=by
       intro ρ l;induction l with
       |nil=>rfl
       |cons a l ih=>simp only[T.dF,bl,ih]
      rw[e,cy];refine ce fun j _=>?_
      show T.own _=T.own _;rw[rS]
     rw[this]; exact dR _
    ·have hl:=(bo.1 hj).1;obtain⟨_,o',u',r1,r2,r3⟩:=q5 j hl;rw[hj] at r2; cases r2;refine⟨o'.au,by rw[rS]; exact aK r1,fun h=>h,by rw[r3],by rw[r3],?_,hk⟩;rw[OV.fC (hO u (cx hj)).1,r3]; exact dR _
   ·obtain⟨oi,hi⟩:=am.1 hi;obtain⟨oj,hj⟩:=am.1 hj;rcases CY hi with ⟨rfl,_⟩|⟨x,u,rfl,hx,_⟩<;>rcases CY hj with ⟨rfl,_⟩|⟨y,w,rfl,hy,_⟩
    ·rfl
    ·rw[r0,rS] at e;exact absurd e.symm (q5 y (bo.1 hy).1).1
    ·rw[r0,rS] at e;exact absurd e (q5 x (bo.1 hx).1).1
    ·rw[rS,rS] at e;rw[q6 x y (bo.1 hx).1 (bo.1 hy).1 e]
   ·exact T.aW (fun i hi=>.inr (by omega)) _ (ht.ids 0)
   ·obtain⟨c1,c2⟩:=WH (fun o ho=>(hO o ho).1) hi;exact⟨.inr (by omega),T.aA (fun i hi=>.inr (by omega)) _ c2⟩
  ·exact q.elim
 cases e with
 |exit j=>exact a5.elim
 |normal=>exact key a2 a3 a5
 |ret=>exact key a2 a3 a5
theorem Fz.of{f:FuncId}{ac:aC}{rs:List RV}{nt:Nat}{args:List V}{tv:Nat->V}{ty:Nat}{O:List OV}(B:Body P f ac rs nt)(hn:args.length<=nt)(ha:V.bn args=true)(ht:ab7 tv)(hO: ∀ o∈O,o.zn=true/\o.good 0=true)
  (H:az P nt 0 ac (ajy tv ty O rs) (tJ 0 args) [] 0):Fz P f args tv ty O:=Fz.of' B hn ha ht hO (fun _ _ _ _ q=>q) H
theorem ak.of'{f:FuncId}{ac:aC}{rs:List RV}{nt:Nat}{args:List V}{res:V}{Q:Qz}(B:Body P f ac rs nt)(hn:args.length<=nt)(hf:V.bn args=true)(hr:res.free=true)(hQ: ∀ e m h n,Q e m h n->ajw rs res e m h n)(H:az P nt 0 ac Q (tJ 0 args) [] 0):ak P f args res:=by
 obtain⟨fn,c,h1,h2,h3,h4,h5⟩:=B.ex;have Aj:res.aI.ids (fun _=>False):=eY (V.jS res hr);refine BU.yN (o:=none) h1 h2 h3 h4 B.cl h5 (V.eG args hf) (fun _ _=>O7 _ Aj) (fun _=>T.aW (fun _ h=>h.elim) _ Aj) (fun _ h=>by cases h) ?_;have:=lQ (P:=P) (N:=nt) (pn:=0) (s:=⟨V.aS args++List.replicate (nt-(V.aS args).length) T.un,no,0,0⟩) B.dst (by simp[cO]; omega) rX Un rfl H;refine kH ?_ this;rintro e s ⟨m,h,a1,a2,a3,a4,a5⟩;replace a5:=hQ _ _ _ _ a5;have key: ∀ {m h},Rp m s.fr->s.hp=Hz.aj h->(match resV m h rs with|some v=>v.seq fun v=>ay res v h|none=>False)->GX s rs/\T.sub (fun _=>True) s.hp res.aI (resT s rs):=by
  intro m h a2 a3 q;split at q
  ·rename_i v hv;rw[V.seq_eq] at q;obtain⟨b1,b2⟩:=DX a2 a3 hv;exact⟨b1,by rw[b2,a3]; exact q.ok⟩
  ·exact q.elim
 cases e with
 |exit j=>exact a5.elim
 |normal=>exact key a2 a3 a5
 |ret=>exact key a2 a3 a5
structure aeU(c:Bool)(tv:Nat->V)(ty:Nat)(O:List OV)(u v:V)(h:Hz):Prop where
 yes:c=true->Uw tv ty O v h
 no:c=false->ay u v h
def akQ(c:Bool)(tv:Nat->V)(ty:Nat)(O:List OV)(u:V)(rs:List RV):Qz
 | .exit _,_,_,_=>False
 |_,m,h,_=>match resV m h rs with
  |some v=>v.seq fun v=>aeU c tv ty O u v h
  |none=>False
theorem akR.of{f:FuncId}{ac:aC}{rs:List RV}{nt:Nat}{args:List V}(c:Bool){tv:Nat->V}{ty:Nat}{O:List OV}{u:V}(B:Body P f ac rs nt)(hn:args.length<=nt)(ha:V.bn args=true)(ht:ab7 tv)(hO: ∀ o∈O,o.zn=true/\o.good 0=true)(hu:u.free=true)
  (H:az P nt 0 ac (akQ c tv ty O u rs) (tJ 0 args) [] 0):(c=true->Fz P f args tv ty O)/\(c=false->ak P f args u):=by
 have key: ∀ (X:V->Hz->Prop) (m:Fm) (h:Hz),(∀ v,aeU c tv ty O u v h->X v h)->(match resV m h rs with|some v=>v.seq fun v=>aeU c tv ty O u v h|none=>False)->match resV m h rs with|some v=>v.seq fun v=>X v h|none=>False:=by
  intro X m h hX q;split at q
  ·rw[V.seq_eq] at q ⊢; exact hX _ q
  ·exact q.elim
 refine⟨fun hc=>Fz.of' B hn ha ht hO (fun e m h n q=>?_) H,fun hc=>ak.of' B hn ha hu (fun e m h n q=>?_) H⟩
 ·cases e with
  |exit j=>exact q
  |normal=>exact key (Uw tv ty O) m h (fun v w=>w.yes hc) q
  |ret=>exact key (Uw tv ty O) m h (fun v w=>w.yes hc) q
 ·cases e with
  |exit j=>exact q
  |normal=>exact key (ay u) m h (fun v w=>w.no hc) q
  |ret=>exact key (ay u) m h (fun v w=>w.no hc) q
theorem ah.nest{f:FuncId}{args args':List V}{h h2:Hz}{n ty:Nat}{tv:Nat->V}{O:List OV}{K:V->Hz->Prop}{KW:Nat->V->Hz->Prop}(Z:Nat->Prop)(F:QO Z h h2)(H:Fz P f args' tv ty O)(hs:T.dY Z h.aj (V.aS args') (V.aS args))(ha:V.bn args'=true)
  (ht:ab7 tv) (hO: ∀ o∈O,o.zn=true) (hK:KW O.length (tv n) ((n,some (Fv ty (n+1) O.length))::(kJ (n+1) (O.map some)++h2))):ah P false none f args h n K KW:=by
 have hz:T.dF (fun a=>a) (V.aS args')=V.aS args':=xI _ (dh (V.eG _ ha));have hp:=jr.place H (ρ:=fun a=>a) (h:=h2.aj) (n:=n) (T.aA (fun _ h=>h.elim) _ (dh (V.eG _ ha))) (fun i ob hi=>by cases hi) (fun i hi=>by cases hi) (fun i ob hi=>by cases hi) (fun i j hi=>by cases hi);rw[hz] at hp;refine⟨.inr (.inl ⟨rfl,rfl,O.length,jr.frz Z (hp.mono ?_) hs fun i ob hi=>?_⟩)⟩
 ·rintro t' h' ⟨t,h1,⟨rfl,rfl⟩,rfl,rfl⟩;have nk: ∀ a,a<=O.length->CO (fun a=>a) 0 O.length n a=n+a:=fun a ha=>by
   rw[show CO (fun a=>a) 0 O.length n a=n+(a-0) from bc (by omega)]; rfl
  refine⟨tv n,_,?_,?_,hK⟩
  ·rw[ht.ren,nk 0 (ao _)]; rfl
  ·have inj: ∀ a b,(((Hz.aj []) a).isSome=true\/(0<=a/\a<=0+O.length))->(((Hz.aj []) b).isSome=true\/(0<=b/\b<=0+O.length))->CO (fun a=>a) 0 O.length n a=CO (fun a=>a) 0 O.length n b->a=b:=by
    intro a b ha hb e;rcases ha with ha|ha
    ·cases ha
    rcases hb with hb|hb
    ·cases hb
    rw[nk a (by omega),nk b (by omega)] at e; omega
   have at': ∀ i,i<=O.length->Z7 (fun a=>a) 0 O.length n (Hz.aj []) h2.aj (zY ty O) (n+i)=(zY ty O i).map (Ob.ren (CO (fun a=>a) 0 O.length n)):=fun i hi=>by
    have:=xA (h:=h2.aj) (h1:=zY ty O) inj (i:=i) (.inr (by omega));rw[nk i hi] at this;exact this
   funext a;rw[ny];by_cases c0:a=n
   ·subst c0;rw[bc rfl];refine Eq.trans (at' 0 (ao _)) ?_;rw[Pv,bp,bp];refine dC some ?_;unfold Ob.ren;rw[xC (M:=fun i=>i<=O.length) (fun b hb=>nk b hb) _ (WH hO (ty:=ty) (i:=0) Pv).2];show Ob.mk ty 0 (T.dF _ (V.aS (vU 1 O.length)))=Ob.mk ty 0 (V.aS (vU (a+1) O.length))
    congr 1
    rw[pJ,pJ];have e: ∀ (ρ:Nat->Nat) (l:List T),T.dF ρ l=l.map (T.ren ρ):=by
     intro ρ l;induction l with
     |nil=>rfl
     |cons a l ih=>simp only[T.dF,bl,ih]
    rw[e,cy];refine ce fun j _=>?_
    show T.own (a+(1+j))=T.own (a+1+j);rw[gt]
   ·rw[bB c0];by_cases c1:n<a/\a<=n+O.length
    ·obtain⟨j,rfl⟩: ∃ j,a=n+(1+j):=⟨a-n-1,by omega⟩
     have hj:j<O.length:=by omega
     refine Eq.trans (at' (1+j) (by omega)) ?_;rw[WG,bS hj];simp only[Hz.aj];rw[<- gt,Y5 (by simpa using hj),cM,bS hj];show some _=some _;rw[ng (hO _ (bh hj))]
    ·refine Eq.trans (AV ?_) ?_
     ·rintro⟨b,hb,e⟩;rcases hb with hb|hb
      ·cases hb
      rw[nk b (by omega)] at e; omega
     ·simp only[Hz.aj];rw[Uu (by rw[bL]; omega)]
 ·simp only[Hz.aj,be] at hi;obtain⟨o,e1,rfl⟩:=hi;obtain⟨o',a1,a2,a3,a4,a5,a6,a7⟩:=JA F e1;exact⟨o'.au,aK a1,a2,a3,a4,a5,a6,a7⟩
theorem ah.shut{f:FuncId}{args args':List V}{res:V}{h h2:Hz}{n:Nat}{K:V->Hz->Prop}{KW:Nat->V->Hz->Prop}(Z:Nat->Prop)(F:QO Z h h2)(S:ak P f args' res)(hs:T.dY Z h.aj (V.aS args') (V.aS args))(hK:K res h2):ah P false none f args h n K KW :=
 ⟨.inl (aP.frz Z (BU.use S (dR _) ⟨res,h2,rfl,rfl,(fun e=>by cases e),hK⟩) hs fun i ob hi=>by
  simp only[be] at hi;obtain⟨o,e1,rfl⟩:=hi;obtain⟨o',a1,a2,a3,a4,a5,a6,a7⟩:=JA F e1
  exact⟨o'.au,aK a1,a2,a3,a4,a5,a6,a7⟩)⟩
noncomputable def aeV(Z:Nat->Prop)(h:Hp):Hp:=open Classical in fun i=>if Z i then none else h i
theorem aP.amv{f:FuncId}{ts:List T}{h:Hp}{n:Nat}{post post':T->Hp->Prop}(H:aP P f ts h n post)(hw: ∀ t hp,post t hp-> ∃ Z t',T.sub Z hp t' t/\t'.free=true/\post' t' (aeV Z hp)):aP P f ts h n post':=by
 obtain⟨⟨t0,h0,hp0⟩,hcl,hcall⟩:=H;obtain⟨_,_,_,_,hq⟩:=hw t0 h0 hp0;refine⟨⟨_,_,hq⟩,hcl,fun F M E vs hk he hts hid hm hn=>(hcall F M E vs hk he hts hid hm hn).mono ?_⟩;rintro e w' ⟨v,t,E',rfl,rfl,hp,hv,hk',hext,hS,_,hih⟩;obtain⟨Z,t',h1,h2,h3⟩:=hw t _ hp;exact⟨v,t',E'.shut Z,rfl,rfl,h3,O1 hk' h1 hv,hk'.shut Z,hext.trans (V4 _ _ _),fun i hi hs=>hS i hi (EX hs).1,T.aW (fun _ h=>h.elim) _ (eY h2),fun i ob hi=>hih i ob (y5 hi).1⟩
theorem gq.wrap{h:Hz}{ty a:Nat}{o0 o:OV}{post:T->Hp->Prop}(hg:o0.good 1=true)(hf:o0.zn=true)(h0:h.get 0=some o0)(ha:h.get a=some o)(hne:a≠0)(e1:o.au.ty=ty)(e2:o.au.k=0)(e3:o.au.l=[T.own 0])
  (hp:post (T.own 1) (Hz.aj [(0,some o0),(1,some (.gen ty 0 [.inn 0]))])):gq [(0,some o0)] 1 post (.own a) h:=by
 have hx: ∀ i ob,Hz.aj [(0,some o0),(1,some (OV.gen ty 0 [.inn 0]))] i=some ob->(i=0/\ob=o0.au)\/(i=1/\ob=(OV.gen ty 0 [.inn 0]).au):=fun i ob hi=>by
  rw[ny,Lm] at hi; split at hi
  ·left; cases hi; exact⟨by assumption,rfl⟩
  ·split at hi
   ·right; cases hi; exact⟨by assumption,rfl⟩
   ·cases hi
 refine⟨fun _=>False,fun i=>if i=1 then a else i,T.own 1,_,hp,?_,fun i ob hi=>?_,fun i j hi hj e=>?_,.inr rfl,fun i ob hi=>?_,fun i hi _=>?_⟩
 ·show T.sub _ _ (T.own (if 1=1 then a else 1)) (T.own a);rw[bc rfl]; exact aH _
 ·rcases hx i ob hi with ⟨rfl,rfl⟩|⟨rfl,rfl⟩
  ·refine⟨o0.au,aK h0,fun h=>h,rfl,rfl,?_,uS (OV.sS hg).2⟩;rw[OV.fC hf]; exact dR _
  ·refine⟨o.au,aK ha,fun h=>h,e1,e2,?_,.inr ⟨show(0:Nat)≠gK by decide,fun t ht=>?_⟩⟩
   ·rw[e3]; exact dR _
   ·have:t=T.own 0:=by simpa [OV.au,V.aS,V.aI] using ht
    rw[this]; rfl
 ·obtain⟨oi,hi⟩:=am.1 hi;obtain⟨oj,hj⟩:=am.1 hj;rcases hx i oi hi with ⟨rfl,_⟩|⟨rfl,_⟩<;>rcases hx j oj hj with ⟨rfl,_⟩|⟨rfl,_⟩
  ·rfl
  ·exact absurd e.symm hne
  ·exact absurd e hne
  ·rfl
 ·rcases hx i ob hi with ⟨rfl,rfl⟩|⟨rfl,rfl⟩
  ·exact⟨.inl rfl,T.aA (fun _ h=>h.elim) _ (OV.xK hf)⟩
  ·exact⟨.inr rfl,.inl rfl,trivial⟩
 ·rw[Lm] at hi; split at hi
  ·rename_i e; rw[e]; rfl
  ·cases hi
theorem kF.nest{h:Hz}{i tyo ty k:Nat}{o:OV}{g:Nat->Nat}{R:List Rw}{r:Rw}(hr:r.aS=R.map fun x=>(V.row k false x).aI)(hf:T.bn r.aS=true)(hx: ∀ x∈R,T.bn x.aS=true)(hkm:k≠gK)(hi:h.get i=some o)(e1:o.au.ty=tyo)(e2:o.au.k=0)(e3:o.au.l=(List.range R.length).map fun j=>T.own (g j))
  (hg: ∀ j,j<R.length->g j≠i/\ ∃ o' x,h.get (g j)=some o'/\R[j]? =some x/\o'.au=⟨ty,k,x.aS⟩):kF (.row 0 false r) (.own i) h:=by
 have hl:(OV.row tyo 0 r []).au.l=r.aS:=by simp[OV.au,V.aS]
 refine⟨[(i,some (.row tyo 0 r []))],⟨fun c=>c≠i,⟨_,hi,fun h=>h rfl,e1,e2,?_,?_,?_⟩,trivial⟩,?_⟩
 ·rw[hl,hr,e3];refine NP (by simp) fun j t u h1 h2=>?_
  have hj:j<R.length:=by have:=(bo.1 h1).1; simpa using this
  obtain⟨q1,o',x,q2,q3,q4⟩:=hg j hj;rw[cM,q3] at h1;rw[cM,gF hj] at h2;cases h1; cases h2;simp only[V.aI,T.sub];refine⟨trivial,q1,?_,hkm,ty,?_⟩
  ·exact hx x (cx q3)
  ·rw[aK q2,q4]
 ·rw[hl,hr,e3,cy,cy];apply eW
  ·simp
  ·intro j h1 h2;simp only[ep,Function.comp]; rfl
 ·rw[hl,hr,e3,cy,cy];apply eW
  ·simp
  ·intro j h1 h2;simp only[ep,Function.comp]; rfl
 ·show T.sub _ _ (.sl 0 false r.aS) (.own i);simp only[T.sub];refine⟨trivial,trivial,hf,by decide,tyo,?_⟩;rw[<- hl];simp[Hz.aj,Hz.get,OV.au]
theorem kF.ab8{a b x:V}{h:Hz}(q:kF a b h):kF (.dD [a,x]) (.dD [b,x]) h:=by
 obtain⟨h2,f,s⟩:=q.ok;refine⟨h2,f,?_⟩;simp only[V.aI,V.aS,T.sub,T.dY];exact⟨s,aH _,trivial⟩
theorem kF.same{a:V}{h:Hz}:kF a a h:=⟨[],⟨fun _=>False,trivial⟩,aH _⟩
end
section
variable {P:Program} {H:Type} {enc:TypeId×Value->H}
inductive Sh where
 |int
 |u64
 |str
 |bool
 |sl (k:Nat) (s:Sh)
 |st (l:List Sh)
mutual
def Sh.cells:Sh->Nat
 | .st l=>Sh.BF l
 |_=>1
def Sh.BF:List Sh->Nat
 |[]=>0
 |s::l=>s.cells+Sh.BF l
end
def Sh.kd:Sh->Nat
 | .st l=>Sh.BF l+1
 |_=>0
mutual
def Sh.fits(P:Program):Sh->TypeId->Bool
 | .int,t=>match P.underlying t with|some (.int .i64)=>true|_=>false
 | .u64,t=>match P.underlying t with|some (.int .u64)=>true|_=>false
 | .str,t=>match P.underlying t with|some .string=>true|_=>false
 | .bool,t=>match P.underlying t with|some .bool=>true|_=>false
 | .sl k s,t=>match P.underlying t with
  |some (.slice e)=>s.fits P e&&Nat.beq s.kd k&&Nat.beq (P.cellsOf e) s.cells&&Nat.blt 0 s.cells
  |_=>false
 | .st l,t=>match P.underlying t with
  |some (.struct fs)=>Sh.SI P l fs.toList 0&&Nat.beq (P.cellsOf t) (Sh.BF l)
  |_=>false
def Sh.SI(P:Program):List Sh->List Field->Nat->Bool
 |[],[],_=>true
 |s::l,f::fs,off=>s.fits P f.type&&Nat.beq f.offset off&&Nat.beq (P.cellsOf f.type) s.cells&&Sh.SI P l fs (off+s.cells)
 |_,_,_=>false
end
mutual
def Sh.aI:Sh->DataW H->T
 | .int,.lit (.int _ n)=>.int n
 | .u64,.lit (.int _ n)=>.lit (.int .u64 n)
 | .str,.lit (.string l)=>.lit (.string ⟨l.toArray⟩)
 | .bool,.lit (.bool b)=>.bool b
 | .sl k s,.slice es _=>.sl k false (es.map s.aI)
 | .sl k _,.nil=>.sl k false []
 | .st l,.agg ds=>.agg (Sh.Io l ds)
 |_,_=>.any
def Sh.Io:List Sh->List (DataW H)->List T
 |s::l,d::ds=>(s.aI d).cells++Sh.Io l ds
 |_,_=>[]
end
def aar(v:Value):Prop:= ∀ n,v≠ .int .u8 n
mutual
def Sh.wf:Sh->DataW H->Prop
 | .int,d=> ∃ n,d= .lit (.int .i64 n)/\(Lit.int .i64 n).wf=true
 | .u64,d=> ∃ n,d= .lit (.int .u64 n)/\(Lit.int .u64 n).wf=true
 | .str,d=> ∃ l,d= .lit (.string l)
 | .bool,d=> ∃ b,d= .lit (.bool b)
 | .sl _ s,d=>d= .nil\/ ∃ es sp,d= .slice es sp/\ ∀ x∈es,s.wf x
 | .st l,d=> ∃ ds,d= .agg ds/\Sh.Y6 l ds
def Sh.Y6:List Sh->List (DataW H)->Prop
 |[],ds=>ds=[]
 |s::l,ds=> ∃ d r,ds=d::r/\s.wf d/\Sh.Y6 l r
end
structure Rd(E:Env)(s:Sh)(d:DataW H)(cs:List Value):Prop where
 rep:aN E (s.aI d) cs
 len:cs.length=s.cells
 one: ∀ v∈cs,v.oneCell'=true
 u8: ∀ v∈cs,aar v
 free:(s.aI d).free=true
 kd:(s.aI d).kd=s.kd
 wf:s.wf d
structure RdL(E:Env)(l:List Sh)(ds:List (DataW H))(cs:List Value):Prop where
 rep:aX E (Sh.Io l ds) cs
 len:cs.length=Sh.BF l
 one: ∀ v∈cs,v.oneCell'=true
 u8: ∀ v∈cs,aar v
 free:T.bn (Sh.Io l ds)=true
 cnt:(Sh.Io l ds).length=Sh.BF l
 wf:Sh.Y6 l ds
theorem WI{E:Env}{k:Nat}: ∀ {l:List T} {vs:List Value},l.length*bD k<=vs.length->(∀ j t,l[j]? =some t->t.kd=k/\(∀ v∈(vs.drop (j*bD k)).take (bD k),v.oneCell'=true)/\aN E t ((vs.drop (j*bD k)).take (bD k)))->aJ E k l vs:=by
 intro l;induction l with
 |nil=>intro vs _ _; trivial
 |cons t ts ih =>
  intro vs hl H;simp only[bX,de,gO] at hl;obtain⟨h1,h2,h3⟩:=H 0 t rfl;simp only[Nat.zero_mul,List.drop_zero] at h2 h3;refine⟨h1,by omega,h2,h3,ih (by simp; omega) fun j u hj=>?_⟩;have:=H (j+1) u (by simpa using hj);rw[dm];rw[de,gO,gR (j*bD k)] at this;exact this
theorem ab9{E:Env}: ∀ {a b:List T} {x y:List Value},aX E a x->aX E b y->aX E (a++b) (x++y):=by
 intro a;induction a with
 |nil=>intro b x y h1 h2; simp only[aX] at h1; subst h1; exact h2
 |cons t a ih =>
  intro b x y h1 h2;simp only[aX] at h1;obtain⟨hk,v,r,rfl,h3,h4,h5⟩:=h1;simp only[cj,aX];exact⟨hk,v,r++y,rfl,h3,h4,ih h5 h2⟩
theorem Lu{a b:List T}(ha:T.bn a=true)(hb:T.bn b=true):T.bn (a++b)=true:=by
 rw[iO] at *;intro t ht;rcases ci.1 ht with h|h
 ·exact ha t h
 ·exact hb t h
theorem WJ{E:Env}{t:T}{cs:List Value}(h:aN E t cs)(hl:t.kd=0->cs.length=1)(h1: ∀ v∈cs,v.oneCell'=true):aX E t.cells cs:=by
 have other: ∀ t:T,t.cells=[t]->t.kd=0->aN E t cs->(t.kd=0->cs.length=1)->aX E t.cells cs:=by
  intro t e k h hl;rw[e];have:=hl k;match cs,this with
  |[v],_=>simp only[aX]; exact⟨k,v,[],rfl,h1 v (by simp),h,rfl⟩
 cases t with
 |agg l=>simp only[aN] at h; exact h
 |_=>exact other _ rfl rfl h hl
theorem Y7{t:T}(h:t.free=true):T.bn t.cells=true:=by
 cases t with
 |agg l=>exact h
 |_=>simp only[T.cells,T.bn,eK]; exact h
theorem acd{t:T}:t.cells.length=bD t.kd:=by
 cases t with
 |agg l=>rfl
 |_=>rfl
theorem Sh.rP(s:Sh):bD s.kd=s.cells:=by
 cases s<;>rfl
theorem cell?_at{w:World}{a:Addr}{v:Value}(h:w.cell? a=some v): ∃ cur ty m,w.heap[a.block]? =some (.cells cur ty m)/\a.spot=none/\cur.toList[a.off]? =some v:=by
 unfold World.cell? at h;split at h
 ·rename_i c t f e;split at h
  ·cases h
  ·rename_i hs;exact⟨c,t,f,e,by simpa using hs,by simpa using h⟩
 ·cases h
theorem SK{w:World}{base:Nat}{a:Addr}{n:Nat}{cs:List Value}(h:w.cells? base a n=some cs)(hn:0<n): ∃ cur ty m,w.heap[a.block]? =some (.cells cur ty m)/\a.spot=none/\cs=(cur.toList.drop a.off).take n:=by
 obtain⟨_,hl,hc⟩:=World.cells?_some h;have h0:=hc 0 hn;have e0:a.add 0=a:=by simp[Addr.add]
 rw[e0,bS (by omega)] at h0;obtain⟨cur,ty,m,h1,h2,_⟩:=cell?_at h0;refine⟨cur,ty,m,h1,h2,?_⟩;have key: ∀ j,j<n->cur.toList[a.off+j]? =cs[j]? :=by
  intro j hj;have:=hc j hj;rw[bS (by omega)] at this;obtain⟨cur',ty',m',g1,g2,g3⟩:=cell?_at this;have eb:(a.add j).block=a.block:=by unfold Addr.add; split<;>rfl
  have eo:(a.add j).off=a.off+j:=by
   obtain⟨b,o,sp⟩:=a;simp only at h2; subst h2;rw[Go.WideShapes.add_plain]
  rw[eb,h1] at g1;cases g1;rw[eo] at g3;rw[g3,bS (by omega)]
 apply List.ext_getElem?;intro j;by_cases hj:j<n
 ·rw[List.getElem?_take,bc hj,cT,key j hj]
 ·rw[cv (by omega),cv (by simp; omega)]
def JG(E:Env):Prop:= ∀ b cur ty m,E.w.heap[b]? =some (.cells cur ty m)->(∃ v∈cur.toList,aar v)->E.S b
theorem aeW{E:Env}{s:Sh}{k:Nat}{base:Nat}{spare:Nat->Bool}{held:Bool}(hS:JG E){t e:TypeId}(ht:P.underlying t=some (.slice e))(hk:s.kd=k)(hce:P.cellsOf e=s.cells)(hpos:0<s.cells)
  (ih: ∀ (n:Nat) (cs:List Value) (d:DataW H) (ps:List MemPlace),DataW.trod enc P E.w base spare held n e cs=some (d,ps)->Rd E s d cs)
  {n:Nat} {cs:List Value} {d:DataW H} {ps:List MemPlace} (h:DataW.trod enc P E.w base spare held n t cs=some (d,ps)):Rd E (.sl k s) d cs:=by
 rcases DataW.trod_slice ht h with ⟨rfl,hx⟩|⟨a,len,cap,elems,rest,m,_,rfl,hx,hb,hl,hm,hlen,hel,_,_⟩
 ·cases hx;refine⟨?_,rfl,(fun v hv=>by rw[br] at hv; subst hv; rfl),(fun v hv=>by rw[br] at hv; subst hv; intro n e; cases e),rfl,rfl,.inl rfl⟩;simp only[Sh.aI,aN];exact⟨none,0,rfl,ba _,nofun,.inl trivial⟩
 ·cases hx;have hlen':(elems.map (·.1)).length=len:=by simpa using hlen
  refine⟨?_,rfl,(fun v hv=>by rw[br] at hv; subst hv; rfl),(fun v hv=>by rw[br] at hv; subst hv; intro n e; cases e),rfl,rfl,.inr ⟨_,_,rfl,fun x hx=>?_⟩⟩
  rotate_left
  ·obtain⟨y,hy,rfl⟩:=ax.1 hx;obtain⟨i,hi,rfl⟩:=dt hy;have:=hel i (by omega);rw[bS hi] at this;obtain⟨cs',_,h2⟩:=Option.bind_eq_some_iff.1 this;exact(ih _ _ _ _ h2).wf
  simp only[Sh.aI,aN,bL];refine⟨some a,cap,by rw[hlen],by omega,nofun,?_⟩;by_cases h0:len=0
  ·left
   have:elems=[]:=gE.1 (by omega)
   rw[this]; rfl
  ·right;have get: ∀ i,i<len-> ∃ cs',E.w.cells? base (a.add (i*s.cells)) s.cells=some cs'/\ ∃ x,elems[i]? =some x/\Rd E s x.1 cs':=by
    intro i hi;have:=hel i hi;rw[hce,bS (by omega)] at this;obtain⟨cs',h1,h2⟩:=Option.bind_eq_some_iff.1 this;exact⟨cs',h1,elems[i],bS (by omega),ih _ _ _ _ h2⟩
   obtain⟨cs0,c1,x0,_,r0⟩:=get 0 (by omega);obtain⟨cur,ty,mm,g1,g2,g3⟩:=SK c1 hpos;have ea:a.add (0*s.cells)=a:=by simp[Addr.add]
   rw[ea] at g1 g2 g3;obtain⟨b,off,sp⟩:=a;simp only at g1 g2 g3;subst g2;have hsub: ∀ i,i<len-> ∃ x,elems[i]? =some x/\Rd E s x.1 ((cur.toList.drop (off+i*s.cells)).take s.cells):=by
    intro i hi;obtain⟨cs',q1,x,q2,q3⟩:=get i hi;obtain⟨cur',ty',m',k1,k2,k3⟩:=SK q1 hpos;rw[Go.WideShapes.add_plain] at k1 k3;simp only at k1 k3;rw[g1] at k1; cases k1;rw[k3] at q3;exact⟨x,q2,q3⟩
   have hcur:len*s.cells<=(cur.toList.drop off).length:=by
    obtain⟨x,_,q⟩:=hsub (len-1) (by omega);have:=q.len;rw[bR,cA] at this;rw[cA];have e:len*s.cells=(len-1)*s.cells+s.cells:=by
     conv=>lhs; rw[show len=(len-1)+1 by omega,de,gO]
    omega
   refine⟨b,off,cur,ty,mm,rfl,hS b cur ty mm g1 ?_,g1,?_,?_⟩
   ·have hl0:=r0.len;match hcs:cs0,hl0 with
    |[],hl0=>simp at hl0; omega
    |v::r,_ =>
     refine⟨v,?_,r0.u8 v (by simp)⟩
     have:v∈(cur.toList.drop off).take s.cells:=by rw[<- g3]; simp
     exact List.mem_of_mem_drop (eQ this)
   ·rw[cu];intro t ht;rw[ax] at ht;obtain⟨d,hd,rfl⟩:=ht;rw[ax] at hd;obtain⟨x,hx,rfl⟩:=hd;obtain⟨i,hi,rfl⟩:=dt hx;obtain⟨x',q1,q2⟩:=hsub i (by omega);rw[bS hi] at q1;cases q1;exact eY q2.free
   ·refine WI (by rw[bL,bL,hlen,<- hk,Sh.rP]; exact hcur) fun j t hj=>?_
    rw[<- hk,Sh.rP];have hjl:j<len:=by
     rcases eR j len with h|h
     ·exact h
     ·rw[cv (by simp; omega)] at hj; cases hj
    obtain⟨x,q1,q2⟩:=hsub j hjl;rw[cM,cM,q1] at hj;simp only[bp,bi] at hj;subst hj;rw[dm];exact⟨q2.kd,q2.one,q2.rep⟩
mutual
theorem Sh.read{E:Env}{base:Nat}{spare:Nat->Bool}{held:Bool}(hS:JG E):(s:Sh)->(t:TypeId)->s.fits P t=true->(n:Nat)->(cs:List Value)->(d:DataW H)->(ps:List MemPlace) ->
  DataW.trod enc P E.w base spare held n t cs=some (d,ps)->Rd E s d cs
 | .int,t,hf,n,cs,d,ps,h=>by
  simp only[Sh.fits] at hf;split at hf
  ·rename_i e;obtain⟨z,rfl,hx,hwf⟩:=DataW.trod_int e h;cases hx;refine⟨by simp[Sh.aI,aN],rfl,(fun v hv=>by rw[br] at hv; subst hv; rfl),(fun v hv=>by rw[br] at hv; subst hv; intro n e; cases e),rfl,rfl,⟨z,rfl,hwf⟩⟩
  ·cases hf
 | .u64,t,hf,n,cs,d,ps,h=>by
  simp only[Sh.fits] at hf;split at hf
  ·rename_i e;obtain⟨z,rfl,hx,hwf⟩:=DataW.trod_int e h;cases hx;refine⟨by simp[Sh.aI,aN],rfl,(fun v hv=>by rw[br] at hv; subst hv; rfl),(fun v hv=>by rw[br] at hv; subst hv; intro n e; cases e),rfl,rfl,⟨z,rfl,hwf⟩⟩
  ·cases hf
 | .str,t,hf,n,cs,d,ps,h=>by
  simp only[Sh.fits] at hf;split at hf
  ·rename_i e;obtain⟨z,rfl,hx,_⟩:=DataW.trod_string e h;cases hx;refine⟨by simp[Sh.aI,aN],rfl,(fun v hv=>by rw[br] at hv; subst hv; rfl),(fun v hv=>by rw[br] at hv; subst hv; intro n e; cases e),rfl,rfl,⟨_,rfl⟩⟩
  ·cases hf
 | .bool,t,hf,n,cs,d,ps,h=>by
  simp only[Sh.fits] at hf;split at hf
  ·rename_i e;obtain⟨z,rfl,hx⟩:=DataW.trod_bool e h;cases hx;refine⟨by simp[Sh.aI,aN],rfl,(fun v hv=>by rw[br] at hv; subst hv; rfl),(fun v hv=>by rw[br] at hv; subst hv; intro n e; cases e),rfl,rfl,⟨_,rfl⟩⟩
  ·cases hf
 | .sl k s,t,hf,n,cs,d,ps,h=>by
  simp only[Sh.fits] at hf;split at hf
  ·rename_i e he;simp only[aD] at hf;obtain⟨⟨⟨f1,f2⟩,f3⟩,f4⟩:=hf;exact aeW hS he (cw f2) (cw f3) (cF.mp f4) (Sh.read hS s e f1) h
  ·cases hf
 | .st l,t,hf,n,cs,d,ps,h=>by
  simp only[Sh.fits] at hf;split at hf
  ·rename_i fs he;simp only[aD] at hf;obtain⟨xs,m,_,hx,hlen,hxl,hg⟩:=DataW.trod_struct he h;cases hx;have hct:=cw hf.2
   have R:=Sh.ajz hS l fs.toList 0 hf.1 m cs xs (by simpa using hxl) (fun i f hi=>by
    have:=hg i f (by simpa using hi)
    rw[<- this]) (by rw[hlen,hct]; simp)
   simp only[List.drop_zero] at R;refine⟨by simp only[Sh.aI,aN]; exact R.rep,by rw[hlen,hct]; rfl,R.one,R.u8,R.free,?_,⟨_,rfl,R.wf⟩⟩;show(Sh.Io l _).length+1=Sh.BF l+1;rw[R.cnt]
  ·cases hf
theorem Sh.ajz{E:Env}{base:Nat}{spare:Nat->Bool}{held:Bool}(hS:JG E):(l:List Sh)->(fs:List Field)->(off:Nat)->Sh.SI P l fs off=true->(n:Nat)->(cs:List Value)->(xs:List (DataW H×List MemPlace))->xs.length=fs.length ->
  (∀ (i:Nat) (f:Field),fs[i]? =some f->DataW.trod enc P E.w base spare held n f.type ((cs.drop f.offset).take (P.cellsOf f.type))=xs[i]?)->cs.length=off+Sh.BF l->RdL E l (xs.map (·.1)) (cs.drop off)
 |[],[],off,hf,n,cs,xs,hl,hx,hc=>by
  have:xs=[]:=gE.1 (by simpa using hl)
  subst this
  have:cs.drop off=[]:=cJ (by rw[hc]; simp[Sh.BF])
  rw[this];exact⟨rfl,rfl,(fun v hv=>by cases hv),(fun v hv=>by cases hv),rfl,rfl,rfl⟩
 |s::l,f::fs,off,hf,n,cs,xs,hl,hx,hc=>by
  simp only[Sh.SI,aD] at hf;obtain⟨⟨⟨f1,f2⟩,f3⟩,f4⟩:=hf;have e2:=cw f2;have e3:=cw f3;match xs,hl with
  |x::xs,hl =>
   have h0:=hx 0 f rfl;rw[e2,e3] at h0;have R0:=Sh.read hS s f.type f1 n _ x.1 x.2 h0;simp only[Sh.BF] at hc
   have R1:=Sh.ajz hS l fs (off+s.cells) f4 n cs xs (by simpa using hl) (fun i g hi=>by
    have:=hx (i+1) g (by simpa using hi)
    simpa using this) (by omega)
   have e:cs.drop off=(cs.drop off).take s.cells++cs.drop (off+s.cells):=by
    rw[<- dm,cK]
   rw[e];have h1:(s.aI x.1).kd=0->((cs.drop off).take s.cells).length=1:=by
    intro hk;rw[R0.len,<- Sh.rP,<- R0.kd,hk]; rfl
   refine⟨?_,?_,?_,?_,?_,?_,⟨_,_,rfl,R0.wf,R1.wf⟩⟩
   ·simp only[bl,Sh.Io];exact ab9 (WJ R0.rep h1 R0.one) R1.rep
   ·rw[aL,R0.len,R1.len]; rfl
   ·intro v hv;rcases ci.1 hv with h|h
    ·exact R0.one v h
    ·exact R1.one v h
   ·intro v hv;rcases ci.1 hv with h|h
    ·exact R0.u8 v h
    ·exact R1.u8 v h
   ·simp only[bl,Sh.Io];exact Lu (Y7 R0.free) R1.free
   ·simp only[bl,Sh.Io,aL,acd,R0.kd,Sh.rP,R1.cnt]; rfl
 |[],_::_,_,hf,_,_,_,_,_,_=>by simp[Sh.SI] at hf
 |_::_,[],_,hf,_,_,_,_,_,_=>by simp[Sh.SI] at hf
end
end
open Go.ChangeShapes Go.WideShapes Go.RowKit
section
variable {P:Program} {H:Type} {enc:TypeId×Value->H}
theorem ace{W:World}(h:Lib.TabIs P W "strings.asciiSpace" .u8 Lib.asciiSpaceTab): ∀ g cs,wZ P g=some cs-> ∃ ty m,W.heap[g]? =some (.cells cs ty m):=by
 intro g cs hg;unfold wZ at hg;split at hg
 ·rename_i e;cases hg;unfold Lib.TabIs World.var? at h;rw[e] at h;simp only[Option.bind_some] at h;split at h
  ·rename_i c ty m hc;cases h;exact⟨ty,m,hc⟩
  ·cases h
 ·cases hg
def aeX(P:Program)(W:World):Env:=⟨W,fun g=>g<W.heap.size/\wZ P g=none,fun _=>.nilFunc,fun _=>0,no,none⟩
def akS(P:Program):Fr P:= {s:=fun g=>(wZ P g).isSome=true}
theorem aeY{g:Nat}{cs:Array Value}(h:wZ P g=some cs): ∀ v∈cs.toList,¬ aar v:=by
 unfold wZ at h;split at h
 ·cases h;intro v hv hn;simp only[ax] at hv;obtain⟨z,_,rfl⟩:=hv;exact hn z rfl
 ·cases h
theorem ahZ{W:World}(hgl: ∀ g cs,wZ P g=some cs-> ∃ ty m,W.heap[g]? =some (.cells cs ty m)):JG (aeX P W):=by
 intro b cur ty m hb hv;refine⟨(cm.1 hb).1,?_⟩;cases hg:wZ P b with
 |none=>rfl
 |some cs =>
  obtain⟨ty',m',h⟩:=hgl b cs hg;rw[show W.heap[b]? =_ from hb] at h;cases h;obtain⟨v,hv1,hv2⟩:=hv;exact absurd hv2 (aeY hg v hv1)
theorem aeZ{W:World}(hgl: ∀ g cs,wZ P g=some cs-> ∃ ty m,W.heap[g]? =some (.cells cs ty m)):qY (akS P) (aeX P W):=by
 refine⟨(fun i ob hi=>by cases hi),(fun i ob g hi=>by cases hi),(fun i j oi oj g _ hi=>by cases hi),fun g hg=>hg.1,fun g hg=>?_,fun g hs hg=>?_,⟨fun g cs hg=>⟨?_,hgl g cs hg⟩,fun p hp=>by cases hp⟩⟩
 ·obtain⟨cs,hc⟩:=am.1 hg;obtain⟨ty,m,h⟩:=hgl g cs hc;exact(cm.1 h).1
 ·have h1:=hs.2;have h2:(wZ P g).isSome=true:=hg;rw[h1] at h2; cases h2
 ·show(wZ P g).isSome=true;rw[hg]; rfl
def Sh.args:List Sh->List (DataW H)->List T
 |s::l,d::ds=>s.aI d::Sh.args l ds
 |_,_=>[]
def Sh.WL(P:Program):List Sh->List TypeId->Bool
 |[],[]=>true
 |s::l,t::ts=>s.fits P t&&Sh.WL P l ts
 |_,_=>false
theorem ah0{E:Env}{s:Sh}{t:TypeId}{d:DataW H}{v:Value}{W:World}{base:Nat}(hf:s.fits P t=true)(R:Rd E s d v.cells.toList)(hok:Value.okWide P W .any base t v):lZ E (s.aI d) v:=by
 cases s with
 |st l =>
  simp only[Sh.fits] at hf;split at hf
  ·rename_i fs he;obtain⟨cs,rfl,_⟩:=okWide_struct he hok;refine .inl ⟨by rw[R.kd]; exact Nat.succ_ne_zero _,cs,rfl,R.rep⟩
  ·cases hf
 |int =>
  simp only[Sh.fits] at hf;split at hf
  ·rename_i he;obtain⟨n,rfl⟩:=okWide_int he hok;exact .inr ⟨R.kd,R.rep⟩
  ·cases hf
 |u64 =>
  simp only[Sh.fits] at hf;split at hf
  ·rename_i he;obtain⟨n,rfl⟩:=okWide_int he hok;exact .inr ⟨R.kd,R.rep⟩
  ·cases hf
 |str =>
  simp only[Sh.fits] at hf;split at hf
  ·rename_i he;obtain⟨n,rfl⟩:=okWide_string he hok;exact .inr ⟨R.kd,R.rep⟩
  ·cases hf
 |bool =>
  simp only[Sh.fits] at hf;split at hf
  ·rename_i he;obtain⟨n,rfl⟩:=okWide_bool he hok;exact .inr ⟨R.kd,R.rep⟩
  ·cases hf
 |sl k s =>
  simp only[Sh.fits] at hf;split at hf
  ·rename_i e he;obtain⟨a,len,cap,rfl⟩:=okWide_slice he hok;exact .inr ⟨R.kd,R.rep⟩
  ·cases hf
theorem ae0{E:Env}{base:Nat}{spare:Nat->Bool}{held:Bool}{b2:Nat}(hS:JG E): ∀ {XV:List Sh} {ts:List TypeId} {vs:List Value} {ds:List (DataW H)} {ps:List MemPlace},Sh.WL P XV ts=true->DataW.TrodAll enc P E.w base spare held ts vs ds ps ->
  (∀ (j:Nat) (t:TypeId) (v:Value),ts[j]? =some t->vs[j]? =some v->Value.okWide P E.w .any b2 t v)->bg E (Sh.args XV ds) vs/\T.bn (Sh.args XV ds)=true/\Sh.Y6 XV ds:=by
 intro XV;induction XV with
 |nil =>
  intro ts vs ds ps hf hA hok;cases ts with
  |nil =>
   match vs,ds,hA with
   |[],[],_=>exact⟨rfl,rfl,rfl⟩
  |cons t ts=>cases hf
 |cons s XV ih =>
  intro ts vs ds ps hf hA hok;cases ts with
  |nil=>cases hf
  |cons t ts =>
   match vs,ds,hA with
   |v::vs,d::ds,⟨p,q,⟨n,h1⟩,h2,_⟩ =>
    simp only[Sh.WL,aD] at hf;have R:=Sh.read hS s t hf.1 n _ d p h1;obtain⟨i1,i2,i3⟩:=ih hf.2 h2 fun j t' v' a b=>hok (j+1) t' v' (by simpa using a) (by simpa using b)
    refine⟨?_,?_,⟨d,ds,rfl,R.wf,i3⟩⟩
    ·simp only[Sh.args,bQ];exact⟨v,vs,rfl,ah0 hf.1 R (hok 0 t v rfl rfl),i1⟩
    ·simp only[Sh.args,T.bn,aD];exact⟨R.free,i2⟩
theorem acf{W:World}(hgl: ∀ g cs,wZ P g=some cs-> ∃ ty m,W.heap[g]? =some (.cells cs ty m)){f:FuncId}{XV:List Sh}{ts:List TypeId}{args:Array Value}{ds:List (DataW H)}{ps:List MemPlace}{b2:Nat}{u:Value}
  (hf:Sh.WL P XV ts=true) (hA:DataW.TrodAll enc P W 0 (fun _=>true) true ts args.toList ds ps) (hok: ∀ (j:Nat) (t:TypeId) (v:Value),ts[j]? =some t->args[j]? =some v->Value.okWide P W .any b2 t v)
  (S:Sh.Y6 XV ds->zC P f (Sh.args XV ds) (.lit u)):Calls P f args W fun e W'=>e= .returned u/\Below W.heap.size W W':=by
 obtain⟨hr,hfr,hwf⟩:=ae0 (E:=aeX P W) (ahZ hgl) hf hA (fun j t v a b=>hok j t v a (by simpa using b));obtain⟨_,_,hcall⟩:=(S hwf).call 0;have:=hcall (akS P) (fun _=>False) (aeX P W) args.toList (aeZ hgl) rfl hr (dh hfr) (BA _) (fun h=>h);refine this.mono ?_;rintro e w' ⟨v,t,E2,rfl,rfl,⟨rfl,_⟩,hv,_,hext,_⟩;refine⟨by rw[aQ.1 hv],hext.os,hext.tape,hext.output,hext.size,fun g hg=>hext.w g ?_⟩;cases hq:wZ P g with
 |none=>exact .inl ⟨hg,hq⟩
 |some cs=>right; show(wZ P g).isSome=true; rw[hq]; rfl
theorem QS(hl:laidOutB P=true){W W':World}(hb:Below W.heap.size W W'){sp:Nat->Bool}: ∀ {ts:List TypeId} {vs:List Value} {ds:List (DataW H)} {ps:List MemPlace},(∀ t∈ts,P.readableRec t=true/\t<P.types.size) ->
  DataW.TrodAll enc P W 0 (fun _=>true) true ts vs ds ps->(∀ x∈ps,x.block<W.heap.size)->(∀ x∈ps,sp x.block=true)->DataW.TrodAll enc P W' 0 sp true ts vs ds ps:=by
 intro ts;induction ts with
 |nil =>
  intro vs ds ps _ h _ _;match vs,ds,h with
  |[],[],h=>exact h
 |cons t ts ih =>
  intro vs ds ps hr h hlt hsp;match vs,ds,h with
  |v::vs,d::ds,⟨p,q,h1,h2,e⟩ =>
   subst e;refine⟨p,q,?_,ih (fun t ht=>hr t (by simp[ht])) h2 (fun x hx=>hlt x (by simp[hx])) (fun x hx=>hsp x (by simp[hx])),rfl⟩;obtain⟨r1,r2⟩:=hr t (by simp);exact WideElems.Trod_stays hl r1 r2 h1 (fun x hx=>hb.same (hlt x (by simp[hx]))) (fun x hx=>hsp x (by simp[hx]))
theorem ae1{W:World}(hgl: ∀ g cs,wZ P g=some cs-> ∃ ty m,W.heap[g]? =some (.cells cs ty m)){f:FuncId}{fn:Func}{s:ChangeSpec}{XV:List Sh}{args:Array Value}{ds gs:List (DataW H)}{before:List MemPlace}{b2:Nat}{tb:TypeId}
  (hl:laidOutB P=true) (hrd: ∀ t∈fn.params.toList,P.readableRec t=true/\t<P.types.size) (hvars:s.vars=[]) (hres:fn.resultTypes= #[tb]) (htb:P.underlying tb=some .bool)
  (hspec:s.fn H ds= {results:=[.lit (.bool true)],args:=ds})
  (hf:Sh.WL P XV fn.params.toList=true) (hval: ∀ (j:Nat) (t:TypeId) (v:Value),fn.params[j]? =some t->args[j]? =some v->Value.okWide P W .any b2 t v)
  (hW:DataW.Whole enc P fn.params.toList s.vars false W args.toList ds gs before) (S:Sh.Y6 XV ds->zC P f (Sh.args XV ds) (.bool true)) :
  Calls P f args W fun e W'=> ∃ v,e= .returned v/\s.post enc P fn false true false false W args v W':=by
 have hW':=hW;obtain⟨p,q,hA,hV,hpq,hfz,hnd⟩:=hW;have hV0:gs=[]/\q=[]:=by
  rw[hvars] at hV;cases gs with
  |nil=>exact⟨rfl,hV⟩
  |cons _ _=>exact hV.elim
 obtain⟨rfl,rfl⟩:=hV0;subst hpq;refine(acf hgl hf hA (fun j t v a b=>hval j t v (by simpa using a) b) S).mono ?_;rintro e W' ⟨rfl,hb⟩;have hlt: ∀ x∈p,x.block<W.heap.size:=fun x hx=>by simpa using hW'.lt x (by simp[hx])
 refine⟨_,rfl,?_⟩;have hold: ∀ x∈p,(fun b=>decide (b<W.heap.size)) x.block=true:=fun x hx=>by simpa using hlt x hx
 refine⟨ds,[],p++[],[],p,[],hW',?_,?_,?_,World.keptBut_mono (fun x hx=>⟨by simpa using hx,?_⟩) (hb.frame (· ∈p)),fun h=>by cases h⟩
 ·rw[cS,hspec,hres];exact trodAll_mk1 (shut_bool htb true)
 ·rw[cS,hspec];exact QS hl hb hrd hA hlt hold
 ·rw[cS,hspec,hvars]; rfl
 ·right; simpa using hx
end
end Go.Ab
