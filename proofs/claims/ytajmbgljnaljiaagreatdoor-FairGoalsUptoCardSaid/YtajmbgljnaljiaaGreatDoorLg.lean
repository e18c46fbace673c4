/-
 The typed layer, part 9: contracts of functions; loops.
-/
import Derived.Defers
import Derived.Shelf.SlSortCmp.WholeK
import Derived.Deep.Slices
import Derived.Carry
import Derived.RowKit
import Derived.Stop.LaidErr
import Derived.Deep.DeepHandedRow
import Derived.Deep.DeepWitnessRowRef
import Derived.Lib.LaidTab
import Derived.Test.YtajmbgljnaljiaaGreatDoorLf
import Derived.Test.YtajmbgljnaljiaaGreatDoorLd
import Derived.Test.YtajmbgljnaljiaaGreatDoorLe
namespace Go.Ab
section
variable {P:Program}
structure Body(P:Program)(f:FuncId)(ac:fF)(rs:List RV)(nt:Nat):Prop where
 ex: ∃ fn c,P.funcs[f]? =some fn/\fn.body=some c/\comp P c=some ac/\lg P fn.results.toList=some rs/\fn.ntmps=nt
 cl:callable P f
 dst:oP nt ac=true
def Sl(m:Fm)(h:Hz):RV->Option V
 | .slot t=>m.get t
 | .cell a k=>match m.get a with
  |some v=>match ldZ h k v with|some (u,.no)=>some u|_=>none
  |none=>none
def Hf(m:Fm)(h:Hz):List RV->Option (List V)
 |[]=>some []
 |r::rs=>match Sl m h r,Hf m h rs with
  |some v,some l=>some (v::l)
  |_,_=>none
def resV(m:Fm)(h:Hz)(rs:List RV):Option V :=
 match Hf m h rs with
 |some [v]=>some v
 |some l=>some (.fU l)
 |none=>none
theorem XR{m:Fm}{h:Hz}{s:AS}(R:Rp m s.fr)(hh:s.hp=h.aj){r:RV}{v:V}(q:Sl m h r=some v):r.ok s/\r.val s=v.aF:=by
 cases r with
 |slot t=>exact⟨trivial,R.getD q⟩
 |cell a k =>
  simp only[Sl] at q
  split at q
  ·rename_i u hu
   split at q
   ·rename_i w hw
    cases q
    have:=QB (x:=.t a) hh hw trivial (R.ev (x:=.t a) hu)
    exact this
   ·cases q
  ·cases q
theorem OB{m:Fm}{h:Hz}{s:AS}(R:Rp m s.fr)(hh:s.hp=h.aj): ∀ {rs:List RV} {l:List V},Hf m h rs=some l->BX s rs/\rs.map (RV.val s)=V.aS l:=by
 intro rs
 induction rs with
 |nil=>intro l q; cases q; exact⟨trivial,rfl⟩
 |cons r rs ih =>
  intro l q
  simp only[Hf] at q
  split at q
  ·rename_i v l' h1 h2
   cases q
   obtain⟨a1,a2⟩:=XR R hh h1
   obtain⟨b1,b2⟩:=ih h2
   exact⟨⟨a1,b1⟩,by simp only[List.map_cons,V.aS]; rw[a2,b2]⟩
  ·cases q
theorem Lm{m:Fm}{h:Hz}{s:AS}(R:Rp m s.fr)(hh:s.hp=h.aj){rs:List RV}{v:V}(q:resV m h rs=some v):BX s rs/\resT s rs=v.aF:=by
 unfold resV at q
 split at q
 ·rename_i u e
  cases q
  obtain⟨a,b⟩:=OB R hh e
  refine⟨a,?_⟩
  cases rs with
  |nil=>simp[V.aS] at b
  |cons r rs =>
   cases rs with
   |nil=>simp only[List.map_cons,List.map_nil,V.aS,List.cons.injEq,and_true] at b; exact b
   |cons r' rs=>simp[V.aS] at b
 ·rename_i l hne e
  cases q
  obtain⟨a,b⟩:=OB R hh e
  refine⟨a,?_⟩
  match rs,b,e with
  |[],b,_=>simp only[resT,V.aF]; rw[b]
  |[r],b,e =>
   cases l with
   |nil=>simp[V.aS] at b
   |cons u l =>
    cases l with
    |nil=>exact absurd rfl (hne u)
    |cons w l=>simp[V.aS] at b
  |r::r'::rs,b,_=>simp only[resT,V.aF]; rw[b]
 ·cases q
structure aG(res v:V)(h:Hz):Prop where
 ok:T.sub (fun _=>True) h.aj res.aF v.aF
def adR(rs:List RV)(res:V):Qz
 | .exit _,_,_,_=>False
 |_,m,h,_=>match resV m h rs with
  |some v=>v.seq fun v=>aG res v h
  |none=>False
def Az:Nat->List V->Fm
 |_,[]=>[]
 |i,v::r=>(i,v)::Az (i+1) r
theorem QF: ∀ {l:List V} {i j:Nat} {v:V},(Az i l).get j=some v-> ∃ k,j=i+k/\l[k]? =some v:=by
 intro l
 induction l with
 |nil=>intro i j v q; cases q
 |cons u r ih =>
  intro i j v q
  simp only[Az,Fm.get] at q
  cases hb:Nat.beq i j with
  |true=>rw[hb] at q; cases q; exact⟨0,(eF hb).symm,rfl⟩
  |false =>
   rw[hb] at q
   obtain⟨k,e1,e2⟩:=ih q
   exact⟨k+1,by omega,by simpa using e2⟩
theorem AA{l:List V}{n:Nat}:Rp (Az 0 l) (V.aS l++List.replicate n T.un):=by
 intro i v q
 obtain⟨k,e1,e2⟩:=QF q
 have e:i=k:=by omega
 subst e
 have hk:i<l.length:=(List.getElem?_eq_some_iff.1 e2).1
 rw[List.getElem?_append_left (by rw[dH]; exact hk),bY,List.getElem?_map,e2]
 rfl
theorem Sm:(no:Hp)=Hz.aj []:=rfl
@[reducible] def au(P:Program)(f:FuncId)(args:List V)(res:V):Prop:=sU P f (V.aS args) res.aF
theorem au.of{f:FuncId}{ac:fF}{rs:List RV}{nt:Nat}{args:List V}{res:V}(B:Body P f ac rs nt)(hn:args.length<=nt)(hf:V.cZ args=true)(hr:res.free=true)(H:az P nt 0 ac (adR rs res) (Az 0 args) [] 0):au P f args res:=by
 obtain⟨fn,c,h1,h2,h3,h4,h5⟩:=B.ex
 have zA:res.aF.ids (fun _=>False):=dY (V.kL res hr)
 refine uT.Cb (o:=none) h1 h2 h3 h4 B.cl h5 (V.jB args hf) (fun _ _=>Qq _ zA) (fun _=>T.aX (fun _ h=>h.elim) _ zA) (fun _ h=>by cases h) ?_
 have:=oQ (P:=P) (N:=nt) (pn:=0) (s:=⟨V.aS args++List.replicate (nt-(V.aS args).length) T.un,no,0,0⟩) B.dst (by simp[dH]; omega) AA Sm rfl H
 refine lq ?_ this
 rintro e s ⟨m,h,a1,a2,a3,a4,a5⟩
 have key: ∀ {m h},Rp m s.fr->s.hp=Hz.aj h->(match resV m h rs with|some v=>v.seq fun v=>aG res v h|none=>False)->BX s rs/\T.sub (fun _=>True) s.hp res.aF (resT s rs):=by
  intro m h a2 a3 q
  split at q
  ·rename_i v hv
   rw[V.seq_eq] at q
   obtain⟨b1,b2⟩:=Lm a2 a3 hv
   exact⟨b1,by rw[b2,a3]; exact q.ok⟩
  ·exact q.elim
 cases e with
 |exit j=>exact a5.elim
 |normal=>exact key a2 a3 a5
 |ret=>exact key a2 a3 a5
theorem aG.int{a b:Int}{h:Hz}(e:a=b):aG (.int a) (.int b) h:=⟨by subst e; exact aB _⟩
theorem aG.bool{a b:Bool}{h:Hz}(e:a=b):aG (.bool a) (.bool b) h:=⟨by subst e; exact aB _⟩
theorem ah.pure{dr:Bool}{f:FuncId}{args:List V}{res:V}{h:Hz}{n:Nat}{K:V->Hz->Prop}{KW:Nat->V->Hz->Prop}(S:au P f args res)(hr:res.free=true)(hK:K res h):ah P dr none f args h n K KW :=
 ⟨.inl (uT.use S (aW _) ⟨res,h,rfl,rfl,fun _=>⟨rfl,V.kL res hr⟩,hK⟩)⟩
theorem ah.jC{dr:Bool}{b:Bool}{f:FuncId}{args:List V}{res:V}{h:Hz}{n:Nat}{K:V->Hz->Prop}{KW:Nat->V->Hz->Prop}(S:b=true->au P f args res)(hr:res.free=true)(hK:K res h):ah P dr (some b) f args h n K KW :=
 ⟨.inl (.inl ⟨res,fun e=>uT.use (S e) (aW _) ⟨rfl,rfl⟩,hr,hK⟩)⟩
theorem Fz.pure{f:FuncId}{args:List V}{res:V}{h:Hz}{n:Nat}{K:V->Hz->Prop}(S:au P f args res)(hr:res.free=true)(hK:K res h):Fz P f args h n K :=
 ⟨res,none,T.aX (fun _ h=>h.elim) _ (dY (V.kL res hr)),(fun _ h=>by cases h),fun hp _=>(uT.frame S hp n),hK⟩
theorem Fz.row{f:FuncId}{args:List V}{h:Hz}{n ty k:Nat}{r:Rw}{K:V->Hz->Prop}(S:uT P f (V.aS args) (fun n=>.own n) (some ⟨ty,k,r.aS⟩))(hK:K (.own n) ((n,some (.row ty k r []))::h)):Fz P f args h n K :=
 ⟨.own n,some (.row ty k r []),rfl,(fun ob e=>by cases e; simp only[OV.ay,V.aS,List.append_nil]; exact S.ob _ rfl),fun hp _=>by
  have:=uT.frame S hp n
  simpa [OV.ay,V.aS,V.aF] using this,hK⟩
def Et(m:Fm):List Nat->Fm->(Fm->Prop)->Prop
 |[],acc,K=>K acc
 |d::r,acc,K=>match m.get d with
  |some v=>v.seq fun v=>Et m r ((d,v)::acc) K
  |none=>False
theorem wC{m:Fm}: ∀ {l:List Nat} {acc:Fm} {K:Fm->Prop},Et m l acc K->(∀ i v,acc.get i=some v->m.get i=some v)-> ∃ b,K b/\ ∀ i v,Fm.get i b=some v->m.get i=some v:=by
 intro l
 induction l with
 |nil=>intro acc K q ha; exact⟨acc,q,ha⟩
 |cons d r ih =>
  intro acc K q ha
  simp only[Et] at q
  split at q
  ·rename_i v hv
   rw[V.seq_eq] at q
   refine ih q ?_
   intro i u hu
   simp only[Fm.get] at hu
   cases hb:Nat.beq d i with
   |true=>rw[hb] at hu; cases hu; rw[<- eF hb]; exact hv
   |false=>rw[hb] at hu; exact ha i u hu
  ·exact q.elim
def JA(m':Fm):Fm->Prop
 |[]=>True
 |p::r=>(∃ v,m'.get p.1=some v/\p.2.aF=v.aF)/\JA m' r
theorem JB{m':Fm}: ∀ {m0:Fm},JA m' m0-> ∀ {i:Nat} {v:V},m0.get i=some v-> ∃ u,m'.get i=some u/\v.aF=u.aF:=by
 intro m0
 induction m0 with
 |nil=>intro _ i v q; cases q
 |cons p r ih =>
  intro hs i v q
  simp only[Fm.get] at q
  cases hb:Nat.beq p.1 i with
  |true=>rw[hb] at q; cases q; rw[<- eF hb]; exact hs.1
  |false=>rw[hb] at q; exact ih hs.2 q
def UQ(nx N:Nat):Fm->Bool
 |[]=>true
 |p::r=>T.lt nx p.2.aF&&Nat.blt p.1 N&&UQ nx N r
theorem qA{nx N:Nat}: ∀ {m:Fm},UQ nx N m=true-> ∀ {i:Nat} {v:V},m.get i=some v->T.lt nx v.aF=true/\i<N:=by
 intro m
 induction m with
 |nil=>intro _ i v q; cases q
 |cons p r ih =>
  intro hs i v q
  simp only[UQ,Bool.and_eq_true] at hs
  simp only[Fm.get] at q
  cases hb:Nat.beq p.1 i with
  |true=>rw[hb] at q; cases q; exact⟨hs.1.1,by rw[<- eF hb]; simpa using hs.1.2⟩
  |false=>rw[hb] at q; exact ih hs.2 q
def qX(N:Nat)(m:Fm):List T:=(List.range N).map fun i=>match m.get i with|some v=>v.aF|none=>.any
theorem uf{N:Nat}{m:Fm}:(qX N m).length=N:=by simp[qX]
theorem yL{N:Nat}{m:Fm}(hN: ∀ i v,m.get i=some v->i<N):Rp m (qX N m):=by
 intro i v q
 simp only[qX,List.getElem?_map,List.getElem?_range (hN i v q),Option.map_some,q]
theorem Kr{Z:Nat->Prop}{h:Hp}: ∀ {a b:List T},a.length=b.length->(∀ (i:Nat) (t u:T),a[i]? =some t->b[i]? =some u->T.sub Z h t u)->T.dG Z h a b:=by
 intro a
 induction a with
 |nil=>intro b hl _; cases b with|nil=>trivial|cons _ _=>simp at hl
 |cons t a ih =>
  intro b hl H
  cases b with
  |nil=>simp at hl
  |cons u b=>exact⟨H 0 t u rfl rfl,ih (by simpa using hl) fun i t u h1 h2=>H (i+1) t u (by simpa using h1) (by simpa using h2)⟩
theorem Sr{Z:Nat->Prop}{h:Hp}{t:T}:T.sub Z h .any t:=by cases t<;>simp[T.sub]
theorem XT{N:Nat}{m0 m:Fm}{fr:List T}{Z:Nat->Prop}{h:Hp}(hl:fr.length=N)(R:Rp m fr)(hs: ∀ i v,m0.get i=some v-> ∃ u,m.get i=some u/\v.aF=u.aF):T.dG Z h (qX N m0) fr:=by
 refine Kr (by rw[uf,hl]) fun i t u h1 h2=>?_
 simp only[qX,List.getElem?_map] at h1
 have hi:i<N:=by
  rcases Nat.lt_or_ge i N with h|h
  ·exact h
  ·rw[List.getElem?_eq_none (by simpa using h)] at h1; cases h1
 rw[List.getElem?_range hi] at h1
 simp only[Option.map_some,Option.some.injEq] at h1
 split at h1
 ·rename_i v hv
  obtain⟨w,hw,e⟩:=hs i v hv
  have:=R i w hw
  rw[h2] at this
  simp only[Option.some.injEq] at this
  subst h1; rw[this,e]; exact aB _
 ·subst h1; exact Sr
theorem yM{N nx:Nat}{m:Fm}(hg: ∀ i v,m.get i=some v->T.lt nx v.aF=true):T.aN (· <nx) (qX N m):=by
 rw[bK]
 intro t ht
 simp only[qX,List.mem_map] at ht
 obtain⟨i,_,e⟩:=ht
 split at e
 ·rename_i v hv; subst e; exact GH (hg i v hv)
 ·subst e; simp[T.ids]
def OV.good(nx:Nat):OV->Bool
 | .row _ k r x=>(match r with| .nil=>true|r=>Nat.beq r.kd k)&&CY k x&&T.LZ nx (V.aS x)&& !(Nat.beq k eP)
 | .box _ k v=>CY k [v]&&T.lt nx v.aF&& !(Nat.beq k eP)
 | .map _ _ x=>x.all fun e=>T.lt nx e.2.aF
 | .gen _ k x=>CY k x&&T.LZ nx (V.aS x)&& !(Nat.beq k eP)
def Eu(nx:Nat):Hz->Bool
 |[]=>true
 |(i,some o)::r=>Nat.blt i nx&&o.good nx&&Eu nx r
 |(_,none)::r=>Eu nx r
theorem Ci{n:Nat}: ∀ {l:List T},T.LZ n l=true->T.aN (· <n) l:=by
 intro l
 induction l with
 |nil=>intro _; trivial
 |cons t l ih =>
  intro q
  simp only[T.LZ,Bool.and_eq_true] at q
  exact⟨GH q.1,ih q.2⟩
theorem Rw.ids{M:Nat->Prop}(r:Rw):T.aN M r.aS:=by
 rw[bK]
 intro t ht
 cases r<;>simp only[Rw.aS,List.mem_map,List.not_mem_nil] at ht<;>obtain⟨x,_,rfl⟩:=ht<;>simp[eS,T.ids,T.aN,Qr,Oq,GX,Qs,E8,gV]
theorem Rw.kds{r:Rw}: ∀ t∈r.aS,t.kd=r.kd:=by
 intro t ht
 cases r<;>simp only[Rw.aS,List.mem_map,List.not_mem_nil] at ht<;>obtain⟨x,_,rfl⟩:=ht<;>rfl
theorem Sv{k:Nat}{l:List V}(q:CY k l=true): ∀ t∈V.aS l,t.kd=k:=by
 intro t ht
 rw[bY,List.mem_map] at ht
 obtain⟨v,hv,rfl⟩:=ht
 exact V.Le (Fb q v hv)
theorem Lp{k:Nat}{l:List T}(hk:k≠eP)(h: ∀ t∈l,t.kd=k):Vs k l=true:=by
 unfold Vs
 have:(k==1000000007)=false:=by simpa using hk
 rw[this]; simp only[cond_false,List.all_eq_true,beq_iff_eq]; exact h
theorem OV.xB{nx:Nat}{o:OV}(q:o.good nx=true):T.aN (· <nx) o.ay.l/\Vs o.ay.k o.ay.l=true:=by
 cases o with
 |row ty k r x =>
  simp only[OV.good,Bool.and_eq_true,Bool.not_eq_true'] at q
  obtain⟨⟨⟨q1,q2⟩,q3⟩,q4⟩:=q
  simp only[OV.ay]
  refine⟨dZ.2 ⟨r.ids,Ci q3⟩,Lp (Nat.ne_of_beq_eq_false q4) fun t ht=>?_⟩
  rcases List.mem_append.1 ht with ht|ht
  ·split at q1
   ·cases ht
   ·rw[<- eF q1]; exact Rw.kds t ht
  ·exact Sv q2 t ht
 |box ty k v =>
  simp only[OV.good,Bool.and_eq_true,Bool.not_eq_true'] at q
  obtain⟨⟨q1,q2⟩,q3⟩:=q
  simp only[OV.ay]
  refine⟨⟨GH q2,trivial⟩,Lp (Nat.ne_of_beq_eq_false q3) fun t ht=>?_⟩
  rw[List.mem_singleton] at ht; subst ht; exact Ll q1
 |gen ty k x =>
  simp only[OV.good,Bool.and_eq_true,Bool.not_eq_true'] at q
  obtain⟨⟨q2,q3⟩,q4⟩:=q
  simp only[OV.ay]
  exact⟨Ci q3,Lp (Nat.ne_of_beq_eq_false q4) (Sv q2)⟩
 |map ty es x =>
  simp only[OV.good,List.all_eq_true] at q
  simp only[OV.ay]
  refine⟨?_,?_⟩
  ·rw[bK]
   intro t ht
   rcases List.mem_append.1 ht with ht|ht
   ·rw[List.mem_map] at ht
    obtain⟨e,_,rfl⟩:=ht
    simp[La,T.ids,T.aN]
   ·rw[List.mem_map] at ht
    obtain⟨e,he,rfl⟩:=ht
    simp only[ZN,T.ids,T.aN]; exact⟨trivial,GH (q e he),trivial⟩
  ·unfold Vs
   simp[eP,fJ,La,ZN]
theorem Cj{nx:Nat}: ∀ {h:Hz},Eu nx h=true->HpG nx h.aj:=by
 intro h
 induction h with
 |nil=>intro _ i ob e; simp[Hz.aj,Hz.get] at e
 |cons p r ih =>
  obtain⟨j,o⟩:=p
  intro q
  rw[bn]
  cases o with
  |none=>exact ZL (ih q)
  |some o =>
   simp only[Eu,Bool.and_eq_true] at q
   obtain⟨g1,g2⟩:=OV.xB q.1.2
   exact ZK (ih q.2) (by simpa using q.1.1) g1 g2
def yN(nx:Nat):Hz->Hz
 |[]=>[]
 |(i,o)::r=>bif Nat.blt i nx then(i,o)::yN nx r else yN nx r
theorem Hg{nx i:Nat}(hi:i<nx): ∀ {h:Hz},(yN nx h).get i=h.get i:=by
 intro h
 induction h with
 |nil=>rfl
 |cons p r ih =>
  obtain⟨j,o⟩:=p
  simp only[yN]
  cases hb:Nat.blt j nx with
  |true=>simp only[cond_true,Hz.get]; cases Nat.beq j i<;>simp[ih]
  |false =>
   simp only[cond_false,Hz.get]
   have hne:Nat.beq j i=false:=by
    cases e:Nat.beq j i with
    |false=>rfl
    |true =>
     have:=eF e; subst this
     have:Nat.blt j nx=true:=by simpa using hi
     rw[this] at hb; cases hb
   rw[hne]; exact ih
structure adS{ι:Type}(inv:ι->Prop)(μ:ι->Nat)(vars:ι->Fm)(base:Fm)(hs:Hz)(nx:Nat)(i:ι)(m:Fm)(h:Hz):Prop where
 ok: ∃ j,inv j/\μ j<μ i/\JA m (vars j)/\JA m base/\yN nx h=hs
theorem get_append{a b:Fm}{i:Nat}{v:V}(q:Fm.get i (a++b)=some v):a.get i=some v\/Fm.get i b=some v:=by
 induction a with
 |nil=>exact .inr q
 |cons p r ih =>
  simp only[List.cons_append,Fm.get] at q ⊢
  cases hb:Nat.beq p.1 i with
  |true=>rw[hb] at q; exact .inl q
  |false=>rw[hb] at q; exact ih q
theorem aP.same{N pn nx:Nat}{b:fF}{Q:Qz}{m:Fm}{h:Hz}{ι:Type}(live:List Nat)(vars:ι->Fm)(inv:ι->Prop)(μ:ι->Nat)(i0:ι)(hd:oP N b=true)(hp:pn<=nx)(hg:Eu nx h=true)(hv: ∀ i,UQ nx N (vars i)=true)(h0:inv i0)(he:JA m (vars i0))
  (H:Et m live [] fun base=>UQ nx N base=true/\ ∀ i,inv i->az P N pn b (fun e m' h' n'=>match e with
   | .normal=>adS inv μ vars base (yN nx h) nx i m' h'
   |e=>Q e m' h' n') (vars i++base) h nx):aP P N pn b Q m h nx:=by
 obtain⟨base,⟨hb,H⟩,hbm⟩:=wC H (fun i v q=>by cases q)
 refine⟨fun fr hl R=>?_⟩
 have hall: ∀ i j v,Fm.get j (vars i++base)=some v->T.lt nx v.aF=true/\j<N:=fun i j v q=>by
  rcases get_append q with q|q
  ·exact qA (hv i) q
  ·exact qA hb q
 have wk: ∀ (i:ι) (m':Fm) (h':Hz) (s':AS),s'.fr.length=N->Rp m' s'.fr->s'.hp=h'.aj->s'.pin=pn->JA m' (vars i)->(∀ j v,Fm.get j base=some v-> ∃ u,m'.get j=some u/\v.aF=u.aF)->yN nx h'=yN nx h ->
   Wk ⟨qX N (vars i++base),h.aj,nx,pn⟩ s':=by
  intro i m' h' s' a1 a2 a3 a4 a5 a6 a7
  obtain⟨fr',hp',nx',pn'⟩:=s'
  simp only at a1 a2 a3 a4
  subst a3; subst a4
  refine Wk.same (XT a1 a2 fun j v q=>?_) (yM fun j v q=>(hall i j v q).1) (Cj hg) (fun j hj=>?_) hp
  ·rcases get_append q with q|q
   ·exact JB a5 q
   ·exact a6 j v q
  ·simp only[Hz.aj]; rw[<- Hg hj,a7,Hg hj]
 refine vP.rule (fun i=>⟨qX N (vars i++base),h.aj,nx,pn⟩) inv μ i0 h0 (wk i0 m h _ hl R rfl rfl he (fun j v q=>⟨v,hbm j v q,rfl⟩) rfl) ?_
 intro i hi
 have:=oQ (P:=P) (N:=N) (pn:=pn) (s:=⟨qX N (vars i++base),h.aj,nx,pn⟩) hd uf (yL fun j v q=>(hall i j v q).2) rfl rfl (H i hi)
 refine lq ?_ this
 rintro e s' ⟨m',h',a1,a2,a3,a4,a5⟩
 cases e with
 |normal =>
  obtain⟨j,b1,b2,b3,b4,b5⟩:=a5.ok
  exact⟨j,⟨b1,b2⟩,wk j m' h' s' a1 a2 a3 a4 b3 (fun j v q=>JB b4 q) b5⟩
 |exit j=>exact⟨m',h',a1,a2,a3,a4,a5⟩
 |ret=>exact⟨m',h',a1,a2,a3,a4,a5⟩
end
def sq(l:List aI)(c:fF):fF:=.seq (.reg false l) c
def qm(d x:Nat):aI:=o d (.mv (.t x))
def dw(d:Nat)(n:Int):aI:=o d (.mv (.c (.int n)))
def qv(d:Nat)(b:Bool):aI:=o d (.mv (.c (.bool b)))
def qb(op:BinOp)(d x y:Nat):aI:=o d (.bin op (.t x) (.t y))
def qk(op:BinOp)(d x:Nat)(n:Int):aI:=o d (.bin op (.t x) (.c (.int n)))
def ql(d k x:Nat):aI:=o d (.ld k (.t x))
def qf(d a k x:Nat):aI:=o d (.fa a k (.t x))
def qi(d k x y:Nat):aI:=o d (.ia k (.t x) (.t y))
def qn(d x:Nat):aI:=o d (.len false (.t x))
def qo(d a b:Nat):aI:=o d (.pick (.t a) (.c (.bool true)) (.t b))
def qa(d a b:Nat):aI:=o d (.pick (.t a) (.t b) (.c (.bool false)))
def qx(d x:Nat):aI:=o d (.not (.t x))
def qe(d x i:Nat):aI:=o d (.ex (.t x) i)
def qB(d:Nat)(ty:TypeId)(k x:Nat):aI:=o d (.box ty k (.t x))
def qs(k x y:Nat):aI:=ov (.st k (.t x) (.t y))
def qC(d:Nat)(f:FuncId)(l:List Nat):aI:=o d (.call f (l.map .t))
def aI.w(q:aI)(g:Nat):aI:=⟨q.d,q.op,some (g,true),q.fl,q.ne,q.ad,q.ar⟩
def aI.n(q:aI)(g:Nat):aI:=⟨q.d,q.op,some (g,false),q.fl,q.ne,q.ad,q.ar⟩
theorem Body.of{P:Program}{f:FuncId}{fn:Func}{ac:fF}{rs:List RV}{nt:Nat}(h1:P.funcs[f]? =some fn)(h2:(fn.body.isSome,comp P (fn.body.getD .skip),lg P fn.results.toList,fn.ntmps,oP nt ac)=(true,some ac,some rs,nt,true))(h3:callable P f):Body P f ac rs nt:=by
 simp only[Prod.mk.injEq] at h2
 obtain⟨a,b,c,d,e⟩:=h2
 obtain⟨cd,hc⟩:=Option.isSome_iff_exists.1 a
 rw[hc] at b
 exact⟨⟨fn,cd,h1,hc,b,c,d⟩,h3,e⟩
section
variable {P:Program}
def dL(a b:List T):Prop:= ∀ (Z:Nat->Prop) (h:Hp),T.dG Z h a b
theorem dL.refl(a:List T):dL a a:=fun _ _=>aW a
def OV.EL:OV->Bool
 | .row _ _ _ x=>V.cZ x
 | .box _ _ v=>v.free
 | .map _ _ x=>V.cZ (x.map (·.2))
 | .gen _ _ x=>V.cZ x
theorem OV.Fe{o:OV}(q:o.EL=true):T.aN (fun _=>False) o.ay.l:=by
 cases o with
 |row ty k r x=>exact dZ.2 ⟨r.ids,dD (V.jB x q)⟩
 |box ty k v=>exact⟨dY (V.kL v q),trivial⟩
 |gen ty k x=>exact dD (V.jB x q)
 |map ty es x =>
  simp only[OV.EL] at q
  refine dZ.2 ⟨bK.2 fun t ht=>?_,bK.2 fun t ht=>?_⟩
  ·obtain⟨e,_,rfl⟩:=List.mem_map.1 ht
   simp[La,T.ids,T.aN]
  ·obtain⟨e,he,rfl⟩:=List.mem_map.1 ht
   simp only[ZN,T.ids,T.aN]
   refine⟨trivial,?_,trivial⟩
   have:=dD (V.jB _ q)
   rw[bK] at this
   exact this _ (by rw[bY,List.map_map]; exact List.mem_map.2 ⟨e,he,rfl⟩)
theorem OV.wK{o:OV}(q:o.EL=true)(ρ:Nat->Nat):T.bQ ρ o.ay.l=o.ay.l:=uD _ (OV.Fe q)
def dR:List (Nat×OV)->List Nat->Nat->Nat
 |(c,_)::r,n::s,i=>bif Nat.beq i c then n else dR r s i
 |_,_,i=>i
def nP(n:Nat):List Nat->Bool
 |[]=>true
 |m::r=> !(Nat.beq n m)&&nP n r
def UR(nx pn:Nat)(h:Hz):List (Nat×OV)->List Nat->Prop
 |[],[]=>True
 |(c,o)::r,n::s=>(Nat.blt c nx=true/\(Nat.blt c pn=true->n=c)/\nP n s=true/\o.good nx=true/\o.EL=true /\
   ∃ o',h.get n=some o'/\o'.ay.ty=o.ay.ty/\o'.ay.k=o.ay.k/\dL o.ay.l o'.ay.l)/\UR nx pn h r s
 |_,_=>False
def vk:List (Nat×OV)->List Nat->List (Nat×Nat×Ob)
 |(c,o)::r,n::s=>(c,n,o.ay)::vk r s
 |_,_=>[]
def ng(l:List (Nat×OV)):Hz:=l.map fun p=>(p.1,some p.2)
theorem Ba: ∀ {l:List (Nat×OV)} {s:List Nat} {i:Nat},zo (vk l s) i=dR l s i:=by
 intro l
 induction l with
 |nil=>intro s i; cases s<;>rfl
 |cons p r ih =>
  obtain⟨c,o⟩:=p
  intro s i
  cases s with
  |nil=>rfl
  |cons n s =>
   simp only[vk,zo,dR]
   rw[ih]
   cases hb:Nat.beq i c with
   |true=>rw[if_pos (eF hb)]; rfl
   |false=>rw[if_neg (Nat.ne_of_beq_eq_false hb)]; rfl
theorem Z8{nx pn:Nat}{h:Hz}: ∀ {l:List (Nat×OV)} {s:List Nat},UR nx pn h l s->hpL (vk l s)=(ng l).aj:=by
 intro l
 induction l with
 |nil=>intro s q; cases s with
  |nil=>rfl
  |cons _ _=>exact q.elim
 |cons p r ih =>
  obtain⟨c,o⟩:=p
  intro s q
  cases s with
  |nil=>exact q.elim
  |cons n s =>
   simp only[vk,hpL]
   have e:ng ((c,o)::r)=(c,some o)::ng r:=rfl
   rw[e,bn,ih q.2]; rfl
theorem OC{n:Nat}: ∀ {l:List (Nat×OV)} {s:List Nat},nP n s=true-> ¬ FK (vk l s) n:=by
 intro l
 induction l with
 |nil=>intro s _ q; cases s<;>exact q
 |cons p r ih =>
  obtain⟨c,o⟩:=p
  intro s hs q
  cases s with
  |nil=>exact q
  |cons m s =>
   simp only[nP,Bool.and_eq_true] at hs
   simp only[vk,FK] at q
   rcases q with q|q
   ·rw[q,Nat.beq_refl] at hs; cases hs.1
   ·exact ih hs.2 q
theorem Z9{nx pn:Nat}{h:Hz}{Z:Nat->Prop}{ρ:Nat->Nat}: ∀ {l:List (Nat×OV)} {s:List Nat},UR nx pn h l s->okL Z ρ h.aj nx pn (vk l s):=by
 intro l
 induction l with
 |nil=>intro s _; cases s<;>trivial
 |cons p r ih =>
  obtain⟨c,o⟩:=p
  intro s q
  cases s with
  |nil=>exact q.elim
  |cons n s =>
   obtain⟨⟨q1,q2,q3,q4,q5,o',q6,q7,q8,q9⟩,q⟩:=q
   obtain⟨g1,g2⟩:=OV.xB q4
   refine⟨⟨Nat.blt_eq.mp q1,fun hc=>q2 (Nat.blt_eq.mpr hc),OC q3,g1,g2,o'.ay.l,?_,?_⟩,ih q⟩
   ·have:=aO q6
    show h.aj n=some ⟨o.ay.ty,o.ay.k,o'.ay.l⟩
    rw[this,<- q7,<- q8]
   ·show T.dG Z h.aj (T.bQ ρ o.ay.l) o'.ay.l
    rw[OV.wK q5]; exact q9 _ _
def iL(ρ:Nat->Nat)(m':Fm):Fm->Prop
 |[]=>True
 |(i,v)::r=>(∃ u,m'.get i=some u/\dL [v.aF.ren ρ] [u.aF])/\iL ρ m' r
theorem nU{ρ:Nat->Nat}{m':Fm}: ∀ {m0:Fm},iL ρ m' m0-> ∀ {i:Nat} {v:V},m0.get i=some v-> ∃ u,m'.get i=some u/\dL [v.aF.ren ρ] [u.aF]:=by
 intro m0
 induction m0 with
 |nil=>intro _ i v q; cases q
 |cons p r ih =>
  obtain⟨j,w⟩:=p
  intro hs i v q
  simp only[Fm.get] at q
  cases hb:Nat.beq j i with
  |true=>rw[hb] at q; cases q; rw[<- eF hb]; exact hs.1
  |false=>rw[hb] at q; exact ih hs.2 q
theorem dL.eq{a b:T}(h:a=b):dL [a] [b]:=by subst h; exact .refl _
theorem sR{ρ:Nat->Nat}{m':Fm}: ∀ {m0:Fm},(m0.map fun p=>some (p.2.aF.ren ρ))=(m0.map fun p=>(m'.get p.1).map V.aF)->iL ρ m' m0:=by
 intro m0
 induction m0 with
 |nil=>intro _; trivial
 |cons p r ih =>
  intro h
  simp only[List.map_cons,List.cons.injEq] at h
  obtain⟨h1,h2⟩:=h
  obtain⟨u,e1,e2⟩:=Option.map_eq_some_iff.1 h1.symm
  exact⟨⟨u,e1,.eq e2.symm⟩,ih h2⟩
theorem zk{N:Nat}{m0 m:Fm}{fr:List T}{Z:Nat->Prop}{h:Hp}{ρ:Nat->Nat}(hl:fr.length=N)(R:Rp m fr)(hs: ∀ i v,m0.get i=some v-> ∃ u,m.get i=some u/\dL [v.aF.ren ρ] [u.aF]):T.dG Z h (T.bQ ρ (qX N m0)) fr:=by
 refine Kr (by rw[qQ,uf,hl]) fun i t u h1 h2=>?_
 have e: ∀ l:List T,T.bQ ρ l=l.map (T.ren ρ):=by
  intro l
  induction l with
  |nil=>rfl
  |cons a l ih=>simp only[T.bQ,List.map_cons,ih]
 rw[e] at h1
 simp only[qX,List.getElem?_map] at h1
 have hi:i<N:=by
  rcases Nat.lt_or_ge i N with h|h
  ·exact h
  ·rw[List.getElem?_eq_none (by simpa using h)] at h1; cases h1
 rw[List.getElem?_range hi] at h1
 simp only[Option.map_some,Option.some.injEq] at h1
 split at h1
 ·rename_i v hv
  obtain⟨w,hw,e⟩:=hs i v hv
  have:=R i w hw
  rw[h2] at this
  simp only[Option.some.injEq] at this
  subst h1; rw[this]; exact(e Z h).1
 ·subst h1; exact Sr
structure adT{ι:Type}(inv:ι->Prop)(μ:ι->Nat)(vars:ι->Fm)(objs:ι->List (Nat×OV))(base:Fm)(nx pn:Nat)(i:ι)(m:Fm)(h:Hz):Prop where
 ok: ∃ j nw,inv j/\μ j<μ i/\iL (dR (objs j) nw) m (vars j)/\iL (dR (objs j) nw) m base/\UR nx pn h (objs j) nw
theorem aP.objs{N pn nx0:Nat}(nx:Nat){b:fF}{Q:Qz}{m:Fm}{h:Hz}{ι:Type}(live:List Nat)(vars:ι->Fm)(objs:ι->List (Nat×OV))(inv:ι->Prop)(μ:ι->Nat)(i0:ι)(O6:List Nat)(hd:oP N b=true)(hp:pn<=nx)(hv: ∀ i,UQ nx N (vars i)=true)(h0:inv i0)
  (he:iL (dR (objs i0) O6) m (vars i0)) (ho:UR nx pn h (objs i0) O6)
  (H:Et m live [] fun base=>iL (dR (objs i0) O6) m base/\UQ nx N base=true/\ ∀ i,inv i->az P N pn b (fun e m' h' n'=>match e with
   | .normal=>adT inv μ vars objs base nx pn i m' h'
   |e=>Q e m' h' n') (vars i++base) (ng (objs i)) nx):aP P N pn b Q m h nx0:=by
 obtain⟨base,⟨hbs,hb,H⟩,hbm⟩:=wC H (fun i v q=>by cases q)
 refine⟨fun fr hl R=>?_⟩
 have hall: ∀ i j v,Fm.get j (vars i++base)=some v->T.lt nx v.aF=true/\j<N:=fun i j v q=>by
  rcases get_append q with q|q
  ·exact qA (hv i) q
  ·exact qA hb q
 have wk: ∀ (i:ι) (nw:List Nat) (m':Fm) (h':Hz) (s':AS),s'.fr.length=N->Rp m' s'.fr->s'.hp=h'.aj->s'.pin=pn->iL (dR (objs i) nw) m' (vars i)->iL (dR (objs i) nw) m' base->UR nx pn h' (objs i) nw ->
   Wk ⟨qX N (vars i++base),(ng (objs i)).aj,nx,pn⟩ s':=by
  intro i nw m' h' s' a1 a2 a3 a4 a5 a6 a7
  obtain⟨fr',hp',nx',pn'⟩:=s'
  simp only at a1 a2 a3 a4
  subst a3; subst a4
  rw[<- Z8 a7]
  refine Wk.objs (vk (objs i) nw) (zk a1 a2 fun j v q=>?_) (yM fun j v q=>(hall i j v q).1) hp (Z9 a7)
  have e:zo (vk (objs i) nw)=dR (objs i) nw:=funext fun _=>Ba
  rw[e]
  rcases get_append q with q|q
  ·exact nU a5 q
  ·exact nU a6 q
 refine vP.rule (fun i=>⟨qX N (vars i++base),(ng (objs i)).aj,nx,pn⟩) inv μ i0 h0 (wk i0 O6 m h _ hl R rfl rfl he hbs ho) ?_
 intro i hi
 have:=oQ (P:=P) (N:=N) (pn:=pn) (s:=⟨qX N (vars i++base),(ng (objs i)).aj,nx,pn⟩) hd uf (yL fun j v q=>(hall i j v q).2) rfl rfl (H i hi)
 refine lq ?_ this
 rintro e s' ⟨m',h',a1,a2,a3,a4,a5⟩
 cases e with
 |normal =>
  obtain⟨j,nw,b1,b2,b3,b4,b5⟩:=a5.ok
  exact⟨j,⟨b1,b2⟩,wk j nw m' h' s' a1 a2 a3 a4 b3 b4 b5⟩
 |exit j=>exact⟨m',h',a1,a2,a3,a4,a5⟩
 |ret=>exact⟨m',h',a1,a2,a3,a4,a5⟩
theorem aP.nil{N pn nx:Nat}{b:fF}{Q:Qz}{m:Fm}{h:Hz}(d ty k:Nat){k':Nat}{r:Rw}(hd:m.get d=some (.row k' true r))(hr:r.aS=[])(hk:vH k=true)(hN:Nat.blt d N=true)
  (H:aP P N pn b Q ((d,.own nx)::m) ((nx,some (.row ty k .nil []))::h) (nx+1)):aP P N pn b Q m h nx:=by
 refine⟨fun fr hl R=>?_⟩
 have hdl:d<fr.length:=by rw[hl]; exact Nat.blt_eq.mp hN
 have hget:fr.getD d .any= .sl k' true []:=by
  rw[R.getD hd]; simp only[V.aF,hr]
 have H':=H.ok (fr.set d (.own nx)) (by simpa using hl) (fun i v q=>by
  simp only[Fm.get] at q
  cases hb:Nat.beq d i with
  |true=>rw[hb] at q; cases q; rw[<- eF hb]; simp[hdl,V.aF]
  |false =>
   rw[hb] at q
   rw[List.getElem?_set_ne (Nat.ne_of_beq_eq_false hb)]; exact R i v q)
 have e:Hz.aj ((nx,some (.row ty k .nil []))::h)=upd h.aj nx (some ⟨ty,k,[]⟩):=by rw[bn]; rfl
 rw[e] at H'
 obtain⟨I,μ,⟨s0,w0,i0⟩,round⟩:=H'
 exact⟨I,μ,⟨s0,Wk.ZJ d ty k hget hk w0,i0⟩,round⟩
structure mO(h0:Hz)(n:Nat)(post:T->Hp->Prop)(v:V)(h:Hz):Prop where
 ok: ∃ (Z:Nat->Prop) (ρ:Nat->Nat) (t:T) (h':Hp),post t h'/\T.sub Z h.aj (t.ren ρ) v.aF/\(∀ i ob,h' i=some ob-> ∃ ob',h.aj (ρ i)=some ob'/\ ¬ Z (ρ i)/\Jg Z h.aj ρ ob ob') /\
  (∀ i j,(h' i).isSome=true->(h' j).isSome=true->ρ i=ρ j->i=j)/\t.ids (fun i=>(h0.aj i).isSome=true\/i=n)/\lC (fun i=>(h0.aj i).isSome=true\/i=n) h' /\
  ∀ i,(h0.aj i).isSome=true->(h' i).isSome=true->ρ i=i
def adU(h0:Hz)(n:Nat)(post:T->Hp->Prop)(rs:List RV):Qz
 | .exit _,_,_,_=>False
 |_,m,h,_=>match resV m h rs with
  |some v=>v.seq fun v=>mO h0 n post v h
  |none=>False
theorem o7.of{f:FuncId}{ac:fF}{rs:List RV}{nt nx n:Nat}{args:List V}{h0:Hz}{post:T->Hp->Prop}(B:Body P f ac rs nt)(hn:args.length<=nt)(hin: ∃ t h',post t h')(ha:T.LZ nx (V.aS args)=true)(hg:Eu nx h0=true)
  (H:az P nt nx ac (adU h0 n post rs) (Az 0 args) h0 nx):aT P f (V.aS args) h0.aj n post:=by
 obtain⟨fn,c,h1,h2,h3,h4,h5⟩:=B.ex
 have hG:=Cj hg
 refine aT.Cb (nx:=nx) h1 h2 h3 h4 B.cl h5 hin (Ci ha) (fun i ob hi=>⟨(hG i ob hi).1,(hG i ob hi).2.1⟩) ?_
 have:=oQ (P:=P) (N:=nt) (pn:=nx) (s:=⟨V.aS args++List.replicate (nt-(V.aS args).length) T.un,h0.aj,nx,nx⟩) B.dst (by simp[dH]; omega) AA rfl rfl H
 refine lq ?_ this
 rintro e s ⟨m,h,a1,a2,a3,a4,a5⟩
 have key: ∀ {m h},Rp m s.fr->s.hp=Hz.aj h->(match resV m h rs with|some v=>v.seq fun v=>mO h0 n post v h|none=>False)-> ∃ s1,Gi s1 s/\Ret h0.aj n post rs s1:=by
  intro m h a2 a3 q
  split at q
  ·rename_i v hv
   rw[V.seq_eq] at q
   obtain⟨b1,b2⟩:=Lm a2 a3 hv
   obtain⟨Z,ρ,t,h',c1,c2,c3,c4,c5,c6,c7⟩:=q.ok
   exact⟨s,.refl _,b1,Z,ρ,t,h',c1,by rw[b2,a3]; exact c2,by rw[a3]; exact c3,c4,c5,c6,c7⟩
  ·exact q.elim
 cases e with
 |exit j=>exact a5.elim
 |normal=>exact key a2 a3 a5
 |ret=>exact key a2 a3 a5
theorem mO.one{h0 h:Hz}{n c j:Nat}{post:T->Hp->Prop}{v:V}{o:OV}{t:T}(hj:h.get j=some o)(hg:o.good (j+1)=true)(hf:o.EL=true)(hc:(h0.get c).isSome=true->j=c)(hc':(h0.get c).isSome=true\/c=n)
  (ht:t.ids (fun i=>i=c)) (hv:dL [t.ren fun _=>j] [v.aF]) (hp:post t (Hz.aj [(c,some o)])):mO h0 n post v h:=by
 have hgood:=(OV.xB hg).2
 have hM: ∀ i,i=c->(h0.aj i).isSome=true\/i=n:=by
  rintro i rfl
  rcases hc' with h|h
  ·left; simpa [Hz.aj] using h
  ·exact .inr h
 have hx: ∀ i ob,Hz.aj [(c,some o)] i=some ob->i=c/\ob=o.ay:=fun i ob hi=>by
  simp only[Hz.aj,Hz.get] at hi
  cases hb:Nat.beq c i with
  |true=>rw[hb] at hi; simp only[cond_true,Option.map_some,Option.some.injEq] at hi; exact⟨(eF hb).symm,hi.symm⟩
  |false=>rw[hb] at hi; simp at hi
 refine⟨fun i=>i≠j,fun _=>j,t,Hz.aj [(c,some o)],hp,(hv _ _).1,fun i ob hi=>?_,fun i i' hi hi' _=>?_,T.aX hM _ ht,fun i ob hi=>?_,fun i hi hi'=>?_⟩
 ·obtain⟨rfl,rfl⟩:=hx i ob hi
  refine⟨o.ay,aO hj,by simp,rfl,rfl,?_,zV hgood⟩
  rw[OV.wK hf]; exact aW _
 ·obtain⟨oi,hi⟩:=Option.isSome_iff_exists.1 hi
  obtain⟨oj,hi'⟩:=Option.isSome_iff_exists.1 hi'
  rw[(hx _ _ hi).1,(hx _ _ hi').1]
 ·obtain⟨rfl,rfl⟩:=hx i ob hi
  exact⟨hM _ rfl,T.aA (fun _ h=>h.elim) _ (OV.Fe hf)⟩
 ·obtain⟨oi,hi'⟩:=Option.isSome_iff_exists.1 hi'
  obtain⟨rfl,_⟩:=hx _ _ hi'
  exact hc (by simpa [Hz.aj] using hi)
theorem ah.heap{f:FuncId}{args:List V}{h:Hz}{n:Nat}{K:V->Hz->Prop}{KW:Nat->V->Hz->Prop}{post:T->Hp->Prop}(S:aT P f (V.aS args) h.aj n post)(hK: ∀ t hp,post t hp-> ∃ v h',t=v.aF/\hp=Hz.aj h'/\K v h'):ah P false none f args h n K KW :=
 ⟨.inl (S.mono fun t hp q=>by
  obtain⟨v,h',h1,h2,h3⟩:=hK t hp q
  exact⟨v,h',h1,h2,(fun e=>by cases e),h3⟩)⟩
end
section
variable {P:Program}
def LoopN(body:(oL->AS->Prop)->AS->Prop)(Q:oL->AS->Prop):Nat->AS->Prop
 |0,_=>False
 |k+1,s=>body (fun e s'=>match e with| .normal=>LoopN body Q k s'|e=>Q e s') s
open Classical in
theorem vP.ofN{b:fF}{Q:oL->AS->Prop}{k:Nat}{s:AS}(h:LoopN (aw P b) Q k s):vP (aw P b) Q s:=by
 let I:AS->Nat->Prop:=fun s n=>LoopN (aw P b) Q n s
 let μ:AS->Nat:=fun s=>if hh: ∃ n,I s n then Classical.choose (Qv _ (Classical.choose_spec hh)) else 0
 have hμ: ∀ s,(∃ n,I s n)->I s (μ s)/\ ∀ k,I s k->μ s<=k:=by
  intro s hh
  have e:μ s=Classical.choose (Qv _ (Classical.choose_spec hh)):=dif_pos hh
  rw[e]
  exact Classical.choose_spec (Qv _ (Classical.choose_spec hh))
 refine⟨fun s=> ∃ n,I s n,μ,⟨s,⟨s,.refl _,.inl rfl⟩,k,h⟩,fun s hI=>?_⟩
 have h2:=(hμ s hI).1
 generalize hm:μ s=m at h2
 cases m with
 |zero=>exact h2.elim
 |succ m =>
  have h3:aw P b (fun e s'=>match e with| .normal=>LoopN (aw P b) Q m s'|e=>Q e s') s:=h2
  refine lq ?_ h3
  intro e s' q
  cases e with
  |normal=>exact⟨s',⟨s',.refl _,.inl rfl⟩,⟨m,q⟩,by have:=(hμ s' ⟨m,q⟩).2 m q; omega⟩
  |exit j=>exact q
  |ret=>exact q
def azN(P:Program)(N pn:Nat)(b:fF)(Q:Qz):Nat->Fm->Hz->Nat->Prop
 |0,_,_,_=>False
 |k+1,m,h,nx=>az P N pn b (fun e m' h' nx'=>match e with| .normal=>azN P N pn b Q k m' h' nx'|e=>Q e m' h' nx') m h nx
theorem aP.times{N pn nx:Nat}{b:fF}{Q:Qz}{m:Fm}{h:Hz}(k:Nat)(hd:oP N b=true)(H:azN P N pn b Q k m h nx):aP P N pn b Q m h nx:=by
 refine⟨fun fr hl R=>vP.ofN (k:=k) ?_⟩
 have key: ∀ (k:Nat) {m:Fm} {h:Hz} {nx:Nat} {s:AS},s.fr.length=N->Rp m s.fr->s.hp=h.aj->s.pin=pn->s.nx=nx->azN P N pn b Q k m h nx->LoopN (aw P b) (Lift N pn Q) k s:=by
  intro k
  induction k with
  |zero=>intro m h nx s _ _ _ _ _ H; exact H.elim
  |succ k ih =>
   intro m h nx s a1 a2 a3 a4 a5 H
   subst a5
   have:=oQ (P:=P) (N:=N) (pn:=pn) (s:=s) hd a1 a2 a3 a4 H
   show aw P b _ s
   refine lq ?_ this
   rintro e s' ⟨m',h',b1,b2,b3,b4,b5⟩
   cases e with
   |normal=>exact ih b1 b2 b3 b4 rfl b5
   |exit j=>exact⟨m',h',b1,b2,b3,b4,b5⟩
   |ret=>exact⟨m',h',b1,b2,b3,b4,b5⟩
 exact key k hl R rfl rfl rfl H
end
section
variable {P:Program}
theorem JC{Z:Nat->Prop}{h:Hp}{t u:T}: ∀ {fr:List T} {j:Nat},fr[j]? =some u->T.sub Z h t u->T.dG Z h (fr.set j t) fr
 |[],_,e,_=>by simp at e
 |a::r,0,e,q=>by
  simp only[List.getElem?_cons_zero,Option.some.injEq] at e; subst e
  exact⟨q,aW _⟩
 |a::r,j+1,e,q=>by
  simp only[List.getElem?_cons_succ] at e
  exact⟨aB _,JC e q⟩
theorem aP.fzV{N pn nx:Nat}{b:fF}{Q:Qz}{m:Fm}{h:Hz}(d i:Nat)(u v:V)(hd:m.get d=some v)(hN:Nat.blt d N=true)(hs:T.sub (fun j=>j=i) h.aj u.aF v.aF)
  (H:aP P N pn b Q ((d,u)::m) ((i,none)::h) nx):aP P N pn b Q m h nx:=by
 refine⟨fun fr hl R=>?_⟩
 have hdl:d<fr.length:=by rw[hl]; exact Nat.blt_eq.mp hN
 have hget:fr[d]? =some v.aF:=R d _ hd
 have H':=H.ok (fr.set d u.aF) (by simpa using hl) (fun j v q=>by
  simp only[Fm.get] at q
  cases hb:Nat.beq d j with
  |true=>rw[hb] at q; cases q; rw[<- eF hb]; simp[hdl]
  |false =>
   rw[hb] at q
   rw[List.getElem?_set_ne (Nat.ne_of_beq_eq_false hb)]; exact R j v q)
 obtain⟨I,μ,⟨s0,⟨s1,w1,w2⟩,i0⟩,round⟩:=H'
 have F:WZ (fun j=>j=i) ⟨fr.set d u.aF,Hz.aj ((i,none)::h),nx,pn⟩ ⟨fr,h.aj,nx,pn⟩:=by
  refine⟨JC hget hs,fun j ob hj=>?_,rfl,rfl⟩
  have hne:j≠i:=by
   rintro rfl
   simp[Hz.aj,Hz.get] at hj
  have hj':h.aj j=some ob:=by
   have hb:Nat.beq i j=false:=by
    cases hb:Nat.beq i j with
    |false=>rfl
    |true=>exact absurd (Nat.eq_of_beq_eq_true hb).symm hne
   simp only[Hz.aj,Hz.get,hb] at hj ⊢; exact hj
  exact⟨ob,hj',hne,rfl,rfl,aW _,rfl,rfl⟩
 exact⟨I,μ,⟨s0,⟨s1,w1.trans (.fz F (.refl _)),w2⟩,i0⟩,round⟩
theorem aP.acS{N pn nx:Nat}{b:fF}{Q:Qz}{m:Fm}{h:Hz}(d i k:Nat)(u:V){ty:Nat}(hd:m.get d=some (.ptr i 0 0))(hN:Nat.blt d N=true)(ho:h.get i=some (.box ty k u))(hu:u.aF.free=true)(hk:k≠eP)
  (H:aP P N pn b Q ((d,.ref k u)::m) ((i,none)::h) nx):aP P N pn b Q m h nx :=
 aP.fzV d i _ _ hd hN (by
  simp only[V.aF,T.sub]
  exact⟨trivial,trivial,hu,hk,ty,[u.aF],by simp only[Hz.aj,ho]; rfl,rfl⟩) H
end
section
variable {P:Program}
theorem gX{o:OV}(q:o.EL=true)(ρ:Nat->Nat):o.ay.ren ρ=o.ay:=by
 have:=OV.wK q ρ
 unfold Ob.ren
 rw[this]
theorem Lr{j:Nat}{o:OV}{i:Nat}:Hz.aj [(j,some o)] i=if i=j then some o.ay else none:=by
 simp only[Hz.aj,Hz.get]
 cases hb:Nat.beq j i with
 |true=>rw[if_pos (eF hb).symm]; rfl
 |false=>rw[if_neg (fun e=>Nat.ne_of_beq_eq_false hb e.symm)]; rfl
theorem wE{j i:Nat}{o:Option OV}{h:Hz}:Hz.aj ((j,o)::h) i=if i=j then o.map OV.ay else h.aj i:=by
 simp only[Hz.aj,Hz.get]
 cases hb:Nat.beq j i with
 |true=>rw[if_pos (eF hb).symm]; rfl
 |false=>rw[if_neg (fun e=>Nat.ne_of_beq_eq_false hb e.symm)]; rfl
theorem ah.abg{f:FuncId}{ts args:List V}{h:Hz}{i n:Nat}{o0:OV}{K:V->Hz->Prop}{KW:Nat->V->Hz->Prop}{post:T->Hp->Prop}(H:aT P f (V.aS ts) (Hz.aj [(0,some o0)]) 1 post)
  (ha:T.bQ (fun _=>i) (V.aS ts)=V.aS args) (hid:T.LZ 1 (V.aS ts)=true) (hg:o0.good 1=true) (hf:o0.EL=true) (hi:h.get i=some o0) (hn:h.get n=none)
  (hK: ∀ t hp,post t hp->(∃ v o,hp=Hz.aj [(0,some o)]/\o.EL=true/\t.ren (nameAt (fun _=>i) 1 n)=v.aF/\K v ((i,some o)::h)) \/
   (∃ v o,hp=Hz.aj [(1,some o)]/\o.EL=true/\t.ren (nameAt (fun _=>i) 1 n)=v.aF/\K v ((n,some o)::(i,none)::h))):ah P false none f args h n K KW:=by
 have hin:i≠n:=by rintro rfl; rw[hi] at hn; cases hn
 have hl0: ∀ j:Nat,j<1->(Hz.aj [(0,some o0)] j).isSome=true:=fun j hj=>by rw[Lr,if_pos (by omega)]; rfl
 have hsome: ∀ j,(Hz.aj [(0,some o0)] j).isSome=true->j=0:=fun j hj=>by
  rw[Lr] at hj; split at hj
  ·assumption
  ·cases hj
 refine ah.heap (post:=fun t' h'=> ∃ t h1,post t h1/\t'=t.ren (nameAt (fun _=>i) 1 n)/\h'=placed (fun _=>i) 1 n (Hz.aj [(0,some o0)]) h.aj h1) ?_ ?_
 ·rw[<- ha]
  refine aT.place H (T.aA hl0 _ (Ci hid)) (fun j ob hj=>?_) (by rw[Lr]; rfl) (fun j ob hj=>?_) (fun a b h1 h2 _=>by rw[hsome a h1,hsome b h2])
  ·rw[Lr] at hj; split at hj
   ·cases hj
    have hz:T.aN (fun _=>False) o0.ay.l:=OV.Fe hf
    exact⟨T.aA (fun _ h=>h.elim) _ hz,(OV.xB hg).2⟩
   ·cases hj
  ·rw[Lr] at hj; split at hj
   ·cases hj
    rw[gX hf]; exact aO hi
   ·cases hj
 ·rintro t' h' ⟨t,h1,hp,rfl,rfl⟩
  have inj: ∀ a b,((Hz.aj [(0,some o0)] a).isSome=true\/a=1)->((Hz.aj [(0,some o0)] b).isSome=true\/b=1)->nameAt (fun _=>i) 1 n a=nameAt (fun _=>i) 1 n b->a=b:=by
   intro a b ha hb e
   rcases ha with ha|rfl<;>rcases hb with hb|rfl
   ·rw[hsome a ha,hsome b hb]
   ·rw[hsome a ha] at e; exact absurd e hin
   ·rw[hsome b hb] at e; exact absurd e.symm hin
   ·rfl
  have at0: ∀ h1,placed (fun _=>i) 1 n (Hz.aj [(0,some o0)]) h.aj h1 i=(h1 0).map (Ob.ren (nameAt (fun _=>i) 1 n)):=fun h1=>DR (h:=h.aj) (h1:=h1) inj (i:=0) (.inl (hl0 0 (by decide)))
  have at1: ∀ h1,placed (fun _=>i) 1 n (Hz.aj [(0,some o0)]) h.aj h1 n=(h1 1).map (Ob.ren (nameAt (fun _=>i) 1 n)):=fun h1=>DR (h:=h.aj) (h1:=h1) inj (i:=1) (.inr rfl)
  have atO: ∀ h1 j,j≠i->j≠n->placed (fun _=>i) 1 n (Hz.aj [(0,some o0)]) h.aj h1 j=h.aj j:=fun h1 j g1 g2=>GZ (by
   rintro⟨a,ha,e⟩
   rcases ha with ha|rfl
   ·rw[hsome a ha] at e; exact g1 e.symm
   ·exact g2 e.symm)
  rcases hK t h1 hp with ⟨v,o,rfl,ho,hv,hk⟩|⟨v,o,rfl,ho,hv,hk⟩
  ·refine⟨v,_,hv,?_,hk⟩
   funext j
   rw[wE]
   by_cases e1:j=i
   ·subst e1; rw[if_pos rfl,at0,Lr,if_pos rfl,Option.map_some,gX ho]; rfl
   ·rw[if_neg e1]
    by_cases e2:j=n
    ·subst e2; rw[at1,Lr,if_neg (by decide)]; simp only[Hz.aj,hn]; rfl
    ·exact atO _ j e1 e2
  ·refine⟨v,_,hv,?_,hk⟩
   funext j
   rw[wE,wE]
   by_cases e2:j=n
   ·subst e2; rw[if_pos rfl,at1,Lr,if_pos rfl,Option.map_some,gX ho]; rfl
   ·rw[if_neg e2]
    by_cases e1:j=i
    ·subst e1; rw[if_pos rfl,at0,Lr,if_neg (by decide)]; rfl
    ·rw[if_neg e1]; exact atO _ j e1 e2
end
section
variable {P:Program}
def okR(ρ:Nat->Nat)(nx pn:Nat)(h:Hz):List (Nat×OV)->List Nat->Prop
 |[],[]=>True
 |(c,o)::r,n::s=>(Nat.blt c nx=true/\(Nat.blt c pn=true->n=c)/\nP n s=true/\o.good nx=true /\
   ∃ o',h.get n=some o'/\o'.ay.ty=o.ay.ty/\o'.ay.k=o.ay.k/\dL (T.bQ ρ o.ay.l) o'.ay.l)/\okR ρ nx pn h r s
 |_,_=>False
theorem vw{ρ:Nat->Nat}{nx pn:Nat}{h:Hz}: ∀ {l:List (Nat×OV)} {s:List Nat},okR ρ nx pn h l s->hpL (vk l s)=(ng l).aj:=by
 intro l
 induction l with
 |nil=>intro s q; cases s with
  |nil=>rfl
  |cons _ _=>exact q.elim
 |cons p r ih =>
  obtain⟨c,o⟩:=p
  intro s q
  cases s with
  |nil=>exact q.elim
  |cons n s =>
   simp only[vk,hpL]
   have e:ng ((c,o)::r)=(c,some o)::ng r:=rfl
   rw[e,bn,ih q.2]; rfl
theorem FI{nx pn:Nat}{h:Hz}{Z:Nat->Prop}{ρ:Nat->Nat}: ∀ {l:List (Nat×OV)} {s:List Nat},okR ρ nx pn h l s->okL Z ρ h.aj nx pn (vk l s):=by
 intro l
 induction l with
 |nil=>intro s _; cases s<;>trivial
 |cons p r ih =>
  obtain⟨c,o⟩:=p
  intro s q
  cases s with
  |nil=>exact q.elim
  |cons n s =>
   obtain⟨⟨q1,q2,q3,q4,o',q6,q7,q8,q9⟩,q⟩:=q
   obtain⟨g1,g2⟩:=OV.xB q4
   refine⟨⟨Nat.blt_eq.mp q1,fun hc=>q2 (Nat.blt_eq.mpr hc),OC q3,g1,g2,o'.ay.l,?_,?_⟩,ih q⟩
   ·have:=aO q6
    show h.aj n=some ⟨o.ay.ty,o.ay.k,o'.ay.l⟩
    rw[this,<- q7,<- q8]
   ·exact q9 _ _
structure FT{ι:Type}(inv:ι->Prop)(μ:ι->Nat)(vars:ι->Fm)(objs:ι->List (Nat×OV))(base:Fm)(nx pn:Nat)(i:ι)(m:Fm)(h:Hz):Prop where
 ok: ∃ j nw,inv j/\μ j<μ i/\iL (dR (objs j) nw) m (vars j)/\iL (dR (objs j) nw) m base/\okR (dR (objs j) nw) nx pn h (objs j) nw
theorem aP.xE{N pn nx0:Nat}(nx:Nat){b:fF}{Q:Qz}{m:Fm}{h:Hz}{ι:Type}(live:List Nat)(vars:ι->Fm)(objs:ι->List (Nat×OV))(inv:ι->Prop)(μ:ι->Nat)(i0:ι)(O6:List Nat)(hd:oP N b=true)(hp:pn<=nx)(hv: ∀ i,UQ nx N (vars i)=true)(h0:inv i0)
  (he:iL (dR (objs i0) O6) m (vars i0)) (ho:okR (dR (objs i0) O6) nx pn h (objs i0) O6)
  (H:Et m live [] fun base=>iL (dR (objs i0) O6) m base/\UQ nx N base=true/\ ∀ i,inv i->az P N pn b (fun e m' h' n'=>match e with
   | .normal=>FT inv μ vars objs base nx pn i m' h'
   |e=>Q e m' h' n') (vars i++base) (ng (objs i)) nx):aP P N pn b Q m h nx0:=by
 obtain⟨base,⟨hbs,hb,H⟩,hbm⟩:=wC H (fun i v q=>by cases q)
 refine⟨fun fr hl R=>?_⟩
 have hall: ∀ i j v,Fm.get j (vars i++base)=some v->T.lt nx v.aF=true/\j<N:=fun i j v q=>by
  rcases get_append q with q|q
  ·exact qA (hv i) q
  ·exact qA hb q
 have wk: ∀ (i:ι) (nw:List Nat) (m':Fm) (h':Hz) (s':AS),s'.fr.length=N->Rp m' s'.fr->s'.hp=h'.aj->s'.pin=pn->iL (dR (objs i) nw) m' (vars i)->iL (dR (objs i) nw) m' base->okR (dR (objs i) nw) nx pn h' (objs i) nw ->
   Wk ⟨qX N (vars i++base),(ng (objs i)).aj,nx,pn⟩ s':=by
  intro i nw m' h' s' a1 a2 a3 a4 a5 a6 a7
  obtain⟨fr',hp',nx',pn'⟩:=s'
  simp only at a1 a2 a3 a4
  subst a3; subst a4
  rw[<- vw a7]
  have e:zo (vk (objs i) nw)=dR (objs i) nw:=funext fun _=>Ba
  refine Wk.objs (vk (objs i) nw) (zk a1 a2 fun j v q=>?_) (yM fun j v q=>(hall i j v q).1) hp (by rw[e]; exact FI a7)
  rw[e]
  rcases get_append q with q|q
  ·exact nU a5 q
  ·exact nU a6 q
 refine vP.rule (fun i=>⟨qX N (vars i++base),(ng (objs i)).aj,nx,pn⟩) inv μ i0 h0 (wk i0 O6 m h _ hl R rfl rfl he hbs ho) ?_
 intro i hi
 have:=oQ (P:=P) (N:=N) (pn:=pn) (s:=⟨qX N (vars i++base),(ng (objs i)).aj,nx,pn⟩) hd uf (yL fun j v q=>(hall i j v q).2) rfl rfl (H i hi)
 refine lq ?_ this
 rintro e s' ⟨m',h',a1,a2,a3,a4,a5⟩
 cases e with
 |normal =>
  obtain⟨j,nw,b1,b2,b3,b4,b5⟩:=a5.ok
  exact⟨j,⟨b1,b2⟩,wk j nw m' h' s' a1 a2 a3 a4 b3 b4 b5⟩
 |exit j=>exact⟨m',h',a1,a2,a3,a4,a5⟩
 |ret=>exact⟨m',h',a1,a2,a3,a4,a5⟩
end
section
variable {P:Program}
def Pm(Z:Nat->Prop)(h:Hz):Hz->Prop
 |[]=>True
 |(_,none)::r=>Pm Z h r
 |(i,some o)::r=>(∃ o',h.get i=some o'/\ ¬ Z i/\o'.ay.ty=o.ay.ty/\o'.ay.k=o.ay.k/\T.dG Z h.aj o.ay.l o'.ay.l/\o.ay.l.map T.kd=o'.ay.l.map T.kd/\o.ay.l.map fJ=o'.ay.l.map fJ)/\Pm Z h r
def Frz(h h2:Hz):Prop:= ∃ Z,Pm Z h h2
theorem AU{Z:Nat->Prop}{h:Hz}: ∀ {h2:Hz},Pm Z h h2-> ∀ {i:Nat} {o:OV},h2.get i=some o-> ∃ o',h.get i=some o'/\ ¬ Z i/\o'.ay.ty=o.ay.ty/\o'.ay.k=o.ay.k/\T.dG Z h.aj o.ay.l o'.ay.l/\o.ay.l.map T.kd=o'.ay.l.map T.kd/\o.ay.l.map fJ=o'.ay.l.map fJ:=by
 intro h2
 induction h2 with
 |nil=>intro _ i o e; cases e
 |cons p r ih =>
  obtain⟨j,u⟩:=p
  intro hf i o e
  simp only[Hz.get] at e
  cases u with
  |none =>
   cases hb:Nat.beq j i with
   |true=>rw[hb] at e; cases e
   |false=>rw[hb] at e; exact ih hf e
  |some u =>
   cases hb:Nat.beq j i with
   |true=>rw[hb] at e; cases e; rw[<- eF hb]; exact hf.1
   |false=>rw[hb] at e; exact ih hf.2 e
theorem Frz.wk{s _s1:AS}{fr:List T}{h h2:Hz}{nx pn:Nat}(f:Frz h h2)(w:Wk s ⟨fr,h2.aj,nx,pn⟩):Wk s ⟨fr,h.aj,nx,pn⟩:=by
 obtain⟨Z,f⟩:=f
 obtain⟨s1,w1,w2⟩:=w
 have F:WZ Z ⟨fr,h2.aj,nx,pn⟩ ⟨fr,h.aj,nx,pn⟩:=by
  refine⟨aW _,fun i ob hi=>?_,rfl,rfl⟩
  simp only[Hz.aj,Option.map_eq_some_iff] at hi
  obtain⟨o,e1,rfl⟩:=hi
  obtain⟨o',a1,a2,a3,a4,a5,a6,a7⟩:=AU f e1
  exact⟨o'.ay,aO a1,a2,a3,a4,a5,a6,a7⟩
 exact⟨s1,w1.trans (.fz F (.refl _)),w2⟩
structure adV{ι:Type}(inv:ι->Prop)(μ:ι->Nat)(vars:ι->Fm)(objs:ι->List (Nat×OV))(base:Fm)(nx pn:Nat)(i:ι)(m:Fm)(h:Hz):Prop where
 ok: ∃ h2 j nw,Frz h h2/\inv j/\μ j<μ i/\iL (dR (objs j) nw) m (vars j)/\iL (dR (objs j) nw) m base/\okR (dR (objs j) nw) nx pn h2 (objs j) nw
theorem aP.acR{N pn nx0:Nat}(nx:Nat){b:fF}{Q:Qz}{m:Fm}{h:Hz}{ι:Type}(live:List Nat)(vars:ι->Fm)(objs:ι->List (Nat×OV))(inv:ι->Prop)(μ:ι->Nat)(i0:ι)(O6:List Nat)(h2:Hz)(hd:oP N b=true)(hp:pn<=nx)(hv: ∀ i,UQ nx N (vars i)=true)(h0:inv i0)
  (he:iL (dR (objs i0) O6) m (vars i0)) (hf:Frz h h2) (ho:okR (dR (objs i0) O6) nx pn h2 (objs i0) O6)
  (H:Et m live [] fun base=>iL (dR (objs i0) O6) m base/\UQ nx N base=true/\ ∀ i,inv i->az P N pn b (fun e m' h' n'=>match e with
   | .normal=>adV inv μ vars objs base nx pn i m' h'
   |e=>Q e m' h' n') (vars i++base) (ng (objs i)) nx):aP P N pn b Q m h nx0:=by
 obtain⟨base,⟨hbs,hb,H⟩,hbm⟩:=wC H (fun i v q=>by cases q)
 refine⟨fun fr hl R=>?_⟩
 have hall: ∀ i j v,Fm.get j (vars i++base)=some v->T.lt nx v.aF=true/\j<N:=fun i j v q=>by
  rcases get_append q with q|q
  ·exact qA (hv i) q
  ·exact qA hb q
 have wk: ∀ (i:ι) (nw:List Nat) (m':Fm) (h' h2':Hz) (s':AS),s'.fr.length=N->Rp m' s'.fr->s'.hp=h'.aj->s'.pin=pn->Frz h' h2'->iL (dR (objs i) nw) m' (vars i)->iL (dR (objs i) nw) m' base->okR (dR (objs i) nw) nx pn h2' (objs i) nw ->
   Wk ⟨qX N (vars i++base),(ng (objs i)).aj,nx,pn⟩ s':=by
  intro i nw m' h' h2' s' a1 a2 a3 a4 af a5 a6 a7
  obtain⟨fr',hp',nx',pn'⟩:=s'
  simp only at a1 a2 a3 a4
  subst a3; subst a4
  refine af.wk (_s1:=⟨fr',h2'.aj,nx',pn'⟩) ?_
  rw[<- vw a7]
  have e:zo (vk (objs i) nw)=dR (objs i) nw:=funext fun _=>Ba
  refine Wk.objs (vk (objs i) nw) (zk a1 a2 fun j v q=>?_) (yM fun j v q=>(hall i j v q).1) hp (by rw[e]; exact FI a7)
  rw[e]
  rcases get_append q with q|q
  ·exact nU a5 q
  ·exact nU a6 q
 refine vP.rule (fun i=>⟨qX N (vars i++base),(ng (objs i)).aj,nx,pn⟩) inv μ i0 h0 (wk i0 O6 m h h2 _ hl R rfl rfl hf he hbs ho) ?_
 intro i hi
 have:=oQ (P:=P) (N:=N) (pn:=pn) (s:=⟨qX N (vars i++base),(ng (objs i)).aj,nx,pn⟩) hd uf (yL fun j v q=>(hall i j v q).2) rfl rfl (H i hi)
 refine lq ?_ this
 rintro e s' ⟨m',h',a1,a2,a3,a4,a5⟩
 cases e with
 |normal =>
  obtain⟨h2',j,nw,bf,b1,b2,b3,b4,b5⟩:=a5.ok
  exact⟨j,⟨b1,b2⟩,wk j nw m' h' h2' s' a1 a2 a3 a4 bf b3 b4 b5⟩
 |exit j=>exact⟨m',h',a1,a2,a3,a4,a5⟩
 |ret=>exact⟨m',h',a1,a2,a3,a4,a5⟩
theorem xX{Z:Nat->Prop}{h:Hz}{i:Nat}{o:OV}(e:h.get i=some o)(hz: ¬ Z i): ∃ o',h.get i=some o'/\ ¬ Z i/\o'.ay.ty=o.ay.ty/\o'.ay.k=o.ay.k/\T.dG Z h.aj o.ay.l o'.ay.l/\o.ay.l.map T.kd=o'.ay.l.map T.kd/\o.ay.l.map fJ=o'.ay.l.map fJ :=
 ⟨o,e,hz,rfl,rfl,aW _,rfl,rfl⟩
end
section
variable {P:Program}
theorem MZ{t:T}(q:t.free=true)(ρ:Nat->Nat):t.ren ρ=t:=by
 have:T.bQ ρ [t]=[t]:=uD _ ⟨dY q,trivial⟩
 simpa [T.bQ] using this
structure aeT(o0 o1:OV)(v:V)(h:Hz):Prop where
 ok: ∃ a b o0',v= .ptr a 0 0/\a≠b/\h.get a=some o0'/\o0.ay.ren (fun i=>bif Nat.beq i 0 then a else b)=o0'.ay/\h.get b=some o1
end
section
variable {P:Program}
def Sz(ρ:Nat->Nat)(h:Hz):Hz->Prop
 |[]=>True
 |(_,none)::r=>Sz ρ h r
 |(i,some o)::r=>(∃ o',h.get (ρ i)=some o'/\o.ay.ren ρ=o'.ay)/\Sz ρ h r
theorem UU{ρ:Nat->Nat}{h:Hz}: ∀ {pre:Hz},Sz ρ h pre-> ∀ {i:Nat} {o:OV},pre.get i=some o-> ∃ o',h.get (ρ i)=some o'/\o.ay.ren ρ=o'.ay:=by
 intro pre
 induction pre with
 |nil=>intro _ i o e; cases e
 |cons p r ih =>
  obtain⟨j,u⟩:=p
  intro hf i o e
  simp only[Hz.get] at e
  cases u with
  |none =>
   cases hb:Nat.beq j i with
   |true=>rw[hb] at e; cases e
   |false=>rw[hb] at e; exact ih hf e
  |some u =>
   cases hb:Nat.beq j i with
   |true=>rw[hb] at e; cases e; rw[<- eF hb]; exact hf.1
   |false=>rw[hb] at e; exact ih hf.2 e
def XU(σ:Nat->Nat)(hp:Hp):Nat->List (Option OV)->Prop
 |_,[]=>True
 |i,r::rs=>r.map OV.ay=(hp i).map (Ob.ren σ)/\XU σ hp (i+1) rs
theorem UW{σ:Nat->Nat}{hp:Hp}: ∀ {rs:List (Option OV)} {i k:Nat},XU σ hp i rs->k<rs.length->(rs.getD k none).map OV.ay=(hp (i+k)).map (Ob.ren σ):=by
 intro rs
 induction rs with
 |nil=>intro i k _ hk; cases hk
 |cons r rs ih =>
  intro i k ha hk
  cases k with
  |zero=>exact ha.1
  |succ k =>
   have:=@ih (i+1) k ha.2 (Nat.lt_of_succ_lt_succ hk)
   rw[List.getD_cons_succ,this,Nat.succ_add_eq_add_succ]
def QG:List Nat->List (Option OV)->Hz->Hz
 |k::ks,r::rs,h=>(k,r)::QG ks rs h
 |_,_,h=>h
theorem XV{h:Hz}{a:Nat}: ∀ {ks:List Nat} {rs:List (Option OV)},a ∉ ks->(QG ks rs h).aj a=h.aj a:=by
 intro ks
 induction ks with
 |nil=>intro rs _; rfl
 |cons k ks ih =>
  intro rs ha
  cases rs with
  |nil=>rfl
  |cons r rs =>
   simp only[List.mem_cons,not_or] at ha
   show Hz.aj ((k,r)::QG ks rs h) a=_
   rw[wE,if_neg ha.1,ih ha.2]
theorem aac{h:Hz}: ∀ {ks:List Nat} {rs:List (Option OV)} {i:Nat},ks.length=rs.length->ks.Nodup->i<ks.length->(QG ks rs h).aj (ks.getD i 0)=(rs.getD i none).map OV.ay:=by
 intro ks
 induction ks with
 |nil=>intro rs i _ _ hi; cases hi
 |cons k ks ih =>
  intro rs i hl hn hi
  cases rs with
  |nil=>cases hl
  |cons r rs =>
   cases i with
   |zero=>show Hz.aj ((k,r)::QG ks rs h) k=_; rw[wE,if_pos rfl]; rfl
   |succ i =>
    have hi':i<ks.length:=Nat.lt_of_succ_lt_succ hi
    rw[List.nodup_cons] at hn
    have hne:ks.getD i 0≠k:=fun e=>hn.1 (by rw[<- e,show ks.getD i 0=ks[i] by simp[hi']]; exact List.getElem_mem hi')
    show Hz.aj ((k,r)::QG ks rs h) (ks.getD i 0)=_
    rw[wE,if_neg hne]
    exact ih (Nat.succ.inj hl) hn.2 hi'
theorem UY{is:List Nat}{n i:Nat}:(is++[n]).getD i 0=if i=is.length then n else if i<is.length then is.getD i 0 else 0:=by
 by_cases h:i<is.length
 ·rw[if_neg (by omega),if_pos h]; simp[List.getD_eq_getElem?_getD,List.getElem?_append_left h]
 ·by_cases e:i=is.length
  ·subst e; simp
  ·rw[if_neg e,if_neg h]; simp[List.getD_eq_getElem?_getD,List.getElem?_eq_none (by simp; omega:(is++[n]).length<=i)]
theorem ah.J5{f:FuncId}{ts args:List V}{h pre:Hz}{m n:Nat}{K:V->Hz->Prop}{KW:Nat->V->Hz->Prop}{post:T->Hp->Prop}(is:List Nat)(H:aT P f (V.aS ts) pre.aj m post)(hm:is.length=m)
  (ha:T.bQ (is.getD · 0) (V.aS ts)=V.aS args) (hid:T.LZ m (V.aS ts)=true) (hg:Eu m pre=true) (hall:((List.range m).all fun i=>(pre.get i).isSome)=true) (hpl:Sz (is.getD · 0) h pre) (_hn:h.get n=none) (nd:(is++[n]).Nodup)
  (hK: ∀ t hp,post t hp-> ∃ v rs,rs.length=m+1/\t.ren (nameAt (is.getD · 0) m n)=v.aF/\XU (nameAt (is.getD · 0) m n) hp 0 rs/\K v (QG (is++[n]) rs h)):ah P false none f args h n K KW:=by
 have hG:=Cj hg
 have hlt: ∀ i,i<m->(pre.aj i).isSome=true:=fun i hi=>by
  rw[List.all_eq_true] at hall
  have:=hall i (List.mem_range.2 hi)
  simpa [Hz.aj] using this
 have hsome: ∀ i,(pre.aj i).isSome=true->i<m:=fun i hi=>by
  obtain⟨ob,hob⟩:=Option.isSome_iff_exists.1 hi
  exact(hG i ob hob).1
 have hnm: ∀ i,i<=m->nameAt (is.getD · 0) m n i=(is++[n]).getD i 0:=fun i hi=>by
  rw[UY,hm]
  unfold nameAt
  by_cases e:i=m
  ·rw[if_pos e,if_pos e]
  ·rw[if_neg e,if_neg e,if_pos (by omega)]
 have hlen:(is++[n]).length=m+1:=by rw[List.length_append,hm]; rfl
 have hinj: ∀ i j,i<=m->j<=m->nameAt (is.getD · 0) m n i=nameAt (is.getD · 0) m n j->i=j:=fun i j hi hj e=>by
  rw[hnm i hi,hnm j hj] at e
  have hi':i<(is++[n]).length:=by omega
  have hj':j<(is++[n]).length:=by omega
  rw[show(is++[n]).getD i 0=(is++[n])[i] from by rw[List.getD_eq_getElem?_getD,List.getElem?_eq_getElem hi']; rfl,show(is++[n]).getD j 0=(is++[n])[j] from by rw[List.getD_eq_getElem?_getD,List.getElem?_eq_getElem hj']; rfl] at e
  have hpw:=List.pairwise_iff_getElem.1 nd
  rcases Nat.lt_trichotomy i j with q|q|q
  ·exact absurd e (hpw i j hi' hj' q)
  ·exact q
  ·exact absurd e.symm (hpw j i hj' hi' q)
 have hD: ∀ i,((pre.aj i).isSome=true\/i=m)->i<=m:=fun i hi=>hi.elim (fun q=>Nat.le_of_lt (hsome i q)) (fun q=>by omega)
 have inj: ∀ i j,((pre.aj i).isSome=true\/i=m)->((pre.aj j).isSome=true\/j=m)->nameAt (is.getD · 0) m n i=nameAt (is.getD · 0) m n j->i=j:=fun i j hi hj e=>hinj i j (hD i hi) (hD j hj) e
 have hne: ∀ i,i<m->nameAt (is.getD · 0) m n i=is.getD i 0:=fun i hi=>if_neg (by omega)
 refine ah.heap (post:=fun t' h'=> ∃ t h1,post t h1/\t'=t.ren (nameAt (is.getD · 0) m n)/\h'=placed (is.getD · 0) m n pre.aj h.aj h1) ?_ ?_
 ·rw[<- ha]
  refine aT.place H (T.aA hlt _ (Ci hid)) (fun a ob hob=>⟨T.aA hlt _ (hG a ob hob).2.1,(hG a ob hob).2.2⟩) ?_ (fun a ob hob=>?_) (fun i j hi hj e=>hinj i j (Nat.le_of_lt (hsome i hi)) (Nat.le_of_lt (hsome j hj)) (by rw[hne i (hsome i hi),hne j (hsome j hj)]; exact e))
  ·cases e:pre.aj m with
   |none=>rfl
   |some ob=>have:=(hG m ob e).1; omega
  ·simp only[Hz.aj,Option.map_eq_some_iff] at hob
   obtain⟨o,e1,rfl⟩:=hob
   obtain⟨o',a1,a2⟩:=UU hpl e1
   rw[aO a1,<- a2]
 ·rintro t' h' ⟨t,h1,hp,rfl,rfl⟩
  obtain⟨v,rs,hr,hv,hat,hk⟩:=hK t h1 hp
  refine⟨v,_,hv,?_,hk⟩
  funext a
  by_cases he: ∃ i,i<=m/\(is++[n]).getD i 0=a
  ·obtain⟨i,hi,rfl⟩:=he
   rw[aac (by omega) nd (by omega),UW hat (by omega),Nat.zero_add,<- hnm i hi]
   have hin:(pre.aj i).isSome=true\/i=m:=by
    by_cases e:i=m
    ·exact .inr e
    ·exact .inl (hlt i (by omega))
   exact DR (h:=h.aj) (h1:=h1) inj hin
  ·have hoff:a ∉ is++[n]:=fun hmem=>by
    obtain⟨i,hi,e⟩:=List.getElem_of_mem hmem
    exact he ⟨i,by omega,by rw[List.getD_eq_getElem?_getD,List.getElem?_eq_getElem hi]; exact e⟩
   rw[XV hoff]
   exact GZ (fun⟨i,hi,e⟩=>he ⟨i,hD i hi,by rw[<- hnm i (hD i hi)]; exact e⟩)
end
section
variable {P:Program}
structure Dfr where
 d:Nat
 g:FuncId
 x:Nat
 y:Nat
def adW:List Oper->Option Dfr
 |[o1,o2]=>match o1.op,o1.dst,o1.guard,o2.op,o2.dst,o2.guard with
  | .makeFunc (.func g) ⟨[]⟩ ⟨[.tmp x,.tmp y]⟩,some d,none,.defer ⟨.value (.tmp e),⟨[]⟩,⟨[]⟩⟩,none,none=>bif Nat.beq d e then some ⟨d,g,x,y⟩ else none
  |_,_,_,_,_,_=>none
 |_=>none
def XW(P:Program):Code->Option (fF×Dfr×fF)
 | .seq (.region id ops false) c=>match adW ops.toList with
  |some i=>(comp P c).map fun b=>(.skip,i,b)
  |none=>match comp P (.region id ops false),XW P c with
   |some a,some (a',i,b)=>some (.seq a a',i,b)
   |_,_=>none
 | .seq a c=>match comp P a,XW P c with
  |some a,some (a',i,b)=>some (.seq a a',i,b)
  |_,_=>none
 |_=>none
def aad(P:Program)(f:FuncId)(ts:List T)(h:Hp)(n:Nat)(post:Hp->Prop):Prop :=
 ∀ (F:Fr P) (M:Nat->Prop) (E:Env) (vs:List Value),oh F E->E.h=h->bG E ts vs->T.aN M ts->lC M h-> ¬ M n ->
  CallsD P f vs.toArray .returning E.w fun e u w'=>u= .returning/\Ends F M E n (fun _ h'=>post h') e w'
structure aeU(P:Program)(f:FuncId)(a b:fF)(i:Dfr)(rs:List RV)(nt:Nat):Prop where
 ex: ∃ fn c,P.funcs[f]? =some fn/\fn.body=some c/\XW P c=some (a,i,b)/\lg P fn.results.toList=some rs/\fn.ntmps=nt
 cl:callable P f
 dst:(oP nt a&&oP nt b&&Nat.blt i.d nt)=true
structure ae8(P:Program)(g:FuncId)(us:List V)(h:Hz)(nx pn:Nat)(K:Hz->Prop):Prop where
 ok:T.LZ pn (V.aS us)=true/\aad P g (V.aS us) h.aj nx fun hp=> ∃ h':Hz,hp=h'.aj/\K h'
theorem aT.frz{f:FuncId}{ts ts2:List T}{h h2:Hp}{n:Nat}{post:T->Hp->Prop}(Z:Nat->Prop)(H:aT P f ts2 h2 n post)(hs:T.dG Z h ts2 ts)
  (ho: ∀ i ob,h2 i=some ob-> ∃ ob',h i=some ob'/\ ¬ Z i/\ob'.ty=ob.ty/\ob'.k=ob.k/\T.dG Z h ob.l ob'.l/\ob.l.map T.kd=ob'.l.map T.kd/\ob.l.map fJ=ob'.l.map fJ):aT P f ts h n post:=by
 obtain⟨h1,hcl,hcall⟩:=H
 refine⟨h1,hcl,fun F M E vs hk he hrep hid hm hn=>?_⟩
 subst he
 have UD: ∀ i ob,h2 i=some ob-> ∃ ob',E.h (id i)=some ob'/\ ¬ Z (id i)/\Jg Z E.h id ob ob':=fun i ob hi=>by
  obtain⟨ob',a1,a2,a3,a4,a5,a6,a7⟩:=ho i ob hi
  refine⟨ob',a1,a2,a3,a4,by rw[BU]; exact a5,?_⟩
  have hkd:=(hk.obs i ob' a1).1.kinds
  rw[<- a4]
  rcases hkd with ⟨g1,g2⟩|⟨g1,g2⟩
  ·exact .inl ⟨g1,Oj a7 g2⟩
  ·exact .inr ⟨g1,Jt a6 g2⟩
 let E2:Env:=(E.shut Z).ren id h2
 have hk2:oh F E2:=hk.ren UD fun i j _ _ e=>e
 have hl: ∀ i,(h2 i).isSome=true->((E.shut Z).h (id i)).isSome=true:=fun i hi=>by
  obtain⟨ob,hob⟩:=Option.isSome_iff_exists.1 hi
  obtain⟨ob',b1,b2,_⟩:=UD i ob hob
  rw[xg b2,b1]; rfl
 have adX:bG E2 ts2 vs:=by
  have e:T.bQ id ts2=ts2:=BU ts2
  have:=pY hk _ _ hs _ hrep
  rw[<- e] at this
  exact vZ hl _ _ this
 refine(hcall F M E2 vs hk2 rfl adX (qP _ _ hs hid) (fun i ob hi=>?_) hn).mono ?_
 ·obtain⟨ob',a1,_,_,_,a5,_⟩:=ho i ob hi
  exact⟨(hm i ob' a1).1,qP _ _ a5 (hm i ob' a1).2⟩
 ·rintro e w' ⟨v,t,E',rfl,rfl,r3,r4,r5,r6,r7,r8,r9⟩
  refine⟨v,t,E',rfl,rfl,r3,r4,r5,⟨fun g hg=>r6.s g (.inl hg),fun g hg=>r6.w g (hg.imp .inl id),r6.size,r6.os,r6.tape,r6.output,r6.dr⟩,fun i hi hsome=>?_,r8,r9⟩
  obtain⟨q1,q2,q3⟩:=r7 i hi hsome
  obtain⟨ob,hob⟩:=Option.isSome_iff_exists.1 q1
  obtain⟨ob',a1,_⟩:=ho i ob hob
  exact⟨by rw[a1]; rfl,q2,q3⟩
theorem ah.frz{f:FuncId}{args:List V}{h h2:Hz}{n:Nat}{K:V->Hz->Prop}{KW:Nat->V->Hz->Prop}(Z:Nat->Prop)(F:Pm Z h h2)(H:aT P f (V.aS args) h2.aj n fun t hp=> ∃ v h',t=v.aF/\hp=Hz.aj h'/\K v h'):ah P false none f args h n K KW:=by
 refine⟨.inl ?_⟩
 refine aT.frz Z (aT.mono H fun t hp ⟨v,h',a,b,c⟩=>⟨v,h',a,b,(fun e=>by cases e),c⟩) (aW _) fun i ob hi=>?_
 simp only[Hz.aj,Option.map_eq_some_iff] at hi
 obtain⟨o,e1,rfl⟩:=hi
 obtain⟨o',a1,a2,a3,a4,a5,a6,a7⟩:=AU F e1
 exact⟨o'.ay,aO a1,a2,a3,a4,a5,a6,a7⟩
theorem ah.aae{f:FuncId}{args args':List V}{res:V}{h h2:Hz}{n:Nat}{K:V->Hz->Prop}{KW:Nat->V->Hz->Prop}(Z:Nat->Prop)(F:Pm Z h h2)(S:au P f args' res)(hs:T.dG (fun _=>True) h2.aj (V.aS args') (V.aS args))(hh:res.aF.hard=true)(hK:K res h2):ah P false none f args h n K KW :=
 ah.frz Z F (uT.lend S hs hh (fun _ e=>by cases e) ⟨res,h2,rfl,rfl,hK⟩)
end
section
variable {P:Program}
theorem aaf{w w':World}(hh: ∀ g,g<w.heap.size->w'.heap[g]? =w.heap[g]?)(hs:w.heap.size<=w'.heap.size)(ho:w'.os=w.os)(ht:w'.tape=w.tape)(hp:w'.output=w.output)(hd:w.drawn<=w'.drawn) :
  ∃ q os,w'=Sort.grow (w.drewN q) os:=by
 refine⟨w'.drawn-w.drawn,w'.heap.extract w.heap.size w'.heap.size,?_⟩
 obtain⟨h1,t1,d1,o1,p1⟩:=w
 obtain⟨h2,t2,d2,o2,p2⟩:=w'
 simp only at hh hs ho ht hp hd
 subst ho ht hp
 simp only[Sort.grow,World.drewN]
 congr 1
 ·apply Array.ext_getElem?
  intro i
  rw[Array.getElem?_append]
  split
  ·rename_i hi; rw[hh i hi]
  ·rename_i hi
   simp only[Array.getElem?_extract]
   by_cases hi2:i<h2.size
   ·rw[if_pos (by omega)]
    congr 1; omega
   ·rw[Array.getElem?_eq_none (by omega),if_neg (by omega)]
 ·omega
def El(E:Env)(l:List T)(k:Nat):Type:= {p:T×List Value // p.1∈l/\aK E p.1 p.2/\p.2.length=k/\ ∀ v∈p.2,v.oneCell'=true}
theorem QH{E:Env}{k:Nat}: ∀ {l:List T} {vs:List Value},l.length*aY k<=vs.length->(∀ j t,l[j]? =some t->t.kd=k/\(∀ v∈(vs.drop (j*aY k)).take (aY k),v.oneCell'=true)/\aK E t ((vs.drop (j*aY k)).take (aY k)))->aC E k l vs:=by
 intro l
 induction l with
 |nil=>intro vs _ _; trivial
 |cons t ts ih =>
  intro vs hl H
  simp only[List.length_cons,Nat.add_mul,Nat.one_mul] at hl
  obtain⟨h1,h2,h3⟩:=H 0 t rfl
  simp only[Nat.zero_mul,List.drop_zero] at h2 h3
  refine⟨h1,by omega,h2,h3,ih (by simp; omega) fun j u hj=>?_⟩
  have:=H (j+1) u (by simpa using hj)
  rw[List.drop_drop]
  rw[Nat.add_mul,Nat.one_mul,Nat.add_comm (j*aY k)] at this
  exact this
theorem QI{w:World}{g:Nat}{cur:Array Value}{ty:TypeId}(h:w.heap[g]? =some (.cells cur ty (0,0)))(off:Nat):w.frozen? ⟨g,off,none⟩=false:=by
 simp[World.frozen?,h]
open Go.Proofs in
set_option maxHeartbeats 1000000 in
theorem aT.sort{ρ:Shelf.Ren}(L:SlLaysF0.n6 P ρ)(k:Nat)(hk0:0<k)(aE: ∀ w,(isAgg (ρ.t 24)).run P w= .ok true w)(zE: ∀ w,(Go.sizeOf (ρ.t 24)).run P w= .ok k w)(hcl:callable P (ρ.f 6))
  {g:Nat} (hg:g<4096) (hgc:callable P g) {l:List T} (hne:l≠[]) (hkd: ∀ t∈l,t.kd=k+1) (hfree:T.cZ l=true) (hlen:l.length<4611686018427387904) (cf:T->T->Int)
  (aeI: ∀ x∈l,¬ cf x x<0) (htr: ∀ x∈l,∀ y∈l,∀ z∈l,cf x y<0->cf y z<0->cf x z<0) (hnt: ∀ x∈l,∀ y∈l,∀ z∈l,¬ cf x y<0-> ¬ cf y z<0-> ¬ cf x z<0)
  (hc: ∀ x∈l,∀ y∈l,sU P g [x,y] (.int (cf x y))) (hkm:k+1≠eP) (hex: ∃ l':List T,l'.Perm l/\l'.Pairwise (fun a b=> ¬ cf b a<0)) {h:Hp} {i ty n:Nat} (hi:h i=some ⟨ty,k+1,l⟩) :
  aT P (ρ.f 6) [.own i,.fn g []] h n fun t h'=>t= .fU []/\ ∃ l',l'.Perm l/\l'.Pairwise (fun a b=> ¬ cf b a<0)/\h'=upd h i (some ⟨ty,k+1,l'⟩):=by
 refine⟨?_,hcl,fun F M E vs hk he hts hid hm hn=>?_⟩
 ·obtain⟨l',h1,h2⟩:=hex
  exact⟨_,_,rfl,l',h1,h2,rfl⟩
 subst he
 simp only[bI] at hts
 obtain⟨v0,r0,rfl,hv0,v1,r1,rfl,hv1,hnil⟩:=hts
 simp only[bG] at hnil
 subst hnil
 rw[ak rfl] at hv0 hv1
 simp only[aK] at hv0 hv1
 obtain⟨u0,hu0,hlive⟩:=hv0
 obtain⟨cs,hu1,hcs⟩:=hv1
 simp only[aV] at hcs
 have aeJ:v0=E.φ i:=by have:=hlive (by rw[hi]; rfl); simp only[List.cons.injEq,and_true] at hu0; rw[hu0,this]
 have hcs':cs= #[]:=Array.eq_empty_of_size_eq_zero (by simpa using congrArg List.length hcs)
 have aeK:v1= .func (.func g) #[] #[]:=by simp only[List.cons.injEq,and_true] at hu1; rw[hu1,hcs',KF hg]
 obtain⟨hob,CZ,hsz⟩:=hk.obs i _ hi
 have hrow:=hob.row hkm
 rcases hrow with ⟨a,_,hl0⟩|⟨b,c,cur,hφ,hlc,hcm,hcell,hcsz,hrr⟩
 ·exact absurd hl0 hne
 simp only at hφ hlc hcell hcsz hrr
 have Ul:aY (k+1)=k:=rfl
 rw[Ul] at hcsz
 have hrb:rowB (E.φ i)=some b:=by rw[hφ]; rfl
 obtain⟨hbS,hbF⟩:=hk.out i _ b hi hrb
 have hblt:b<E.w.heap.size:=hob.lt hrb
 subst aeJ aeK
 have hlen0:0<l.length:=List.length_pos_iff.2 hne
 have hcur:l.length*k<=cur.toList.length:=by
  have:=yw hrr; rw[Ul] at this; exact this
 have hget: ∀ j t,l[j]? =some t->aK E t ((cur.toList.drop (j*k)).take k)/\((cur.toList.drop (j*k)).take k).length=k/\ ∀ v∈(cur.toList.drop (j*k)).take k,v.oneCell'=true:=by
  intro j t hj
  obtain⟨hjl,rfl⟩:=List.getElem?_eq_some_iff.1 hj
  have:=qL hrr hjl
  rw[Ul] at this
  obtain⟨h1,h2,h3,h4⟩:=this
  have hle:j*k+k<=cur.toList.length:=by
   have:(j+1)*k<=l.length*k:=Nat.mul_le_mul_right _ hjl
   rw[Nat.add_mul,Nat.one_mul] at this; omega
  have hlen':((cur.toList.drop (j*k)).take k).length=k:=by rw[List.length_take,List.length_drop]; omega
  have e:l.getD j .any=l[j]:=by simp[hjl]
  rw[e] at h4
  exact⟨h4,hlen',h3⟩
 let aag:(j:Fin l.length)->El E l k:=fun j=>⟨(l[j],(cur.toList.drop (j*k)).take k),List.getElem_mem j.2,(hget j l[j] (List.getElem?_eq_getElem j.2)).1,(hget j l[j] (List.getElem?_eq_getElem j.2)).2.1,(hget j l[j] (List.getElem?_eq_getElem j.2)).2.2⟩
 haveI:Inhabited (El E l k):=⟨aag ⟨0,hlen0⟩⟩
 let d:Array (El E l k):=Array.ofFn aag
 have hd:d.size=l.length:=by simp[d]
 let enc:El E l k->List Value:=fun p=>p.1.2
 let cg:El E l k->El E l k->Int:=fun p q=>cf p.1.1 q.1.1
 have hO:Sort.SWO (ltOf cg):= {
  irrefl:=fun x=>by simp only[ltOf,cg]; exact decide_eq_false (aeI _ x.2.1)
  trans:=fun x y z h1 h2=>by
   simp only[ltOf,cg,decide_eq_true_eq] at h1 h2 ⊢
   exact htr _ x.2.1 _ y.2.1 _ z.2.1 h1 h2
  ntrans:=fun x y z h1 h2=>by
   simp only[ltOf,cg,decide_eq_false_iff_not] at h1 h2 ⊢
   exact hnt _ x.2.1 _ y.2.1 _ z.2.1 h1 h2}
 have henc: ∀ x:El E l k,(enc x).length=k:=fun x=>x.2.2.2.1
 have hone: ∀ x:El E l k,∀ v∈enc x,v.oneCell'=true:=fun x=>x.2.2.2.2
 have hsw: ∀ (m:Nat) (os:Array Obj) (dk:Array (El E l k)) (q:Nat),q<E.w.heap.size->q≠b->(sortWorldK enc k E.w b 0 m dk os).heap[q]? =E.w.heap[q]? :=by
  intro m os dk q hq hqb
  unfold sortWorldK
  rw[Sort.heap_grow_old _ _ (by simpa [Sort.putRowK] using hq)]
  simp only[Sort.putRowK,Sort.putRow,Sort.mapBlock,Array.getElem?_modify]
  rw[if_neg (Ne.symm hqb)]; rfl
 have hsz': ∀ (m:Nat) (os:Array Obj) (dk:Array (El E l k)),E.w.heap.size<=(sortWorldK enc k E.w b 0 m dk os).heap.size:=by
  intro m os dk
  unfold sortWorldK
  rw[Sort.size_grow]; simp[Sort.putRowK]
 have hcmp:CmpLays P g #[] enc k cg b 0 d.size E.w:=by
  intro m os dk hdk x y
  generalize hW:sortWorldK enc k E.w b 0 m dk os=W
  have hWb: ∀ q,q<E.w.heap.size->q≠b->W.heap[q]? =E.w.heap[q]? :=fun q h1 h2=>by rw[<- hW]; exact hsw m os dk q h1 h2
  have hWs:E.w.heap.size<=W.heap.size:=by rw[<- hW]; exact hsz' m os dk
  let E1:Env:= {w:=W,S:=E.S,φ:=E.φ,κ:=E.κ,h:=no}
  let F1:Fr P:= {s:=fun q=>q<W.heap.size/\ ¬ E.S q}
  have hnS: ∀ q,E.S q->q<E.w.heap.size/\q≠b:=fun q hq=>⟨hk.slt q hq,fun e=>hbS (e▸hq)⟩
  have hk1:oh F1 E1:=by
   refine⟨(fun i ob hi=>by cases hi),(fun i ob g hi=>by cases hi),(fun i j oi oj g _ hi=>by cases hi),fun q hq=>Nat.lt_of_lt_of_le (hk.slt q hq) hWs,fun q hq=>hq.1,fun q hs hq=>hq.2 hs,fun q cs hq=>?_⟩
   obtain⟨h1,ty',m',h2⟩:=hk.gl q cs hq
   have hqb:q≠b:=fun e=>hbF (e▸h1)
   refine⟨⟨Nat.lt_of_lt_of_le (hk.flt q h1) hWs,fun hs=>hk.sf q hs h1⟩,ty',m',?_⟩
   show W.heap[q]? =_
   rw[hWb q (hk.flt q h1) hqb]; exact h2
  have hkeep:Keeps E E1 (fun _=>False):=⟨fun _ h=>h,fun q hq=>hWb q (hnS q hq).1 (hnS q hq).2,fun _ hf=>hf.elim⟩
  have hrep: ∀ z:El E l k,iY E1 z.1.1 (.agg (enc z).toArray):=fun z=>by
   have hzf:z.1.1.free=true:=eG.1 hfree _ z.2.1
   have hzk:=hkd _ z.2.1
   exact .inl ⟨by rw[hzk]; exact Nat.succ_ne_zero _,(enc z).toArray,rfl,by simpa using eH _ _ hkeep (dY hzf) _ z.2.2.1⟩
  obtain⟨_,_,hcall⟩:=(hc x.1.1 x.2.1 y.1.1 y.2.1).call 0
  have:=hcall F1 (fun _=>False) E1 [.agg (enc x).toArray,.agg (enc y).toArray] hk1 rfl (by
   simp only[bI]; exact⟨_,_,rfl,hrep x,_,_,rfl,hrep y,rfl⟩) (dD (hc x.1.1 x.2.1 y.1.1 y.2.1).free) (uP _) (fun h=>h)
  refine(this.mono ?_)
  rintro e w' ⟨v,t,E2,rfl,rfl,⟨rfl,_⟩,hv,_,hext,_⟩
  have hv':v= .int .i64 (cg x y):=aJ.1 hv
  refine⟨by rw[hv'],?_⟩
  refine aaf (fun q hq=>hext.w q ?_) hext.size hext.os hext.tape hext.output hext.dr
  by_cases hs:E.S q
  ·exact .inl hs
  ·exact .inr ⟨hq,hs⟩
 have hdj: ∀ j,j<l.length->enc d[j]! =(cur.toList.drop (j*k)).take k:=by
  intro j hj
  rw[getElem!_pos d j (by rw[hd]; exact hj)]
  show(((Array.ofFn aag)[j]'(by simpa using hj)).1.2)=_
  rw[Array.getElem_ofFn]
 have hH:Sort.HoldsK enc k E.w b 0 d:=by
  intro t ht
  rw[Sort.size_flatK,hd] at ht
  refine⟨?_,QI hcell _⟩
  have hq:t / k<l.length:=Nat.div_lt_of_lt_mul (by rw[Nat.mul_comm]; exact ht)
  have hr:t % k<k:=Nat.mod_lt _ hk0
  rw[Sort.get_flatK _ _ _ _ (by rw[hd]; exact ht),hdj _ hq,Nat.zero_add]
  have hdm:t / k*k+t % k=t:=by rw[Nat.mul_comm]; exact Nat.div_add_mod t k
  have htc:t<cur.size:=by simp at hcur; omega
  have hle:t / k*k+k<=cur.toList.length:=by
   have:(t / k+1)*k<=l.length*k:=Nat.mul_le_mul_right _ hq
   rw[Nat.add_mul,Nat.one_mul] at this; omega
  have hlt:t % k<((cur.toList.drop (t / k*k)).take k).length:=by rw[List.length_take,List.length_drop]; omega
  rw[getElem!_pos ((cur.toList.drop (t / k*k)).take k) (t % k) hlt]
  simp only[World.cell?,hcell]
  rw[List.getElem_take,List.getElem_drop]
  simp[hdm,htc]
 have hcon:=AnyQ.slices_SortFunc L k aE zE enc henc hone cg hO g #[] b 0 (c+1) d E.w hgc hcmp hH hblt (by rw[hd]; exact hlen)
 have hargs:([E.φ i,Value.func (.func g) #[] #[]]:List Value).toArray= #[.slice (some ⟨b,0,none⟩) d.size (c+1),.func (.func g) #[] #[]]:=by
  rw[hφ,hd]
 rw[hargs]
 refine hcon.mono ?_
 rintro e w' ⟨rfl,d',nn,os,hperm,hsort,hw⟩
 have hd':d'.size=l.length:=by rw[hperm.1,hd]
 let l':List T:=d'.toList.map fun p=>p.1.1
 have hl':l'.length=l.length:=by simp[l',hd']
 have hdl:d.toList.map (fun p=>p.1.1)=l:=by
  apply List.ext_getElem
  ·simp[hd]
  ·intro j h1 h2
   rw[List.getElem_map]
   have hj:j<l.length:=h2
   show((Array.ofFn aag).toList[j]'(by simpa using hj)).1.1=l[j]
   rw[Array.getElem_toList,Array.getElem_ofFn]; rfl
 have hp:l'.Perm l:=by
  have:=hperm.2.2
  have e1:(d'.extract 0 d.size)=d':=by rw[hd,<- hd']; simp
  have e2:(d.extract 0 d.size)=d:=by simp
  rw[e1,e2] at this
  have:=this.map (fun p:El E l k=>p.1.1)
  rw[hdl] at this; exact this
 have hpw:l'.Pairwise (fun a b=> ¬ cf b a<0):=by
  rw[List.pairwise_iff_getElem]
  intro x y hx hy hxy
  simp only[l',List.getElem_map,Array.getElem_toList]
  have hx':x<d'.size:=by simpa [l'] using hx
  have hy':y<d'.size:=by simpa [l'] using hy
  have:=hsort x y (Nat.zero_le _) hxy (by rw[hd,<- hd']; exact hy')
  rw[getElem!_pos d' x hx',getElem!_pos d' y hy'] at this
  simpa [ltOf,cg] using this
 let F':Array Value:=Sort.flatK enc k d'
 have hF':F'.size=l.length*k:=by simp[F',hd']
 let cs':Array Value:=Sort.putCells id 0 F' cur
 have QJ:cs'.size=cur.size:=by simp[cs',Sort.putCells]
 have hcell':w'.heap[b]? =some (.cells cs' ty (0,0)):=by
  rw[hw]
  unfold sortWorldK
  rw[Sort.heap_grow_old _ _ (by simpa [Sort.putRowK] using hblt)]
  simp only[Sort.putRowK,Sort.putRow,Sort.mapBlock,Array.getElem?_modify]
  rw[if_pos trivial]
  show(E.w.heap[b]?).map _=_
  rw[hcell]; rfl
 have hold': ∀ q,q<E.w.heap.size->q≠b->w'.heap[q]? =E.w.heap[q]? :=fun q h1 h2=>by rw[hw]; exact hsw nn os d' q h1 h2
 have hsize':E.w.heap.size<=w'.heap.size:=by rw[hw]; exact hsz' nn os d'
 let E':Env:= {w:=w',S:=E.S,φ:=E.φ,κ:=E.κ,h:=upd E.h i (some ⟨ty,k+1,l'⟩)}
 have hlf:T.cZ l'=true:=by
  rw[eG] at hfree ⊢
  exact fun t ht=>hfree t (hp.mem_iff.1 ht)
 have hext:Ext F E E':=by
  refine⟨fun _ h=>h,fun q hq=>hold' q ?_ ?_,hsize',by show w'.os=_; rw[hw]; rfl,by show w'.tape=_; rw[hw]; rfl,by show w'.output=_; rw[hw]; rfl,by show _<=w'.drawn; rw[hw]; exact Nat.le_add_right _ _⟩
  ·rcases hq with hq|hq
   ·exact hk.slt q hq
   ·exact hk.flt q hq
  ·rintro rfl
   rcases hq with hq|hq
   ·exact hbS hq
   ·exact hbF hq
 have hS:Same E E' M:=by
  intro j _ hj
  refine⟨?_,rfl,rfl⟩
  by_cases hji:j=i
  ·subst hji; rw[hi]; rfl
  ·simpa [E',upd,hji] using hj
 have hK:Keeps E E' M:=.of hext hS
 have aeL:aC E' (k+1) l' cs'.toList:=by
  refine QH (by rw[Ul,hl']; simp only[Array.length_toList,QJ]; simpa using hcur) fun j t hj=>?_
  rw[Ul]
  obtain⟨hjl,rfl⟩:=List.getElem?_eq_some_iff.1 hj
  have hjx:j<d'.size:=by simpa [l'] using hjl
  have ht:l'[j]=(d'[j]'(hjx)).1.1:=by simp[l']
  have hcells:(cs'.toList.drop (j*k)).take k=enc d'[j]:=by
   have hle:j*k+k<=l.length*k:=by
    have:(j+1)*k<=l.length*k:=Nat.mul_le_mul_right _ (by rw[<- hd']; exact hjx)
    rw[Nat.add_mul,Nat.one_mul] at this; exact this
   have aeV:l.length*k<=cur.size:=by simpa using hcur
   apply List.ext_getElem
   ·rw[List.length_take,List.length_drop,henc]; simp only[Array.length_toList,QJ]; omega
   ·intro x hx1 hx2
    rw[henc] at hx2
    rw[List.getElem_take,List.getElem_drop,Array.getElem_toList]
    have hin:j*k+x<F'.size:=by rw[hF']; omega
    show(Sort.putCells id 0 F' cur)[j*k+x]'_=_
    simp only[Sort.putCells,Array.getElem_mapIdx,Nat.zero_le,true_and,Nat.zero_add,Nat.sub_zero]
    rw[if_pos hin]
    show F'[j*k+x]! =_
    show(Sort.flatK enc k d')[j*k+x]! =_
    rw[Sort.get_flatK _ _ _ _ (by rw[hd']; omega)]
    have e1:(j*k+x) / k=j:=by rw[Nat.mul_comm,Nat.mul_add_div hk0,Nat.div_eq_of_lt hx2,Nat.add_zero]
    have e2:(j*k+x) % k=x:=by rw[Nat.mul_comm,Nat.mul_add_mod,Nat.mod_eq_of_lt hx2]
    rw[e1,e2,getElem!_pos d' j hjx,getElem!_pos _ x (by rw[henc]; exact hx2)]
  rw[hcells,ht]
  refine⟨hkd _ d'[j].2.1,hone _,?_⟩
  exact eH _ _ hK (T.aX (fun _ h=>h.elim) _ (dY (eG.1 hfree _ d'[j].2.1))) _ d'[j].2.2.1
 have dQ:pU E' ⟨ty,k+1,l'⟩ (E.φ i):=by
  refine .inl ⟨hkm,.inr ⟨b,c,cs',by rw[hφ]; simp only[hl'],by simp only[hl']; exact hlc,hcm,hcell',by rw[QJ]; exact hcsz,aeL⟩⟩
 have hhm:lC M E.h:=hm
 refine⟨.tuple #[],.fU [],E',rfl,rfl,⟨rfl,l',hp,hpw,rfl⟩,?_,?_,hext,hS,by simp[T.ids,T.aN],?_⟩
 ·rw[ak rfl]; simp only[aK]; exact⟨#[],rfl,rfl⟩
 ·have hsome: ∀ j oj,E'.h j=some oj-> ∃ Xr,E.h j=some Xr:=fun j oj hj=>by
   by_cases hji:j=i
   ·subst hji; exact⟨_,hi⟩
   ·exact⟨oj,by simpa [E',upd,hji] using hj⟩
  refine⟨fun j oj hj=>?_,fun j oj q hj hq=>?_,fun j j' oj Xr q hjj hj hj' hq hq'=>?_,fun q hq=>Nat.lt_of_lt_of_le (hk.slt q hq) hsize',fun q hq=>Nat.lt_of_lt_of_le (hk.flt q hq) hsize',hk.sf,hext.gl hk⟩
  ·by_cases hji:j=i
   ·subst hji
    have:oj=⟨ty,k+1,l'⟩:=by simpa [E',upd] using hj.symm
    subst this
    exact⟨dQ,CZ,hsz⟩
   ·have hj0:E.h j=some oj:=by simpa [E',upd,hji] using hj
    obtain⟨k1,k2,k3⟩:=hk.obs j oj hj0
    refine⟨k1.keep hK (hhm j oj hj0).2 fun q hq=>hold' q (k1.lt hq) ?_,k2,k3⟩
    rintro rfl
    exact hk.sep j i oj _ q hji hj0 hi hq hrb
  ·obtain⟨Xr,hj0⟩:=hsome j oj hj
   exact hk.out j Xr q hj0 hq
  ·obtain⟨o1,h1⟩:=hsome j oj hj
   obtain⟨o2,h2⟩:=hsome j' Xr hj'
   exact hk.sep j j' o1 o2 q hjj h1 h2 hq hq'
 ·intro j oj hj
  by_cases hji:j=i
  ·subst hji
   have:oj=⟨ty,k+1,l'⟩:=by simpa [E',upd] using hj.symm
   subst this
   exact⟨.inl (hhm j _ hi).1,T.aA (fun _ h=>h.elim) _ (dD hlf)⟩
  ·have hj0:E.h j=some oj:=by simpa [E',upd,hji] using hj
   exact⟨.inl (hhm j oj hj0).1,T.aA (fun _ h=>.inl h) _ (hhm j oj hj0).2⟩
end
section
variable {P:Program}
structure gJ(ρ:Nat->Nat)(nx pn:Nat)(h h0:Hz):Prop where
 ob: ∀ c o,h0.get c=some o->c<nx/\(c<pn->ρ c=c)/\o.good nx=true/\ ∃ o',h.get (ρ c)=some o'/\o'.ay.ty=o.ay.ty/\o'.ay.k=o.ay.k/\dL (T.bQ ρ o.ay.l) o'.ay.l
 inj: ∀ c c',(h0.get c).isSome=true->(h0.get c').isSome=true->ρ c=ρ c'->c=c'
theorem Ls{h:Hz}{i:Nat}{ob:Ob}(e:h.aj i=some ob): ∃ o,h.get i=some o/\o.ay=ob:=by
 simp only[Hz.aj,Option.map_eq_some_iff] at e
 exact e
theorem gJ.wk{ρ:Nat->Nat}{nx pn nx':Nat}{h h0:Hz}(H:gJ ρ nx pn h h0)(hp:pn<=nx){fr fr':List T}(hf:T.aN (· <nx) fr)(hs: ∀ Z h,T.dG Z h (T.bQ ρ fr) fr'):Wk ⟨fr,h0.aj,nx,pn⟩ ⟨fr',h.aj,nx',pn⟩:=by
 refine⟨_,.refl _,.inr ⟨fun i=> ¬ ∃ c o,h0.get c=some o/\ρ c=i,ρ,⟨hs _ _,fun i ob hi=>?_,fun i j hi hj e=>?_,hf,fun i ob hi=>?_,rfl,hp,fun i hi hs'=>?_⟩⟩⟩
 ·obtain⟨o,e,rfl⟩:=Ls hi
  obtain⟨_,_,hg,o',e1,e2,e3,e4⟩:=H.ob i o e
  exact⟨o'.ay,aO e1,fun hz=>hz ⟨i,o,e,rfl⟩,e2,e3,e4 _ _,zV (OV.xB hg).2⟩
 ·exact H.inj i j (by simpa [Hz.aj] using hi) (by simpa [Hz.aj] using hj) e
 ·obtain⟨o,e,rfl⟩:=Ls hi
  obtain⟨h1,_,hg,_⟩:=H.ob i o e
  exact⟨h1,(OV.xB hg).1⟩
 ·obtain⟨ob,hob⟩:=Option.isSome_iff_exists.1 hs'
  obtain⟨o,e,_⟩:=Ls hob
  exact(H.ob i o e).2.1 hi
def UZ(h h2:Hz):Prop:=h2=h\/Frz h h2
theorem UZ.wk{s s1:AS}{fr:List T}{h h2:Hz}{nx pn:Nat}(f:UZ h h2)(w:Wk s ⟨fr,h2.aj,nx,pn⟩):Wk s ⟨fr,h.aj,nx,pn⟩:=by
 rcases f with rfl|f
 ·exact w
 ·exact f.wk (_s1:=s1) w
structure jM{ι:Type}(inv:ι->Prop)(μ:ι->Nat)(vars:ι->Fm)(objs:ι->Hz)(base:Fm)(nx pn:Nat)(i:ι)(m:Fm)(h:Hz):Prop where
 ok: ∃ h2 j ρ,UZ h h2/\inv j/\μ j<μ i/\iL ρ m (vars j)/\iL ρ m base/\gJ ρ nx pn h2 (objs j)
theorem aP.fam{N pn nx0:Nat}(nx:Nat){b:fF}{Q:Qz}{m:Fm}{h:Hz}{ι:Type}(live:List Nat)(vars:ι->Fm)(objs:ι->Hz)(inv:ι->Prop)(μ:ι->Nat)(i0:ι)(ρ0:Nat->Nat)(h2:Hz)(hd:oP N b=true)(hp:pn<=nx)(hv: ∀ i,UQ nx N (vars i)=true)(h0:inv i0)
  (he:iL ρ0 m (vars i0)) (hf:UZ h h2) (ho:gJ ρ0 nx pn h2 (objs i0))
  (H:Et m live [] fun base=>iL ρ0 m base/\UQ nx N base=true/\ ∀ i,inv i->az P N pn b (fun e m' h' n'=>match e with
   | .normal=>jM inv μ vars objs base nx pn i m' h'
   |e=>Q e m' h' n') (vars i++base) (objs i) nx):aP P N pn b Q m h nx0:=by
 obtain⟨base,⟨hbs,hb,H⟩,hbm⟩:=wC H (fun i v q=>by cases q)
 refine⟨fun fr hl R=>?_⟩
 have hall: ∀ i j v,Fm.get j (vars i++base)=some v->T.lt nx v.aF=true/\j<N:=fun i j v q=>by
  rcases get_append q with q|q
  ·exact qA (hv i) q
  ·exact qA hb q
 have wk: ∀ (i:ι) (ρ:Nat->Nat) (m':Fm) (h' h2':Hz) (s':AS),s'.fr.length=N->Rp m' s'.fr->s'.hp=h'.aj->s'.pin=pn->UZ h' h2'->iL ρ m' (vars i)->iL ρ m' base->gJ ρ nx pn h2' (objs i) ->
   Wk ⟨qX N (vars i++base),(objs i).aj,nx,pn⟩ s':=by
  intro i ρ m' h' h2' s' a1 a2 a3 a4 af a5 a6 a7
  obtain⟨fr',hp',nx',pn'⟩:=s'
  simp only at a1 a2 a3 a4
  subst a3; subst a4
  refine af.wk (s1:=⟨fr',h2'.aj,nx',pn'⟩) ?_
  refine a7.wk hp (yM fun j v q=>(hall i j v q).1) fun Z h=>zk a1 a2 fun j v q=>?_
  rcases get_append q with q|q
  ·exact nU a5 q
  ·exact nU a6 q
 refine vP.rule (fun i=>⟨qX N (vars i++base),(objs i).aj,nx,pn⟩) inv μ i0 h0 (wk i0 ρ0 m h h2 _ hl R rfl rfl hf he hbs ho) ?_
 intro i hi
 have:=oQ (P:=P) (N:=N) (pn:=pn) (s:=⟨qX N (vars i++base),(objs i).aj,nx,pn⟩) hd uf (yL fun j v q=>(hall i j v q).2) rfl rfl (H i hi)
 refine lq ?_ this
 rintro e s' ⟨m',h',a1,a2,a3,a4,a5⟩
 cases e with
 |normal =>
  obtain⟨h2',j,ρ,bf,b1,b2,b3,b4,b5⟩:=a5.ok
  exact⟨j,⟨b1,b2⟩,wk j ρ m' h' h2' s' a1 a2 a3 a4 bf b3 b4 b5⟩
 |exit j=>exact⟨m',h',a1,a2,a3,a4,a5⟩
 |ret=>exact⟨m',h',a1,a2,a3,a4,a5⟩
def kM(B:Nat):List (Option OV)->Hz
 |[]=>[]
 |o::r=>(B,o)::kM (B+1) r
theorem yO{c:Nat}: ∀ {L:List (Option OV)} {B:Nat},(kM B L).get c=bif Nat.ble B c then(L[c-B]?).join else none:=by
 intro L
 induction L with
 |nil=>intro B; simp[kM,Hz.get]
 |cons o r ih =>
  intro B
  simp only[kM,Hz.get]
  cases hb:Nat.beq B c with
  |true =>
   have:=eF hb; subst this
   simp[Nat.ble_self_eq_true]
  |false =>
   have hne:=Nat.ne_of_beq_eq_false hb
   simp only[cond_false]
   rw[ih]
   cases h1:Nat.ble B c with
   |false =>
    have:Nat.ble (B+1) c=false:=by
     cases h2:Nat.ble (B+1) c with
     |false=>rfl
     |true=>have:=Nat.le_of_ble_eq_true h2; have:Nat.ble B c=true:=Nat.ble_eq.mpr (by omega); rw[this] at h1; cases h1
    rw[this]; rfl
   |true =>
    have h3:=Nat.le_of_ble_eq_true h1
    have:Nat.ble (B+1) c=true:=Nat.ble_eq.mpr (by omega)
    rw[this]
    simp only[cond_true]
    have e:c-B=(c-(B+1))+1:=by omega
    rw[e]; rfl
theorem SA{L:List (Option OV)}{B j:Nat}:(kM B L).get (B+j)=(L[j]?).join:=by
 rw[yO,Nat.ble_eq.mpr (Nat.le_add_right B j),cond_true,Nat.add_sub_cancel_left]
theorem OD{L:List (Option OV)}{B c:Nat}(h:c<B\/B+L.length<=c):(kM B L).get c=none:=by
 rw[yO]
 cases hb:Nat.ble B c with
 |false=>rfl
 |true =>
  have:=Nat.le_of_ble_eq_true hb
  rcases h with h|h
  ·omega
  ·rw[cond_true,List.getElem?_eq_none (by omega)]; rfl
def Bh(pre t h:Hz):Prop:=h=pre++t
theorem Bh.nil{t:Hz}:Bh [] t t:=rfl
theorem Bh.cons{x:Nat×Option OV}{pre t h:Hz}(e:Bh pre t h):Bh (x::pre) t (x::h):=by unfold Bh at *; rw[e]; rfl
def Bg(B C:Nat):Hz->Bool
 |[]=>true
 |p::r=>(Nat.blt p.1 B||Nat.ble C p.1)&&Bg B C r
theorem Cm{B C c:Nat}(h1:B<=c)(h2:c<C){t:Hz}: ∀ {pre:Hz},Bg B C pre=true->Hz.get c (pre++t)=t.get c:=by
 intro pre
 induction pre with
 |nil=>intro _; rfl
 |cons p r ih =>
  obtain⟨k,o⟩:=p
  intro q
  simp only[Bg,Bool.and_eq_true,Bool.or_eq_true] at q
  simp only[List.cons_append,Hz.get]
  have:Nat.beq k c=false:=by
   cases hb:Nat.beq k c with
   |false=>rfl
   |true =>
    have:=eF hb
    rcases q.1 with q|q
    ·have:=Nat.blt_eq.mp q; omega
    ·have:=Nat.le_of_ble_eq_true q; omega
  rw[this,cond_false]; exact ih q.2
theorem aah{B C j:Nat}{L:List (Option OV)}{pre:Hz}{o:Option OV}(ho:Bg B C pre=true)(hC:B+L.length<=C)(hj:j<L.length):(pre++kM B (L.set j o)).aj=upd (pre++kM B L).aj (B+j) (o.map OV.ay):=by
 funext c
 simp only[Hz.aj,upd]
 by_cases hc:c=B+j
 ·subst hc
  rw[if_pos rfl,Cm (Nat.le_add_right _ _) (by omega) ho,SA,List.getElem?_set_self hj]; rfl
 ·rw[if_neg hc]
  by_cases h1:B<=c/\c<C
  ·rw[Cm h1.1 h1.2 ho,Cm h1.1 h1.2 ho,yO,yO,List.getElem?_set_ne (by omega)]
  ·have e1:(kM B L).get c=none:=OD (by omega)
   have e2:(kM B (L.set j o)).get c=none:=OD (by rw[List.length_set]; omega)
   have: ∀ (t t':Hz),t.get c=none->t'.get c=none->Hz.get c (pre++t)=Hz.get c (pre++t'):=by
    intro t t' h1 h2
    induction pre with
    |nil=>exact h1.trans h2.symm
    |cons p r ih =>
     obtain⟨k,o⟩:=p
     simp only[List.cons_append,Hz.get]
     simp only[Bg,Bool.and_eq_true] at ho
     rw[ih ho.2]
   rw[this _ _ e2 e1]
theorem CB{B C j:Nat}{L:List (Option OV)}{pre h:Hz}{o:OV}(e:Bh pre (kM B L) h)(ho:Bg B C pre=true)(hC:B+L.length<=C)(hj:L[j]? =some (some o)):h.get (B+j)=some o:=by
 have hl:j<L.length:=(List.getElem?_eq_some_iff.1 hj).1
 rw[e,Cm (Nat.le_add_right _ _) (by omega) ho,SA,hj]; rfl
theorem O4.fam{B:Nat}(C:Nat){j ty k:Nat}{L:List (Option OV)}{r:Rw}{pre h:Hz}{K:Nat->Rw->Prop}(e:Bh pre (kM B L) h)(ho:Bg B C pre=true)(hC:B+L.length<=C)(hj:L[j]? =some (some (.row ty k r [])))(hK:K k r):O4 h (B+j) K :=
 ⟨ty,k,r,CB e ho hC hj,hK⟩
theorem Kq.fam{B:Nat}(C:Nat){j x ty k:Nat}{L:List (Option OV)}{r r':Rw}{v:V}{pre h:Hz}{K:Hz->Prop}(e:Bh pre (kM B L) h)(ho:Bg B C pre=true)(hC:B+L.length<=C)(hj:L[j]? =some (some (.row ty k r [])))(hs:r.set x v=some r')(hr:r.rng x)
  (hK:K (pre++kM B (L.set j (some (.row ty k r' []))))):Kq h (B+j) x k v K :=
 ⟨ty,r,r',_,CB e ho hC hj,hs,hr,by rw[e,aah ho hC (List.getElem?_eq_some_iff.1 hj).1]; rfl,hK⟩
def nZ(B:Nat)(g f:Nat->Nat)(c:Nat):Nat:=bif Nat.ble B c then g (c-B) else f c
theorem um{B j:Nat}{g f:Nat->Nat}:nZ B g f (B+j)=g j:=by
 unfold nZ; rw[Nat.ble_eq.mpr (Nat.le_add_right B j),cond_true,Nat.add_sub_cancel_left]
theorem CG{B c:Nat}{g f:Nat->Nat}(h:c<B):nZ B g f c=f c:=by
 unfold nZ
 cases hb:Nat.ble B c with
 |false=>rfl
 |true=>have:=Nat.le_of_ble_eq_true hb; omega
theorem aai{c:Nat}{o:OV}: ∀ {l:List (Nat×OV)},(ng l).get c=some o-> ∃ p∈l,p.1=c/\p.2=o:=by
 intro l
 induction l with
 |nil=>intro h; cases h
 |cons p r ih =>
  obtain⟨k,u⟩:=p
  intro h
  have e:ng ((k,u)::r)=(k,some u)::ng r:=rfl
  rw[e] at h
  simp only[Hz.get] at h
  cases hb:Nat.beq k c with
  |true=>rw[hb] at h; cases h; exact⟨_,List.mem_cons_self,eF hb,rfl⟩
  |false =>
   rw[hb] at h
   obtain⟨p,h1,h2⟩:=ih h
   exact⟨p,List.mem_cons_of_mem _ h1,h2⟩
def ltB(B:Nat):List (Nat×OV)->Bool
 |[]=>true
 |p::r=>Nat.blt p.1 B&&ltB B r
theorem aaj{B:Nat}: ∀ {l:List (Nat×OV)},ltB B l=true-> ∀ p∈l,p.1<B:=by
 intro l
 induction l with
 |nil=>intro _ p hp; cases hp
 |cons a r ih =>
  intro q p hp
  simp only[ltB,Bool.and_eq_true] at q
  rcases List.mem_cons.1 hp with rfl|hp
  ·exact Nat.blt_eq.mp q.1
  ·exact ih q.2 p hp
theorem aak{c:Nat}{a b:Hz}{o:OV}(h:Hz.get c (a++b)=some o):a.get c=some o\/b.get c=some o:=by
 induction a with
 |nil=>exact .inr h
 |cons p r ih =>
  obtain⟨k,u⟩:=p
  simp only[List.cons_append,Hz.get] at h ⊢
  cases hb:Nat.beq k c with
  |true=>rw[hb] at h; exact .inl h
  |false=>rw[hb] at h; exact ih h
theorem zl{ρ:Nat->Nat}{nx pn:Nat}{h:Hz}: ∀ {l:List (Nat×OV)} {s:List Nat},okR ρ nx pn h l s-> ∀ {c:Nat} {o:OV},(ng l).get c=some o ->
  c<nx/\(c<pn->dR l s c=c)/\o.good nx=true/\(∃ o',h.get (dR l s c)=some o'/\o'.ay.ty=o.ay.ty/\o'.ay.k=o.ay.k/\dL (T.bQ ρ o.ay.l) o'.ay.l)/\dR l s c∈s:=by
 intro l
 induction l with
 |nil=>intro s _ c o e; cases e
 |cons p r ih =>
  obtain⟨k,u⟩:=p
  intro s q c o e
  cases s with
  |nil=>exact q.elim
  |cons n s =>
   have e0:ng ((k,u)::r)=(k,some u)::ng r:=rfl
   rw[e0] at e
   simp only[Hz.get] at e
   simp only[dR]
   cases hb:Nat.beq k c with
   |true =>
    rw[hb] at e; cases e
    have:=eF hb; subst this
    rw[Nat.beq_refl,cond_true]
    obtain⟨⟨q1,q2,_,q4,q5⟩,_⟩:=q
    exact⟨Nat.blt_eq.mp q1,fun hc=>q2 (Nat.blt_eq.mpr hc),q4,q5,List.mem_cons_self⟩
   |false =>
    rw[hb] at e
    have hne:Nat.beq c k=false:=by
     cases h2:Nat.beq c k with
     |false=>rfl
     |true=>have:=eF h2; subst this; rw[Nat.beq_refl] at hb; cases hb
    rw[hne,cond_false]
    obtain⟨a1,a2,a3,a4,a5⟩:=ih q.2 e
    exact⟨a1,a2,a3,a4,List.mem_cons_of_mem _ a5⟩
theorem DY{n:Nat}: ∀ {s:List Nat},nP n s=true->n ∉ s:=by
 intro s
 induction s with
 |nil=>intro _ h; cases h
 |cons m s ih =>
  intro q h
  simp only[nP,Bool.and_eq_true,Bool.not_eq_true'] at q
  rcases List.mem_cons.1 h with rfl|h
  ·rw[Nat.beq_refl] at q; cases q.1
  ·exact ih q.2 h
theorem SB{ρ:Nat->Nat}{nx pn:Nat}{h:Hz}: ∀ {l:List (Nat×OV)} {s:List Nat},okR ρ nx pn h l s-> ∀ {c c':Nat} {o o':OV},(ng l).get c=some o->(ng l).get c'=some o'->dR l s c=dR l s c'->c=c':=by
 intro l
 induction l with
 |nil=>intro s _ c c' o o' e; cases e
 |cons p r ih =>
  obtain⟨k,u⟩:=p
  intro s q c c' o o' e e' hn
  cases s with
  |nil=>exact q.elim
  |cons n s =>
   have e0:ng ((k,u)::r)=(k,some u)::ng r:=rfl
   rw[e0] at e e'
   simp only[Hz.get] at e e'
   simp only[dR] at hn
   have sw: ∀ a b:Nat,Nat.beq a b=Nat.beq b a:=fun a b=>by
    cases h1:Nat.beq a b with
    |true=>have:=eF h1; subst this; exact(Nat.beq_refl _).symm
    |false =>
     cases h2:Nat.beq b a with
     |false=>rfl
     |true=>have:=eF h2; subst this; rw[Nat.beq_refl] at h1; cases h1
   rw[sw c k,sw c' k] at hn
   have hni:=DY q.1.2.2.1
   cases hb:Nat.beq k c<;>cases hb':Nat.beq k c'<;>rw[hb] at hn e<;>rw[hb'] at hn e'<;>simp only[cond_true,cond_false] at hn e e'
   ·exact ih q.2 e e' hn
   ·exact absurd (hn▸(zl q.2 e).2.2.2.2) hni
   ·exact absurd (hn▸(zl q.2 e').2.2.2.2) hni
   ·rw[<- eF hb,<- eF hb']
theorem gJ.fam{nx pn B:Nat}{h:Hz}{g:Nat->Nat}{L:List (Option OV)}(lits:List (Nat×OV))(nw:List Nat)(h1:okR (nZ B g (dR lits nw)) nx pn h lits nw)(hB:ltB B lits=true)(hp:pn<=B)(hx:B+L.length<=nx)
  (hL: ∀ j o,L[j]? =some (some o)->o.good nx=true/\o.EL=true/\(∃ o',h.get (g j)=some o'/\o'.ay=o.ay)/\nP (g j) nw=true) (hi: ∀ j j' o o',L[j]? =some (some o)->L[j']? =some (some o')->g j=g j'->j=j') :
  gJ (nZ B g (dR lits nw)) nx pn h (ng lits++kM B L):=by
 have key: ∀ c o,Hz.get c (ng lits++kM B L)=some o->(c<B/\(ng lits).get c=some o)\/ ∃ j,c=B+j/\L[j]? =some (some o):=by
  intro c o e
  rcases aak e with e|e
  ·obtain⟨p,hp,rfl,_⟩:=aai e
   exact .inl ⟨aaj hB p hp,e⟩
  ·rw[yO] at e
   cases hb:Nat.ble B c with
   |false=>rw[hb] at e; cases e
   |true =>
    rw[hb,cond_true,Option.join_eq_some_iff] at e
    exact .inr ⟨c-B,by have:=Nat.le_of_ble_eq_true hb; omega,e⟩
 refine⟨fun c o e0=>?_,fun c c' e0 e0' hn=>?_⟩
 ·rcases key c o e0 with ⟨hc,e⟩|⟨j,rfl,e⟩
  ·rw[CG hc]
   obtain⟨a1,a2,a3,a4,_⟩:=zl h1 e
   exact⟨a1,a2,a3,a4⟩
  ·rw[um]
   obtain⟨b1,b2,⟨o',b3,b4⟩,_⟩:=hL j o e
   have hl:j<L.length:=(List.getElem?_eq_some_iff.1 e).1
   exact⟨by omega,fun hc=>by omega,b1,o',b3,by rw[b4],by rw[b4],by rw[OV.wK b2,b4]; exact .refl _⟩
 ·obtain⟨o,e1⟩:=Option.isSome_iff_exists.1 e0
  obtain⟨o',e1'⟩:=Option.isSome_iff_exists.1 e0'
  rcases key c o e1 with ⟨hc,e⟩|⟨j,rfl,e⟩<;>rcases key c' o' e1' with ⟨hc',e'⟩|⟨j',rfl,e'⟩
  ·rw[CG hc,CG hc'] at hn; exact SB h1 e e' hn
  ·rw[CG hc,um] at hn
   exact absurd (hn▸(zl h1 e).2.2.2.2) (DY (hL j' o' e').2.2.2)
  ·rw[um,CG hc'] at hn
   exact absurd (hn▸(zl h1 e').2.2.2.2) (DY (hL j o e).2.2.2)
  ·rw[um,um] at hn; rw[hi j j' o o' e e' hn]
def Lu(B C:Nat):List Nat->Bool
 |[]=>true
 |n::r=>(Nat.blt n B||Nat.ble C n)&&Lu B C r
theorem SC{B C c:Nat}(h1:B<=c)(h2:c<C): ∀ {s:List Nat},Lu B C s=true->nP c s=true:=by
 intro s
 induction s with
 |nil=>intro _; rfl
 |cons n r ih =>
  intro q
  simp only[Lu,Bool.and_eq_true,Bool.or_eq_true] at q
  simp only[nP,Bool.and_eq_true,Bool.not_eq_true']
  refine⟨?_,ih q.2⟩
  cases hb:Nat.beq c n with
  |false=>rfl
  |true =>
   have:=eF hb
   rcases q.1 with q|q
   ·have:=Nat.blt_eq.mp q; omega
   ·have:=Nat.le_of_ble_eq_true q; omega
theorem gJ.zZ{nx pn B:Nat}(C:Nat){h pre:Hz}{L:List (Option OV)}(lits:List (Nat×OV))(nw:List Nat)(e:Bh pre (kM B L) h)(ho:Bg B C pre=true)(hn:Lu B C nw=true)(hB:ltB B lits=true)(hp:pn<=B)(hC:B+L.length<=C)(hx:C<=nx)
  (hg: ∀ o,some o∈L->o.good nx=true/\o.EL=true) (h1:okR (nZ B (fun j=>B+j) (dR lits nw)) nx pn h lits nw):gJ (nZ B (fun j=>B+j) (dR lits nw)) nx pn h (ng lits++kM B L):=by
 refine gJ.fam lits nw h1 hB hp (by omega) (fun j o hj=>?_) fun j j' _ _ _ _ q=>by simpa using q
 have hl:j<L.length:=(List.getElem?_eq_some_iff.1 hj).1
 obtain⟨g1,g2⟩:=hg o (List.mem_of_getElem? hj)
 exact⟨g1,g2,⟨o,CB e ho hC hj,rfl⟩,SC (by omega) (by omega) hn⟩
theorem gJ.aeM{nx pn B:Nat}(C i N:Nat){h pre:Hz}{L L0:List (Option OV)}(lits:List (Nat×OV))(nw:List Nat)(e:Bh pre (kM B L0) h)(ho:Bg B C pre=true)(hn:Lu B C (N::nw)=true)(hN:nP N nw=true)(hB:ltB B lits=true)(hp:pn<=B)(hC:B+L.length<=C)(hC0:B+L0.length<=C)(hx:C<=nx)
  (hg: ∀ o,some o∈L->o.good nx=true/\o.EL=true) (hi: ∀ o,L[i]? =some (some o)-> ∃ o',h.get N=some o'/\o'.ay=o.ay) (hj: ∀ j o,j≠i->L[j]? =some (some o)->L0[j]? =some (some o))
  (h1:okR (nZ B (fun j=>if j=i then N else B+j) (dR lits nw)) nx pn h lits nw):gJ (nZ B (fun j=>if j=i then N else B+j) (dR lits nw)) nx pn h (ng lits++kM B L):=by
 simp only[Lu,Bool.and_eq_true,Bool.or_eq_true] at hn
 have hN':N<B\/C<=N:=hn.1.imp Nat.blt_eq.mp Nat.le_of_ble_eq_true
 refine gJ.fam lits nw h1 hB hp (by omega) (fun j o q=>?_) fun j j' o o' q q' w=>?_
 ·have hl:j<L.length:=(List.getElem?_eq_some_iff.1 q).1
  obtain⟨g1,g2⟩:=hg o (List.mem_of_getElem? q)
  refine⟨g1,g2,?_⟩
  by_cases hji:j=i
  ·subst hji; rw[if_pos rfl]; exact⟨hi o q,hN⟩
  ·rw[if_neg hji]; exact⟨⟨o,CB e ho hC0 (hj j o hji q),rfl⟩,SC (by omega) (by omega) hn.2⟩
 ·have hl:j<L.length:=(List.getElem?_eq_some_iff.1 q).1
  have hl':j'<L.length:=(List.getElem?_eq_some_iff.1 q').1
  split at w<;>split at w<;>omega
def bT(B C:Nat)(t h:Hz):Prop:= ∃ pre,Bh pre t h/\Bg B C pre=true
theorem bT.nil{B C:Nat}{t:Hz}:bT B C t t:=⟨[],.nil,rfl⟩
theorem bT.lo{B C k:Nat}{o:Option OV}{t h:Hz}(hk:Nat.blt k B=true)(q:bT B C t h):bT B C t ((k,o)::h):=by
 obtain⟨pre,e,q⟩:=q
 exact⟨_,e.cons,by simp only[Bg,hk,q,Bool.true_or,Bool.and_self]⟩
theorem bT.hi{B C k:Nat}{o:Option OV}{t h:Hz}(hk:Nat.ble C k=true)(q:bT B C t h):bT B C t ((k,o)::h):=by
 obtain⟨pre,e,q⟩:=q
 exact⟨_,e.cons,by simp only[Bg,hk,q,Bool.or_true,Bool.and_self]⟩
theorem jM.zZ{ι:Type}{inv:ι->Prop}{μ:ι->Nat}{vars:ι->Fm}{objs:ι->Hz}{base:Fm}{nx pn B:Nat}{i:ι}{m:Fm}{h:Hz}(C:Nat)(j:ι)(L:List (Option OV))(lits:List (Nat×OV))(nw:List Nat)(eo:objs j=ng lits++kM B L)(h1:inv j)(h2:μ j<μ i)
  (q:bT B C (kM B L) h) (hn:Lu B C nw=true) (hB:ltB B lits=true) (hp:pn<=B) (hC:B+L.length<=C) (hx:C<=nx) (hg: ∀ o,some o∈L->o.good nx=true/\o.EL=true)
  (h3:iL (nZ B (fun j=>B+j) (dR lits nw)) m (vars j)) (h4:iL (nZ B (fun j=>B+j) (dR lits nw)) m base) (h5:okR (nZ B (fun j=>B+j) (dR lits nw)) nx pn h lits nw):jM inv μ vars objs base nx pn i m h:=by
 obtain⟨pre,e,ho⟩:=q
 exact⟨h,j,_,.inl rfl,h1,h2,h3,h4,eo▸gJ.zZ C lits nw e ho hn hB hp hC hx hg h5⟩
theorem gJ.FX{nx pn B:Nat}(C:Nat){h:Hz}{L:List (Option OV)}(lits:List (Nat×OV))(nw:List Nat)(q:bT B C (kM B L) h)(hn:Lu B C nw=true)(hB:ltB B lits=true)(hp:pn<=B)(hC:B+L.length<=C)(hx:C<=nx)
  (hg: ∀ o,some o∈L->o.good nx=true/\o.EL=true) (h1:okR (nZ B (fun j=>B+j) (dR lits nw)) nx pn h lits nw):gJ (nZ B (fun j=>B+j) (dR lits nw)) nx pn h (ng lits++kM B L):=by
 obtain⟨pre,e,ho⟩:=q
 exact gJ.zZ C lits nw e ho hn hB hp hC hx hg h1
theorem gJ.ac0{nx pn B:Nat}(C i N:Nat){h:Hz}(L0:List (Option OV)){L:List (Option OV)}(lits:List (Nat×OV))(nw:List Nat)(q:bT B C (kM B L0) h)(hn:Lu B C (N::nw)=true)(hN:nP N nw=true)(hB:ltB B lits=true)(hp:pn<=B)(hC:B+L.length<=C)(hC0:B+L0.length<=C)(hx:C<=nx)
  (hg: ∀ o,some o∈L->o.good nx=true/\o.EL=true) (hi: ∀ o,L[i]? =some (some o)-> ∃ o',h.get N=some o'/\o'.ay=o.ay) (hj: ∀ j o,j≠i->L[j]? =some (some o)->L0[j]? =some (some o))
  (h1:okR (nZ B (fun j=>if j=i then N else B+j) (dR lits nw)) nx pn h lits nw):gJ (nZ B (fun j=>if j=i then N else B+j) (dR lits nw)) nx pn h (ng lits++kM B L):=by
 obtain⟨pre,e,ho⟩:=q
 exact gJ.aeM C i N lits nw e ho hn hN hB hp hC hC0 hx hg hi hj h1
theorem O4.Nw{B:Nat}(C:Nat){j ty k:Nat}{L:List (Option OV)}{r:Rw}{h:Hz}{K:Nat->Rw->Prop}(q:bT B C (kM B L) h)(hC:B+L.length<=C)(hj:L[j]? =some (some (.row ty k r [])))(hK:K k r):O4 h (B+j) K:=by
 obtain⟨pre,e,ho⟩:=q
 exact O4.fam C e ho hC hj hK
theorem bT.get{B C j:Nat}{L:List (Option OV)}{h:Hz}{o:OV}(q:bT B C (kM B L) h)(hC:B+L.length<=C)(hj:L[j]? =some (some o)):h.get (B+j)=some o:=by
 obtain⟨pre,e,ho⟩:=q
 exact CB e ho hC hj
theorem EN{h:Hz}{i k ty:Nat}{u:V}{Z:Nat->Prop}(hz:Z i)(ho:h.get i=some (.box ty k u))(hu:u.aF.free=true)(hk:k≠eP):T.sub Z h.aj (V.ref k u).aF (V.ptr i 0 0).aF:=by
 simp only[V.aF,T.sub]
 exact⟨trivial,hz,hu,hk,ty,[u.aF],by simp only[Hz.aj,ho]; rfl,rfl⟩
theorem gJ.lits{nx pn:Nat}{h:Hz}(lits:List (Nat×OV))(nw:List Nat)(h1:okR (dR lits nw) nx pn h lits nw):gJ (dR lits nw) nx pn h (ng lits):=by
 refine⟨fun c o e=>?_,fun c c' e e' hn=>?_⟩
 ·obtain⟨a1,a2,a3,a4,_⟩:=zl h1 e
  exact⟨a1,a2,a3,a4⟩
 ·obtain⟨o,e⟩:=Option.isSome_iff_exists.1 e
  obtain⟨o',e'⟩:=Option.isSome_iff_exists.1 e'
  exact SB h1 e e' hn
theorem jM.lits{ι:Type}{inv:ι->Prop}{μ:ι->Nat}{vars:ι->Fm}{objs:ι->Hz}{base:Fm}{nx pn:Nat}{i:ι}{m:Fm}{h:Hz}(j:ι)(L:List (Nat×OV))(nw:List Nat)(h2:Hz)(hf:UZ h h2)(eo:objs j=ng L)(h1:inv j)(hm:μ j<μ i)
  (h3:iL (dR L nw) m (vars j)) (h4:iL (dR L nw) m base) (h5:okR (dR L nw) nx pn h2 L nw):jM inv μ vars objs base nx pn i m h :=
 ⟨h2,j,_,hf,h1,hm,h3,h4,eo▸gJ.lits L nw h5⟩
structure Nv(res v:V)(h:Hz):Prop where
 ok: ∃ h2,Frz h h2/\T.sub (fun _=>True) h2.aj res.aF v.aF
def acC(rs:List RV)(res:V):Qz
 | .exit _,_,_,_=>False
 |_,m,h,_=>match resV m h rs with
  |some v=>v.seq fun v=>Nv res v h
  |none=>False
def LC:List RV->Bool
 |[]=>true
 | .slot _::r=>LC r
 |_=>false
theorem OE{m:Fm}{h h2:Hz}: ∀ {rs:List RV},LC rs=true->Hf m h rs=Hf m h2 rs:=by
 intro rs
 induction rs with
 |nil=>intro _; rfl
 |cons r rs ih =>
  intro q
  cases r with
  |slot t=>simp only[Hf,Sl]; rw[ih q]
  |cell a k=>cases q
theorem QK{m:Fm}{h h2:Hz}{rs:List RV}(q:LC rs=true):resV m h rs=resV m h2 rs:=by
 unfold resV; rw[OE (h2:=h2) q]
theorem au.ofF{f:FuncId}{ac:fF}{rs:List RV}{nt:Nat}{args:List V}{res:V}(B:Body P f ac rs nt)(hrs:LC rs=true)(hn:args.length<=nt)(hf:V.cZ args=true)(hr:res.free=true)(H:az P nt 0 ac (acC rs res) (Az 0 args) [] 0):au P f args res:=by
 obtain⟨fn,c,h1,h2,h3,h4,h5⟩:=B.ex
 have zA:res.aF.ids (fun _=>False):=dY (V.kL res hr)
 refine⟨V.jB args hf,fun _=>T.aX (fun _ h=>h.elim) _ zA,(fun _ h=>by cases h),(fun _ h=>by cases h),fun n=>?_⟩
 refine aT.Cb (nx:=0) (nt:=nt) h1 h2 h3 h4 B.cl h5 ⟨_,_,rfl,rfl⟩ (T.aA (fun _ h=>h.elim) _ (dD (V.jB args hf))) (uP _) ?_
 have:=oQ (P:=P) (N:=nt) (pn:=0) (s:=⟨V.aS args++List.replicate (nt-(V.aS args).length) T.un,no,0,0⟩) B.dst (by simp[dH]; omega) AA Sm rfl H
 refine lq ?_ this
 rintro e s ⟨m,h,a1,a2,a3,a4,a5⟩
 have key: ∀ {m h},Rp m s.fr->s.hp=Hz.aj h->(match resV m h rs with|some v=>v.seq fun v=>Nv res v h|none=>False)-> ∃ s1,Gi s1 s/\Ret no n (fun t' h'=>t'=res.aF/\h'=gG no n none) rs s1:=by
  intro m h a2 a3 q
  split at q
  ·rename_i v hv
   rw[V.seq_eq] at q
   obtain⟨hz,⟨Z,hfz⟩,hsub⟩:=q.ok
   rw[QK (h2:=hz) hrs] at hv
   obtain⟨b1,b2⟩:=Lm (s:=⟨s.fr,hz.aj,s.nx,s.pin⟩) a2 rfl hv
   refine⟨⟨s.fr,hz.aj,s.nx,s.pin⟩,.fz (Z:=Z) ?_ (.refl _),b1,fun _=>True,fun _=>0,res.aF,no,⟨rfl,rfl⟩,by rw[Qq _ zA,b2]; exact hsub,(fun i ob hi=>by cases hi),(fun i j hi=>by cases hi),T.aX (fun _ h=>h.elim) _ zA,uP _,(fun i hi=>by cases hi)⟩
   refine⟨aW _,fun i ob hi=>?_,rfl,rfl⟩
   obtain⟨o,e1,rfl⟩:=Ls hi
   obtain⟨o',c1,c2,c3,c4,c5,c6,c7⟩:=AU hfz e1
   rw[a3]
   exact⟨o'.ay,aO c1,c2,c3,c4,c5,c6,c7⟩
  ·exact q.elim
 cases e with
 |exit j=>exact a5.elim
 |normal=>exact key a2 a3 a5
 |ret=>exact key a2 a3 a5
end
section
variable {P:Program} {H:Type} {enc:TypeId×Value->H}
inductive Sh where
 |int
 |u64
 |str
 |bool
 |sl (k:Nat) (s:Sh)
 |st (l:List Sh)
mutual
def Sh.cells:Sh->Nat
 | .st l=>Sh.uQ l
 |_=>1
def Sh.uQ:List Sh->Nat
 |[]=>0
 |s::l=>s.cells+Sh.uQ l
end
def Sh.kd:Sh->Nat
 | .st l=>Sh.uQ l+1
 |_=>0
mutual
def Sh.fits(P:Program):Sh->TypeId->Bool
 | .int,t=>match P.underlying t with|some (.int .i64)=>true|_=>false
 | .u64,t=>match P.underlying t with|some (.int .u64)=>true|_=>false
 | .str,t=>match P.underlying t with|some .string=>true|_=>false
 | .bool,t=>match P.underlying t with|some .bool=>true|_=>false
 | .sl k s,t=>match P.underlying t with
  |some (.slice e)=>s.fits P e&&Nat.beq s.kd k&&Nat.beq (P.cellsOf e) s.cells&&Nat.blt 0 s.cells
  |_=>false
 | .st l,t=>match P.underlying t with
  |some (.struct fs)=>Sh.JD P l fs.toList 0&&Nat.beq (P.cellsOf t) (Sh.uQ l)
  |_=>false
def Sh.JD(P:Program):List Sh->List Field->Nat->Bool
 |[],[],_=>true
 |s::l,f::fs,off=>s.fits P f.type&&Nat.beq f.offset off&&Nat.beq (P.cellsOf f.type) s.cells&&Sh.JD P l fs (off+s.cells)
 |_,_,_=>false
end
mutual
def Sh.aF:Sh->DataW H->T
 | .int,.lit (.int _ n)=>.int n
 | .u64,.lit (.int _ n)=>.lit (.int .u64 n)
 | .str,.lit (.string l)=>.lit (.string ⟨l.toArray⟩)
 | .bool,.lit (.bool b)=>.bool b
 | .sl k s,.slice es _=>.sl k false (es.map s.aF)
 | .sl k _,.nil=>.sl k false []
 | .st l,.agg ds=>.agg (Sh.zB l ds)
 |_,_=>.any
def Sh.zB:List Sh->List (DataW H)->List T
 |s::l,d::ds=>(s.aF d).cells++Sh.zB l ds
 |_,_=>[]
end
def SE(v:Value):Prop:= ∀ n,v≠ .int .u8 n
mutual
def Sh.wf:Sh->DataW H->Prop
 | .int,d=> ∃ n,d= .lit (.int .i64 n)/\(Lit.int .i64 n).wf=true
 | .u64,d=> ∃ n,d= .lit (.int .u64 n)/\(Lit.int .u64 n).wf=true
 | .str,d=> ∃ l,d= .lit (.string l)
 | .bool,d=> ∃ b,d= .lit (.bool b)
 | .sl _ s,d=>d= .nil\/ ∃ es sp,d= .slice es sp/\ ∀ x∈es,s.wf x
 | .st l,d=> ∃ ds,d= .agg ds/\Sh.O7 l ds
def Sh.O7:List Sh->List (DataW H)->Prop
 |[],ds=>ds=[]
 |s::l,ds=> ∃ d r,ds=d::r/\s.wf d/\Sh.O7 l r
end
structure Rd(E:Env)(s:Sh)(d:DataW H)(cs:List Value):Prop where
 rep:aK E (s.aF d) cs
 len:cs.length=s.cells
 one: ∀ v∈cs,v.oneCell'=true
 u8: ∀ v∈cs,SE v
 free:(s.aF d).free=true
 kd:(s.aF d).kd=s.kd
 wf:s.wf d
structure RdL(E:Env)(l:List Sh)(ds:List (DataW H))(cs:List Value):Prop where
 rep:aV E (Sh.zB l ds) cs
 len:cs.length=Sh.uQ l
 one: ∀ v∈cs,v.oneCell'=true
 u8: ∀ v∈cs,SE v
 free:T.cZ (Sh.zB l ds)=true
 cnt:(Sh.zB l ds).length=Sh.uQ l
 wf:Sh.O7 l ds
theorem OG{E:Env}{k:Nat}: ∀ {l:List T} {vs:List Value},l.length*aY k<=vs.length->(∀ j t,l[j]? =some t->t.kd=k/\(∀ v∈(vs.drop (j*aY k)).take (aY k),v.oneCell'=true)/\aK E t ((vs.drop (j*aY k)).take (aY k)))->aC E k l vs:=by
 intro l
 induction l with
 |nil=>intro vs _ _; trivial
 |cons t ts ih =>
  intro vs hl H
  simp only[List.length_cons,Nat.add_mul,Nat.one_mul] at hl
  obtain⟨h1,h2,h3⟩:=H 0 t rfl
  simp only[Nat.zero_mul,List.drop_zero] at h2 h3
  refine⟨h1,by omega,h2,h3,ih (by simp; omega) fun j u hj=>?_⟩
  have:=H (j+1) u (by simpa using hj)
  rw[List.drop_drop]
  rw[Nat.add_mul,Nat.one_mul,Nat.add_comm (j*aY k)] at this
  exact this
theorem U0{E:Env}: ∀ {a b:List T} {x y:List Value},aV E a x->aV E b y->aV E (a++b) (x++y):=by
 intro a
 induction a with
 |nil=>intro b x y h1 h2; simp only[aV] at h1; subst h1; exact h2
 |cons t a ih =>
  intro b x y h1 h2
  simp only[aV] at h1
  obtain⟨hk,v,r,rfl,h3,h4,h5⟩:=h1
  simp only[List.cons_append,aV]
  exact⟨hk,v,r++y,rfl,h3,h4,ih h5 h2⟩
theorem U1{a b:List T}(ha:T.cZ a=true)(hb:T.cZ b=true):T.cZ (a++b)=true:=by
 rw[eG] at *
 intro t ht
 rcases List.mem_append.1 ht with h|h
 ·exact ha t h
 ·exact hb t h
theorem OH{E:Env}{t:T}{cs:List Value}(h:aK E t cs)(hl:t.kd=0->cs.length=1)(h1: ∀ v∈cs,v.oneCell'=true):aV E t.cells cs:=by
 have other: ∀ t:T,t.cells=[t]->t.kd=0->aK E t cs->(t.kd=0->cs.length=1)->aV E t.cells cs:=by
  intro t e k h hl
  rw[e]
  have:=hl k
  match cs,this with
  |[v],_=>simp only[aV]; exact⟨k,v,[],rfl,h1 v (by simp),h,rfl⟩
 cases t with
 |agg l=>simp only[aK] at h; exact h
 |_=>exact other _ rfl rfl h hl
theorem QL{t:T}(h:t.free=true):T.cZ t.cells=true:=by
 cases t with
 |agg l=>exact h
 |_=>simp only[T.cells,T.cZ,Bool.and_true]; exact h
theorem U2{t:T}:t.cells.length=aY t.kd:=by
 cases t with
 |agg l=>rfl
 |_=>rfl
theorem Sh.lK(s:Sh):aY s.kd=s.cells:=by
 cases s<;>rfl
theorem cell?_at{w:World}{a:Addr}{v:Value}(h:w.cell? a=some v): ∃ cur ty m,w.heap[a.block]? =some (.cells cur ty m)/\a.spot=none/\cur.toList[a.off]? =some v:=by
 unfold World.cell? at h
 split at h
 ·rename_i c t f e
  split at h
  ·cases h
  ·rename_i hs
   exact⟨c,t,f,e,by simpa using hs,by simpa using h⟩
 ·cases h
theorem JE{w:World}{base:Nat}{a:Addr}{n:Nat}{cs:List Value}(h:w.cells? base a n=some cs)(hn:0<n): ∃ cur ty m,w.heap[a.block]? =some (.cells cur ty m)/\a.spot=none/\cs=(cur.toList.drop a.off).take n:=by
 obtain⟨_,hl,hc⟩:=World.cells?_some h
 have h0:=hc 0 hn
 have e0:a.add 0=a:=by simp[Addr.add]
 rw[e0,List.getElem?_eq_getElem (by omega)] at h0
 obtain⟨cur,ty,m,h1,h2,_⟩:=cell?_at h0
 refine⟨cur,ty,m,h1,h2,?_⟩
 have key: ∀ j,j<n->cur.toList[a.off+j]? =cs[j]? :=by
  intro j hj
  have:=hc j hj
  rw[List.getElem?_eq_getElem (by omega)] at this
  obtain⟨cur',ty',m',g1,g2,g3⟩:=cell?_at this
  have eb:(a.add j).block=a.block:=by unfold Addr.add; split<;>rfl
  have eo:(a.add j).off=a.off+j:=by
   obtain⟨b,o,sp⟩:=a
   simp only at h2; subst h2
   rw[Go.WideShapes.add_plain]
  rw[eb,h1] at g1
  cases g1
  rw[eo] at g3
  rw[g3,List.getElem?_eq_getElem (by omega)]
 apply List.ext_getElem?
 intro j
 by_cases hj:j<n
 ·rw[List.getElem?_take,if_pos hj,List.getElem?_drop,key j hj]
 ·rw[List.getElem?_eq_none (by omega),List.getElem?_eq_none (by simp; omega)]
def CJ(E:Env):Prop:= ∀ b cur ty m,E.w.heap[b]? =some (.cells cur ty m)->(∃ v∈cur.toList,SE v)->E.S b
theorem XY{E:Env}{s:Sh}{k:Nat}{base:Nat}{spare:Nat->Bool}{held:Bool}(hS:CJ E){t e:TypeId}(ht:P.underlying t=some (.slice e))(hk:s.kd=k)(hce:P.cellsOf e=s.cells)(hpos:0<s.cells)
  (ih: ∀ (n:Nat) (cs:List Value) (d:DataW H) (ps:List MemPlace),DataW.trod enc P E.w base spare held n e cs=some (d,ps)->Rd E s d cs)
  {n:Nat} {cs:List Value} {d:DataW H} {ps:List MemPlace} (h:DataW.trod enc P E.w base spare held n t cs=some (d,ps)):Rd E (.sl k s) d cs:=by
 rcases DataW.trod_slice ht h with ⟨rfl,hx⟩|⟨a,len,cap,elems,rest,m,_,rfl,hx,hb,hl,hm,hlen,hel,_,_⟩
 ·cases hx
  refine⟨?_,rfl,(fun v hv=>by rw[List.mem_singleton] at hv; subst hv; rfl),(fun v hv=>by rw[List.mem_singleton] at hv; subst hv; intro n e; cases e),rfl,rfl,.inl rfl⟩
  simp only[Sh.aF,aK]
  exact⟨none,0,rfl,Nat.le_refl _,nofun,.inl trivial⟩
 ·cases hx
  have hlen':(elems.map (·.1)).length=len:=by simpa using hlen
  refine⟨?_,rfl,(fun v hv=>by rw[List.mem_singleton] at hv; subst hv; rfl),(fun v hv=>by rw[List.mem_singleton] at hv; subst hv; intro n e; cases e),rfl,rfl,.inr ⟨_,_,rfl,fun x hx=>?_⟩⟩
  rotate_left
  ·obtain⟨y,hy,rfl⟩:=List.mem_map.1 hx
   obtain⟨i,hi,rfl⟩:=List.getElem_of_mem hy
   have:=hel i (by omega)
   rw[List.getElem?_eq_getElem hi] at this
   obtain⟨cs',_,h2⟩:=Option.bind_eq_some_iff.1 this
   exact(ih _ _ _ _ h2).wf
  simp only[Sh.aF,aK,List.length_map]
  refine⟨some a,cap,by rw[hlen],by omega,nofun,?_⟩
  by_cases h0:len=0
  ·left
   have:elems=[]:=List.length_eq_zero_iff.1 (by omega)
   rw[this]; rfl
  ·right
   have get: ∀ i,i<len-> ∃ cs',E.w.cells? base (a.add (i*s.cells)) s.cells=some cs'/\ ∃ x,elems[i]? =some x/\Rd E s x.1 cs':=by
    intro i hi
    have:=hel i hi
    rw[hce,List.getElem?_eq_getElem (by omega)] at this
    obtain⟨cs',h1,h2⟩:=Option.bind_eq_some_iff.1 this
    exact⟨cs',h1,elems[i],List.getElem?_eq_getElem (by omega),ih _ _ _ _ h2⟩
   obtain⟨cs0,c1,x0,_,r0⟩:=get 0 (by omega)
   obtain⟨cur,ty,mm,g1,g2,g3⟩:=JE c1 hpos
   have ea:a.add (0*s.cells)=a:=by simp[Addr.add]
   rw[ea] at g1 g2 g3
   obtain⟨b,off,sp⟩:=a
   simp only at g1 g2 g3
   subst g2
   have hsub: ∀ i,i<len-> ∃ x,elems[i]? =some x/\Rd E s x.1 ((cur.toList.drop (off+i*s.cells)).take s.cells):=by
    intro i hi
    obtain⟨cs',q1,x,q2,q3⟩:=get i hi
    obtain⟨cur',ty',m',k1,k2,k3⟩:=JE q1 hpos
    rw[Go.WideShapes.add_plain] at k1 k3
    simp only at k1 k3
    rw[g1] at k1; cases k1
    rw[k3] at q3
    exact⟨x,q2,q3⟩
   have hcur:len*s.cells<=(cur.toList.drop off).length:=by
    obtain⟨x,_,q⟩:=hsub (len-1) (by omega)
    have:=q.len
    rw[List.length_take,List.length_drop] at this
    rw[List.length_drop]
    have e:len*s.cells=(len-1)*s.cells+s.cells:=by
     conv=>lhs; rw[show len=(len-1)+1 by omega,Nat.add_mul,Nat.one_mul]
    omega
   refine⟨b,off,cur,ty,mm,rfl,hS b cur ty mm g1 ?_,g1,?_,?_⟩
   ·have hl0:=r0.len
    match hcs:cs0,hl0 with
    |[],hl0=>simp at hl0; omega
    |v::r,_ =>
     refine⟨v,?_,r0.u8 v (by simp)⟩
     have:v∈(cur.toList.drop off).take s.cells:=by rw[<- g3]; simp
     exact List.mem_of_mem_drop (List.mem_of_mem_take this)
   ·rw[bK]
    intro t ht
    rw[List.mem_map] at ht
    obtain⟨d,hd,rfl⟩:=ht
    rw[List.mem_map] at hd
    obtain⟨x,hx,rfl⟩:=hd
    obtain⟨i,hi,rfl⟩:=List.getElem_of_mem hx
    obtain⟨x',q1,q2⟩:=hsub i (by omega)
    rw[List.getElem?_eq_getElem hi] at q1
    cases q1
    exact dY q2.free
   ·refine OG (by rw[List.length_map,List.length_map,hlen,<- hk,Sh.lK]; exact hcur) fun j t hj=>?_
    rw[<- hk,Sh.lK]
    have hjl:j<len:=by
     rcases Nat.lt_or_ge j len with h|h
     ·exact h
     ·rw[List.getElem?_eq_none (by simp; omega)] at hj; cases hj
    obtain⟨x,q1,q2⟩:=hsub j hjl
    rw[List.getElem?_map,List.getElem?_map,q1] at hj
    simp only[Option.map_some,Option.some.injEq] at hj
    subst hj
    rw[List.drop_drop]
    exact⟨q2.kd,q2.one,q2.rep⟩
mutual
theorem Sh.read{E:Env}{base:Nat}{spare:Nat->Bool}{held:Bool}(hS:CJ E):(s:Sh)->(t:TypeId)->s.fits P t=true->(n:Nat)->(cs:List Value)->(d:DataW H)->(ps:List MemPlace) ->
  DataW.trod enc P E.w base spare held n t cs=some (d,ps)->Rd E s d cs
 | .int,t,hf,n,cs,d,ps,h=>by
  simp only[Sh.fits] at hf
  split at hf
  ·rename_i e
   obtain⟨z,rfl,hx,hwf⟩:=DataW.trod_int e h
   cases hx
   refine⟨by simp[Sh.aF,aK],rfl,(fun v hv=>by rw[List.mem_singleton] at hv; subst hv; rfl),(fun v hv=>by rw[List.mem_singleton] at hv; subst hv; intro n e; cases e),rfl,rfl,⟨z,rfl,hwf⟩⟩
  ·cases hf
 | .u64,t,hf,n,cs,d,ps,h=>by
  simp only[Sh.fits] at hf
  split at hf
  ·rename_i e
   obtain⟨z,rfl,hx,hwf⟩:=DataW.trod_int e h
   cases hx
   refine⟨by simp[Sh.aF,aK],rfl,(fun v hv=>by rw[List.mem_singleton] at hv; subst hv; rfl),(fun v hv=>by rw[List.mem_singleton] at hv; subst hv; intro n e; cases e),rfl,rfl,⟨z,rfl,hwf⟩⟩
  ·cases hf
 | .str,t,hf,n,cs,d,ps,h=>by
  simp only[Sh.fits] at hf
  split at hf
  ·rename_i e
   obtain⟨z,rfl,hx,_⟩:=DataW.trod_string e h
   cases hx
   refine⟨by simp[Sh.aF,aK],rfl,(fun v hv=>by rw[List.mem_singleton] at hv; subst hv; rfl),(fun v hv=>by rw[List.mem_singleton] at hv; subst hv; intro n e; cases e),rfl,rfl,⟨_,rfl⟩⟩
  ·cases hf
 | .bool,t,hf,n,cs,d,ps,h=>by
  simp only[Sh.fits] at hf
  split at hf
  ·rename_i e
   obtain⟨z,rfl,hx⟩:=DataW.trod_bool e h
   cases hx
   refine⟨by simp[Sh.aF,aK],rfl,(fun v hv=>by rw[List.mem_singleton] at hv; subst hv; rfl),(fun v hv=>by rw[List.mem_singleton] at hv; subst hv; intro n e; cases e),rfl,rfl,⟨_,rfl⟩⟩
  ·cases hf
 | .sl k s,t,hf,n,cs,d,ps,h=>by
  simp only[Sh.fits] at hf
  split at hf
  ·rename_i e he
   simp only[Bool.and_eq_true] at hf
   obtain⟨⟨⟨f1,f2⟩,f3⟩,f4⟩:=hf
   exact XY hS he (Nat.eq_of_beq_eq_true f2) (Nat.eq_of_beq_eq_true f3) (Nat.blt_eq.mp f4) (Sh.read hS s e f1) h
  ·cases hf
 | .st l,t,hf,n,cs,d,ps,h=>by
  simp only[Sh.fits] at hf
  split at hf
  ·rename_i fs he
   simp only[Bool.and_eq_true] at hf
   obtain⟨xs,m,_,hx,hlen,hxl,hg⟩:=DataW.trod_struct he h
   cases hx
   have hct:=Nat.eq_of_beq_eq_true hf.2
   have R:=Sh.aa0 hS l fs.toList 0 hf.1 m cs xs (by simpa using hxl) (fun i f hi=>by
    have:=hg i f (by simpa using hi)
    rw[<- this]) (by rw[hlen,hct]; simp)
   simp only[List.drop_zero] at R
   refine⟨by simp only[Sh.aF,aK]; exact R.rep,by rw[hlen,hct]; rfl,R.one,R.u8,R.free,?_,⟨_,rfl,R.wf⟩⟩
   show(Sh.zB l _).length+1=Sh.uQ l+1
   rw[R.cnt]
  ·cases hf
theorem Sh.aa0{E:Env}{base:Nat}{spare:Nat->Bool}{held:Bool}(hS:CJ E):(l:List Sh)->(fs:List Field)->(off:Nat)->Sh.JD P l fs off=true->(n:Nat)->(cs:List Value)->(xs:List (DataW H×List MemPlace))->xs.length=fs.length ->
  (∀ (i:Nat) (f:Field),fs[i]? =some f->DataW.trod enc P E.w base spare held n f.type ((cs.drop f.offset).take (P.cellsOf f.type))=xs[i]?)->cs.length=off+Sh.uQ l->RdL E l (xs.map (·.1)) (cs.drop off)
 |[],[],off,hf,n,cs,xs,hl,hx,hc=>by
  have:xs=[]:=List.length_eq_zero_iff.1 (by simpa using hl)
  subst this
  have:cs.drop off=[]:=List.drop_eq_nil_of_le (by rw[hc]; simp[Sh.uQ])
  rw[this]
  exact⟨rfl,rfl,(fun v hv=>by cases hv),(fun v hv=>by cases hv),rfl,rfl,rfl⟩
 |s::l,f::fs,off,hf,n,cs,xs,hl,hx,hc=>by
  simp only[Sh.JD,Bool.and_eq_true] at hf
  obtain⟨⟨⟨f1,f2⟩,f3⟩,f4⟩:=hf
  have e2:=Nat.eq_of_beq_eq_true f2
  have e3:=Nat.eq_of_beq_eq_true f3
  match xs,hl with
  |x::xs,hl =>
   have h0:=hx 0 f rfl
   rw[e2,e3] at h0
   have R0:=Sh.read hS s f.type f1 n _ x.1 x.2 h0
   simp only[Sh.uQ] at hc
   have R1:=Sh.aa0 hS l fs (off+s.cells) f4 n cs xs (by simpa using hl) (fun i g hi=>by
    have:=hx (i+1) g (by simpa using hi)
    simpa using this) (by omega)
   have e:cs.drop off=(cs.drop off).take s.cells++cs.drop (off+s.cells):=by
    rw[<- List.drop_drop,List.take_append_drop]
   rw[e]
   have h1:(s.aF x.1).kd=0->((cs.drop off).take s.cells).length=1:=by
    intro hk
    rw[R0.len,<- Sh.lK,<- R0.kd,hk]; rfl
   refine⟨?_,?_,?_,?_,?_,?_,⟨_,_,rfl,R0.wf,R1.wf⟩⟩
   ·simp only[List.map_cons,Sh.zB]
    exact U0 (OH R0.rep h1 R0.one) R1.rep
   ·rw[List.length_append,R0.len,R1.len]; rfl
   ·intro v hv
    rcases List.mem_append.1 hv with h|h
    ·exact R0.one v h
    ·exact R1.one v h
   ·intro v hv
    rcases List.mem_append.1 hv with h|h
    ·exact R0.u8 v h
    ·exact R1.u8 v h
   ·simp only[List.map_cons,Sh.zB]
    exact U1 (QL R0.free) R1.free
   ·simp only[List.map_cons,Sh.zB,List.length_append,U2,R0.kd,Sh.lK,R1.cnt]; rfl
 |[],_::_,_,hf,_,_,_,_,_,_=>by simp[Sh.JD] at hf
 |_::_,[],_,hf,_,_,_,_,_,_=>by simp[Sh.JD] at hf
end
end
open Go.ChangeShapes Go.WideShapes Go.RowKit
section
variable {P:Program} {H:Type} {enc:TypeId×Value->H}
theorem U3{W:World}(h:Lib.TabIs P W "strings.asciiSpace" .u8 Lib.asciiSpaceTab): ∀ g cs,uN P g=some cs-> ∃ ty m,W.heap[g]? =some (.cells cs ty m):=by
 intro g cs hg
 unfold uN at hg
 split at hg
 ·rename_i e
  cases hg
  unfold Lib.TabIs World.var? at h
  rw[e] at h
  simp only[Option.bind_some] at h
  split at h
  ·rename_i c ty m hc
   cases h
   exact⟨ty,m,hc⟩
  ·cases h
 ·cases hg
def XZ(P:Program)(W:World):Env:=⟨W,fun g=>g<W.heap.size/\uN P g=none,fun _=>.nilFunc,fun _=>0,no⟩
def acD(P:Program):Fr P:= {s:=fun g=>(uN P g).isSome=true}
theorem X0{g:Nat}{cs:Array Value}(h:uN P g=some cs): ∀ v∈cs.toList,¬ SE v:=by
 unfold uN at h
 split at h
 ·cases h
  intro v hv hn
  simp only[List.mem_map] at hv
  obtain⟨z,_,rfl⟩:=hv
  exact hn z rfl
 ·cases h
theorem aal{W:World}(hgl: ∀ g cs,uN P g=some cs-> ∃ ty m,W.heap[g]? =some (.cells cs ty m)):CJ (XZ P W):=by
 intro b cur ty m hb hv
 refine⟨(Array.getElem?_eq_some_iff.1 hb).1,?_⟩
 cases hg:uN P b with
 |none=>rfl
 |some cs =>
  obtain⟨ty',m',h⟩:=hgl b cs hg
  rw[show W.heap[b]? =_ from hb] at h
  cases h
  obtain⟨v,hv1,hv2⟩:=hv
  exact absurd hv2 (X0 hg v hv1)
theorem X3{W:World}(hgl: ∀ g cs,uN P g=some cs-> ∃ ty m,W.heap[g]? =some (.cells cs ty m)):oh (acD P) (XZ P W):=by
 refine⟨(fun i ob hi=>by cases hi),(fun i ob g hi=>by cases hi),(fun i j oi oj g _ hi=>by cases hi),fun g hg=>hg.1,fun g hg=>?_,fun g hs hg=>?_,fun g cs hg=>⟨?_,hgl g cs hg⟩⟩
 ·obtain⟨cs,hc⟩:=Option.isSome_iff_exists.1 hg
  obtain⟨ty,m,h⟩:=hgl g cs hc
  exact(Array.getElem?_eq_some_iff.1 h).1
 ·have h1:=hs.2
  have h2:(uN P g).isSome=true:=hg
  rw[h1] at h2; cases h2
 ·show(uN P g).isSome=true
  rw[hg]; rfl
def Sh.args:List Sh->List (DataW H)->List T
 |s::l,d::ds=>s.aF d::Sh.args l ds
 |_,_=>[]
def Sh.OI(P:Program):List Sh->List TypeId->Bool
 |[],[]=>true
 |s::l,t::ts=>s.fits P t&&Sh.OI P l ts
 |_,_=>false
theorem aam{E:Env}{s:Sh}{t:TypeId}{d:DataW H}{v:Value}{W:World}{base:Nat}(hf:s.fits P t=true)(R:Rd E s d v.cells.toList)(hok:Value.okWide P W .any base t v):iY E (s.aF d) v:=by
 cases s with
 |st l =>
  simp only[Sh.fits] at hf
  split at hf
  ·rename_i fs he
   obtain⟨cs,rfl,_⟩:=okWide_struct he hok
   refine .inl ⟨by rw[R.kd]; exact Nat.succ_ne_zero _,cs,rfl,R.rep⟩
  ·cases hf
 |int =>
  simp only[Sh.fits] at hf
  split at hf
  ·rename_i he
   obtain⟨n,rfl⟩:=okWide_int he hok
   exact .inr ⟨R.kd,R.rep⟩
  ·cases hf
 |u64 =>
  simp only[Sh.fits] at hf
  split at hf
  ·rename_i he
   obtain⟨n,rfl⟩:=okWide_int he hok
   exact .inr ⟨R.kd,R.rep⟩
  ·cases hf
 |str =>
  simp only[Sh.fits] at hf
  split at hf
  ·rename_i he
   obtain⟨n,rfl⟩:=okWide_string he hok
   exact .inr ⟨R.kd,R.rep⟩
  ·cases hf
 |bool =>
  simp only[Sh.fits] at hf
  split at hf
  ·rename_i he
   obtain⟨n,rfl⟩:=okWide_bool he hok
   exact .inr ⟨R.kd,R.rep⟩
  ·cases hf
 |sl k s =>
  simp only[Sh.fits] at hf
  split at hf
  ·rename_i e he
   obtain⟨a,len,cap,rfl⟩:=okWide_slice he hok
   exact .inr ⟨R.kd,R.rep⟩
  ·cases hf
theorem X4{E:Env}{base:Nat}{spare:Nat->Bool}{held:Bool}{b2:Nat}(hS:CJ E): ∀ {O8:List Sh} {ts:List TypeId} {vs:List Value} {ds:List (DataW H)} {ps:List MemPlace},Sh.OI P O8 ts=true->DataW.TrodAll enc P E.w base spare held ts vs ds ps ->
  (∀ (j:Nat) (t:TypeId) (v:Value),ts[j]? =some t->vs[j]? =some v->Value.okWide P E.w .any b2 t v)->bG E (Sh.args O8 ds) vs/\T.cZ (Sh.args O8 ds)=true/\Sh.O7 O8 ds:=by
 intro O8
 induction O8 with
 |nil =>
  intro ts vs ds ps hf hA hok
  cases ts with
  |nil =>
   match vs,ds,hA with
   |[],[],_=>exact⟨rfl,rfl,rfl⟩
  |cons t ts=>cases hf
 |cons s O8 ih =>
  intro ts vs ds ps hf hA hok
  cases ts with
  |nil=>cases hf
  |cons t ts =>
   match vs,ds,hA with
   |v::vs,d::ds,⟨p,q,⟨n,h1⟩,h2,_⟩ =>
    simp only[Sh.OI,Bool.and_eq_true] at hf
    have R:=Sh.read hS s t hf.1 n _ d p h1
    obtain⟨i1,i2,i3⟩:=ih hf.2 h2 fun j t' v' a b=>hok (j+1) t' v' (by simpa using a) (by simpa using b)
    refine⟨?_,?_,⟨d,ds,rfl,R.wf,i3⟩⟩
    ·simp only[Sh.args,bI]
     exact⟨v,vs,rfl,aam hf.1 R (hok 0 t v rfl rfl),i1⟩
    ·simp only[Sh.args,T.cZ,Bool.and_eq_true]
     exact⟨R.free,i2⟩
theorem U4{W:World}(hgl: ∀ g cs,uN P g=some cs-> ∃ ty m,W.heap[g]? =some (.cells cs ty m)){f:FuncId}{O8:List Sh}{ts:List TypeId}{args:Array Value}{ds:List (DataW H)}{ps:List MemPlace}{b2:Nat}{u:Value}
  (hf:Sh.OI P O8 ts=true) (hA:DataW.TrodAll enc P W 0 (fun _=>true) true ts args.toList ds ps) (hok: ∀ (j:Nat) (t:TypeId) (v:Value),ts[j]? =some t->args[j]? =some v->Value.okWide P W .any b2 t v)
  (S:Sh.O7 O8 ds->sU P f (Sh.args O8 ds) (.lit u)):Calls P f args W fun e W'=>e= .returned u/\Below W.heap.size W W':=by
 obtain⟨hr,hfr,hwf⟩:=X4 (E:=XZ P W) (aal hgl) hf hA (fun j t v a b=>hok j t v a (by simpa using b))
 obtain⟨_,_,hcall⟩:=(S hwf).call 0
 have:=hcall (acD P) (fun _=>False) (XZ P W) args.toList (X3 hgl) rfl hr (dD hfr) (uP _) (fun h=>h)
 refine this.mono ?_
 rintro e w' ⟨v,t,E2,rfl,rfl,⟨rfl,_⟩,hv,_,hext,_⟩
 refine⟨by rw[aJ.1 hv],hext.os,hext.tape,hext.output,hext.size,fun g hg=>hext.w g ?_⟩
 cases hq:uN P g with
 |none=>exact .inl ⟨hg,hq⟩
 |some cs=>right; show(uN P g).isSome=true; rw[hq]; rfl
theorem Ip(hl:laidOutB P=true){W W':World}(hb:Below W.heap.size W W'){sp:Nat->Bool}: ∀ {ts:List TypeId} {vs:List Value} {ds:List (DataW H)} {ps:List MemPlace},(∀ t∈ts,P.readableRec t=true/\t<P.types.size) ->
  DataW.TrodAll enc P W 0 (fun _=>true) true ts vs ds ps->(∀ x∈ps,x.block<W.heap.size)->(∀ x∈ps,sp x.block=true)->DataW.TrodAll enc P W' 0 sp true ts vs ds ps:=by
 intro ts
 induction ts with
 |nil =>
  intro vs ds ps _ h _ _
  match vs,ds,h with
  |[],[],h=>exact h
 |cons t ts ih =>
  intro vs ds ps hr h hlt hsp
  match vs,ds,h with
  |v::vs,d::ds,⟨p,q,h1,h2,e⟩ =>
   subst e
   refine⟨p,q,?_,ih (fun t ht=>hr t (by simp[ht])) h2 (fun x hx=>hlt x (by simp[hx])) (fun x hx=>hsp x (by simp[hx])),rfl⟩
   obtain⟨r1,r2⟩:=hr t (by simp)
   exact WideElems.Trod_stays hl r1 r2 h1 (fun x hx=>hb.same (hlt x (by simp[hx]))) (fun x hx=>hsp x (by simp[hx]))
theorem X5{W:World}(hgl: ∀ g cs,uN P g=some cs-> ∃ ty m,W.heap[g]? =some (.cells cs ty m)){f:FuncId}{fn:Func}{s:ChangeSpec}{O8:List Sh}{args:Array Value}{ds gs:List (DataW H)}{before:List MemPlace}{b2:Nat}{tb:TypeId}
  (hl:laidOutB P=true) (hrd: ∀ t∈fn.params.toList,P.readableRec t=true/\t<P.types.size) (hvars:s.vars=[]) (hres:fn.resultTypes= #[tb]) (htb:P.underlying tb=some .bool)
  (hspec:s.fn H ds= {results:=[.lit (.bool true)],args:=ds})
  (hf:Sh.OI P O8 fn.params.toList=true) (hval: ∀ (j:Nat) (t:TypeId) (v:Value),fn.params[j]? =some t->args[j]? =some v->Value.okWide P W .any b2 t v)
  (hW:DataW.Whole enc P fn.params.toList s.vars false W args.toList ds gs before) (S:Sh.O7 O8 ds->sU P f (Sh.args O8 ds) (.bool true)) :
  Calls P f args W fun e W'=> ∃ v,e= .returned v/\s.post enc P fn false true false false W args v W':=by
 have hW':=hW
 obtain⟨p,q,hA,hV,hpq,hfz,hnd⟩:=hW
 have hV0:gs=[]/\q=[]:=by
  rw[hvars] at hV
  cases gs with
  |nil=>exact⟨rfl,hV⟩
  |cons _ _=>exact hV.elim
 obtain⟨rfl,rfl⟩:=hV0
 subst hpq
 refine(U4 hgl hf hA (fun j t v a b=>hval j t v (by simpa using a) b) S).mono ?_
 rintro e W' ⟨rfl,hb⟩
 have hlt: ∀ x∈p,x.block<W.heap.size:=fun x hx=>by simpa using hW'.lt x (by simp[hx])
 refine⟨_,rfl,?_⟩
 have hold: ∀ x∈p,(fun b=>decide (b<W.heap.size)) x.block=true:=fun x hx=>by simpa using hlt x hx
 refine⟨ds,[],p++[],[],p,[],hW',?_,?_,?_,World.keptBut_mono (fun x hx=>⟨by simpa using hx,?_⟩) (hb.frame (· ∈p)),fun h=>by cases h⟩
 ·rw[List.append_nil,hspec,hres]
  exact trodAll_mk1 (shut_bool htb true)
 ·rw[List.append_nil,hspec]
  exact Ip hl hb hrd hA hlt hold
 ·rw[List.append_nil,hspec,hvars]; rfl
 ·right; simpa using hx
end
end Go.Ab
