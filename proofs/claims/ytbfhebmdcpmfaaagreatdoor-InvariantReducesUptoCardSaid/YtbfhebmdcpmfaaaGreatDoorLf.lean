/-
 The typed layer, part 9: contracts of functions; loops.
-/
import Derived.Defers
import Derived.Deep.Slices
import Derived.Carry
import Derived.RowKit
import Derived.Stop.LaidErr
import Derived.Deep.DeepHandedRow
import Derived.Deep.DeepWitnessRowRef
import Derived.Lib.LaidTab
import Derived.Test.YtbfhebmdcpmfaaaGreatDoorLe
import Derived.Test.YtbfhebmdcpmfaaaGreatDoorLd
namespace Go.Ab
section
variable {P:Program}
structure Body(P:Program)(f:FuncId)(ac:dR)(rs:List RV)(nt:Nat):Prop where
 ex: ∃ fn c,P.funcs[f]? =some fn/\fn.body=some c/\comp P c=some ac/\jG P fn.results.toList=some rs/\fn.ntmps=nt
 cl:callable P f
 dst:oQ nt ac=true
def Xu(m:Fm)(h:Hz):RV->Option V
 | .slot t=>m.get t
 | .cell a k=>match m.get a with
  |some v=>match ldZ h k v with|some (u,.no)=>some u|_=>none
  |none=>none
def RH(m:Fm)(h:Hz):List RV->Option (List V)
 |[]=>some []
 |r::rs=>match Xu m h r,RH m h rs with
  |some v,some l=>some (v::l)
  |_,_=>none
def resV(m:Fm)(h:Hz)(rs:List RV):Option V :=
 match RH m h rs with
 |some [v]=>some v
 |some l=>some (.fK l)
 |none=>none
theorem Xv{m:Fm}{h:Hz}{s:AS}(R:Rp m s.fr)(hh:s.hp=h.aj){r:RV}{v:V}(q:Xu m h r=some v):r.ok s/\r.val s=v.aG:=by
 cases r with
 |slot t=>exact⟨trivial,R.getD q⟩
 |cell a k =>
  simp only[Xu] at q
  split at q
  ·rename_i u hu
   split at q
   ·rename_i w hw
    cases q
    have:=Xn (x:=.t a) hh hw trivial (R.ev (x:=.t a) hu)
    exact this
   ·cases q
  ·cases q
theorem Oi{m:Fm}{h:Hz}{s:AS}(R:Rp m s.fr)(hh:s.hp=h.aj): ∀ {rs:List RV} {l:List V},RH m h rs=some l->Dy s rs/\rs.map (RV.val s)=V.aT l:=by
 intro rs
 induction rs with
 |nil=>intro l q; cases q; exact⟨trivial,rfl⟩
 |cons r rs ih =>
  intro l q
  simp only[RH] at q
  split at q
  ·rename_i v l' h1 h2
   cases q
   obtain⟨a1,a2⟩:=Xv R hh h1
   obtain⟨b1,b2⟩:=ih h2
   exact⟨⟨a1,b1⟩,by simp only[List.map_cons,V.aT]; rw[a2,b2]⟩
  ·cases q
theorem DL{m:Fm}{h:Hz}{s:AS}(R:Rp m s.fr)(hh:s.hp=h.aj){rs:List RV}{v:V}(q:resV m h rs=some v):Dy s rs/\resT s rs=v.aG:=by
 unfold resV at q
 split at q
 ·rename_i u e
  cases q
  obtain⟨a,b⟩:=Oi R hh e
  refine⟨a,?_⟩
  cases rs with
  |nil=>simp[V.aT] at b
  |cons r rs =>
   cases rs with
   |nil=>simp only[List.map_cons,List.map_nil,V.aT,List.cons.injEq,and_true] at b; exact b
   |cons r' rs=>simp[V.aT] at b
 ·rename_i l hne e
  cases q
  obtain⟨a,b⟩:=Oi R hh e
  refine⟨a,?_⟩
  match rs,b,e with
  |[],b,_=>simp only[resT,V.aG]; rw[b]
  |[r],b,e =>
   cases l with
   |nil=>simp[V.aT] at b
   |cons u l =>
    cases l with
    |nil=>exact absurd rfl (hne u)
    |cons w l=>simp[V.aT] at b
  |r::r'::rs,b,_=>simp only[resT,V.aG]; rw[b]
 ·cases q
structure au(res v:V)(h:Hz):Prop where
 ok:T.sub (fun _=>True) h.aj res.aG v.aG
def acX(rs:List RV)(res:V):Qz
 | .exit _,_,_,_=>False
 |_,m,h,_=>match resV m h rs with
  |some v=>v.seq fun v=>au res v h
  |none=>False
def yh:Nat->List V->Fm
 |_,[]=>[]
 |i,v::r=>(i,v)::yh (i+1) r
theorem Qy: ∀ {l:List V} {i j:Nat} {v:V},(yh i l).get j=some v-> ∃ k,j=i+k/\l[k]? =some v:=by
 intro l
 induction l with
 |nil=>intro i j v q; cases q
 |cons u r ih =>
  intro i j v q
  simp only[yh,Fm.get] at q
  cases hb:Nat.beq i j with
  |true=>rw[hb] at q; cases q; exact⟨0,(jh hb).symm,rfl⟩
  |false =>
   rw[hb] at q
   obtain⟨k,e1,e2⟩:=ih q
   exact⟨k+1,by omega,by simpa using e2⟩
theorem uN{l:List V}{n:Nat}:Rp (yh 0 l) (V.aT l++List.replicate n T.un):=by
 intro i v q
 obtain⟨k,e1,e2⟩:=Qy q
 have e:i=k:=by omega
 subst e
 have hk:i<l.length:=(List.getElem?_eq_some_iff.1 e2).1
 rw[List.getElem?_append_left (by rw[gu]; exact hk),nZ,List.getElem?_map,e2]
 rfl
theorem Zw:(no:Hp)=Hz.aj []:=rfl
@[reducible] def ak(P:Program)(f:FuncId)(args:List V)(res:V):Prop:=wV P f (V.aT args) res.aG
theorem ak.of{f:FuncId}{ac:dR}{rs:List RV}{nt:Nat}{args:List V}{res:V}(B:Body P f ac rs nt)(hn:args.length<=nt)(hf:V.dH args=true)(hr:res.free=true)(H:az P nt 0 ac (acX rs res) (yh 0 args) [] 0):ak P f args res:=by
 obtain⟨fn,c,h1,h2,h3,h4,h5⟩:=B.ex
 have FI:res.aG.ids (fun _=>False):=gX (V.mG res hr)
 refine vM.vF (o:=none) h1 h2 h3 h4 B.cl h5 (V.iq args hf) (fun _ _=>Xc _ FI) (fun _=>T.bQ (fun _ h=>h.elim) _ FI) (fun _ h=>by cases h) ?_
 have:=mZ (P:=P) (N:=nt) (pn:=0) (s:=⟨V.aT args++List.replicate (nt-(V.aT args).length) T.un,no,0,0⟩) B.dst (by simp[gu]; omega) uN Zw rfl H
 refine jH ?_ this
 rintro e s ⟨m,h,a1,a2,a3,a4,a5⟩
 have key: ∀ {m h},Rp m s.fr->s.hp=Hz.aj h->(match resV m h rs with|some v=>v.seq fun v=>au res v h|none=>False)->Dy s rs/\T.sub (fun _=>True) s.hp res.aG (resT s rs):=by
  intro m h a2 a3 q
  split at q
  ·rename_i v hv
   rw[V.seq_eq] at q
   obtain⟨b1,b2⟩:=DL a2 a3 hv
   exact⟨b1,by rw[b2,a3]; exact q.ok⟩
  ·exact q.elim
 cases e with
 |exit j=>exact a5.elim
 |normal=>exact key a2 a3 a5
 |ret=>exact key a2 a3 a5
theorem au.int{a b:Int}{h:Hz}(e:a=b):au (.int a) (.int b) h:=⟨by subst e; exact aB _⟩
theorem au.bool{a b:Bool}{h:Hz}(e:a=b):au (.bool a) (.bool b) h:=⟨by subst e; exact aB _⟩
theorem au.str{a b:Str}{h:Hz}(e:a=b):au (.str a) (.str b) h:=⟨by subst e; exact aB _⟩
theorem au.row{a b:Rw}{k:Nat}{f:Bool}{h:Hz}(e:a=b):au (.row k false a) (.row k f b) h:=⟨by
 subst e; simp only[V.aG,T.sub]; exact⟨.inl trivial,.inl trivial,fun h=>by cases h⟩⟩
theorem ah.pure{dr:Bool}{f:FuncId}{args:List V}{res:V}{h:Hz}{n:Nat}{K:V->Hz->Prop}{KW:Nat->V->Hz->Prop}(S:ak P f args res)(hr:res.free=true)(hK:K res h):ah P dr none f args h n K KW :=
 ⟨.inl (vM.use S (bZ _) ⟨res,h,rfl,rfl,fun _=>⟨rfl,V.mG res hr⟩,hK⟩)⟩
theorem ah.fP{dr:Bool}{b:Bool}{f:FuncId}{args:List V}{res:V}{h:Hz}{n:Nat}{K:V->Hz->Prop}{KW:Nat->V->Hz->Prop}(S:b=true->ak P f args res)(hr:res.free=true)(hK:K res h):ah P dr (some b) f args h n K KW :=
 ⟨.inl (.inl ⟨res,fun e=>vM.use (S e) (bZ _) ⟨rfl,rfl⟩,hr,hK⟩)⟩
def IE(m:Fm):List Nat->Fm->(Fm->Prop)->Prop
 |[],acc,K=>K acc
 |d::r,acc,K=>match m.get d with
  |some v=>v.seq fun v=>IE m r ((d,v)::acc) K
  |none=>False
theorem Ak{m:Fm}: ∀ {l:List Nat} {acc:Fm} {K:Fm->Prop},IE m l acc K->(∀ i v,acc.get i=some v->m.get i=some v)-> ∃ b,K b/\ ∀ i v,Fm.get i b=some v->m.get i=some v:=by
 intro l
 induction l with
 |nil=>intro acc K q ha; exact⟨acc,q,ha⟩
 |cons d r ih =>
  intro acc K q ha
  simp only[IE] at q
  split at q
  ·rename_i v hv
   rw[V.seq_eq] at q
   refine ih q ?_
   intro i u hu
   simp only[Fm.get] at hu
   cases hb:Nat.beq d i with
   |true=>rw[hb] at hu; cases hu; rw[<- jh hb]; exact hv
   |false=>rw[hb] at hu; exact ha i u hu
  ·exact q.elim
def J9(m':Fm):Fm->Prop
 |[]=>True
 |p::r=>(∃ v,m'.get p.1=some v/\p.2.aG=v.aG)/\J9 m' r
theorem Ko{m':Fm}: ∀ {m0:Fm},J9 m' m0-> ∀ {i:Nat} {v:V},m0.get i=some v-> ∃ u,m'.get i=some u/\v.aG=u.aG:=by
 intro m0
 induction m0 with
 |nil=>intro _ i v q; cases q
 |cons p r ih =>
  intro hs i v q
  simp only[Fm.get] at q
  cases hb:Nat.beq p.1 i with
  |true=>rw[hb] at q; cases q; rw[<- jh hb]; exact hs.1
  |false=>rw[hb] at q; exact ih hs.2 q
def Xw(nx N:Nat):Fm->Bool
 |[]=>true
 |p::r=>T.lt nx p.2.aG&&Nat.blt p.1 N&&Xw nx N r
theorem vI{nx N:Nat}: ∀ {m:Fm},Xw nx N m=true-> ∀ {i:Nat} {v:V},m.get i=some v->T.lt nx v.aG=true/\i<N:=by
 intro m
 induction m with
 |nil=>intro _ i v q; cases q
 |cons p r ih =>
  intro hs i v q
  simp only[Xw,Bool.and_eq_true] at hs
  simp only[Fm.get] at q
  cases hb:Nat.beq p.1 i with
  |true=>rw[hb] at q; cases q; exact⟨hs.1.1,by rw[<- jh hb]; simpa using hs.1.2⟩
  |false=>rw[hb] at q; exact ih hs.2 q
def uT(N:Nat)(m:Fm):List T:=(List.range N).map fun i=>match m.get i with|some v=>v.aG|none=>.any
theorem wZ{N:Nat}{m:Fm}:(uT N m).length=N:=by simp[uT]
theorem DN{N:Nat}{m:Fm}(hN: ∀ i v,m.get i=some v->i<N):Rp m (uT N m):=by
 intro i v q
 simp only[uT,List.getElem?_map,List.getElem?_range (hN i v q),Option.map_some,q]
theorem RI{Z:Nat->Prop}{h:Hp}: ∀ {a b:List T},a.length=b.length->(∀ (i:Nat) (t u:T),a[i]? =some t->b[i]? =some u->T.sub Z h t u)->T.dD Z h a b:=by
 intro a
 induction a with
 |nil=>intro b hl _; cases b with|nil=>trivial|cons _ _=>simp at hl
 |cons t a ih =>
  intro b hl H
  cases b with
  |nil=>simp at hl
  |cons u b=>exact⟨H 0 t u rfl rfl,ih (by simpa using hl) fun i t u h1 h2=>H (i+1) t u (by simpa using h1) (by simpa using h2)⟩
theorem RJ{Z:Nat->Prop}{h:Hp}{t:T}:T.sub Z h .any t:=by cases t<;>simp[T.sub]
theorem Xx{N:Nat}{m0 m:Fm}{fr:List T}{Z:Nat->Prop}{h:Hp}(hl:fr.length=N)(R:Rp m fr)(hs: ∀ i v,m0.get i=some v-> ∃ u,m.get i=some u/\v.aG=u.aG):T.dD Z h (uT N m0) fr:=by
 refine RI (by rw[wZ,hl]) fun i t u h1 h2=>?_
 simp only[uT,List.getElem?_map] at h1
 have hi:i<N:=by
  rcases Nat.lt_or_ge i N with h|h
  ·exact h
  ·rw[List.getElem?_eq_none (by simpa using h)] at h1; cases h1
 rw[List.getElem?_range hi] at h1
 simp only[Option.map_some,Option.some.injEq] at h1
 split at h1
 ·rename_i v hv
  obtain⟨w,hw,e⟩:=hs i v hv
  have:=R i w hw
  rw[h2] at this
  simp only[Option.some.injEq] at this
  subst h1; rw[this,e]; exact aB _
 ·subst h1; exact RJ
theorem DR{N nx:Nat}{m:Fm}(hg: ∀ i v,m.get i=some v->T.lt nx v.aG=true):T.aO (· <nx) (uT N m):=by
 rw[dB]
 intro t ht
 simp only[uT,List.mem_map] at ht
 obtain⟨i,_,e⟩:=ht
 split at e
 ·rename_i v hv; subst e; exact Ih (hg i v hv)
 ·subst e; simp[T.ids]
def OV.good(nx:Nat):OV->Bool
 | .row _ k r x=>(match r with| .nil=>true|r=>Nat.beq r.kd k)&&Jh k x&&T.LZ nx (V.aT x)&& !(Nat.beq k fF)
 | .box _ k v=>Jh k [v]&&T.lt nx v.aG&& !(Nat.beq k fF)
 | .map _ _ x=>x.all fun e=>T.lt nx e.2.aG
def rM(nx:Nat):Hz->Bool
 |[]=>true
 |(i,some o)::r=>Nat.blt i nx&&o.good nx&&rM nx r
 |(_,none)::r=>rM nx r
theorem sV{n:Nat}: ∀ {l:List T},T.LZ n l=true->T.aO (· <n) l:=by
 intro l
 induction l with
 |nil=>intro _; trivial
 |cons t l ih =>
  intro q
  simp only[T.LZ,Bool.and_eq_true] at q
  exact⟨Ih q.1,ih q.2⟩
theorem Rw.ids{M:Nat->Prop}(r:Rw):T.aO M r.aT:=by
 rw[dB]
 intro t ht
 cases r<;>simp only[Rw.aT,List.mem_map,List.not_mem_nil] at ht<;>obtain⟨x,_,rfl⟩:=ht<;>simp[eS,T.ids,T.aO,Qn,NZ,Gj,Xe,nX,sQ]
theorem Rw.kds{r:Rw}: ∀ t∈r.aT,t.kd=r.kd:=by
 intro t ht
 cases r<;>simp only[Rw.aT,List.mem_map,List.not_mem_nil] at ht<;>obtain⟨x,_,rfl⟩:=ht<;>rfl
theorem Zx{k:Nat}{l:List V}(q:Jh k l=true): ∀ t∈V.aT l,t.kd=k:=by
 intro t ht
 rw[nZ,List.mem_map] at ht
 obtain⟨v,hv,rfl⟩:=ht
 exact V.LK (F7 q v hv)
theorem RN{k:Nat}{l:List T}(hk:k≠fF)(h: ∀ t∈l,t.kd=k):Ru k l=true:=by
 unfold Ru
 have:(k==1000000007)=false:=by simpa using hk
 rw[this]; simp only[cond_false,List.all_eq_true,beq_iff_eq]; exact h
theorem OV.DT{nx:Nat}{o:OV}(q:o.good nx=true):T.aO (· <nx) o.aF.l/\Ru o.aF.k o.aF.l=true:=by
 cases o with
 |row ty k r x =>
  simp only[OV.good,Bool.and_eq_true,Bool.not_eq_true'] at q
  obtain⟨⟨⟨q1,q2⟩,q3⟩,q4⟩:=q
  simp only[OV.aF]
  refine⟨eG.2 ⟨r.ids,sV q3⟩,RN (Nat.ne_of_beq_eq_false q4) fun t ht=>?_⟩
  rcases List.mem_append.1 ht with ht|ht
  ·split at q1
   ·cases ht
   ·rw[<- jh q1]; exact Rw.kds t ht
  ·exact Zx q2 t ht
 |box ty k v =>
  simp only[OV.good,Bool.and_eq_true,Bool.not_eq_true'] at q
  obtain⟨⟨q1,q2⟩,q3⟩:=q
  simp only[OV.aF]
  refine⟨⟨Ih q2,trivial⟩,RN (Nat.ne_of_beq_eq_false q3) fun t ht=>?_⟩
  rw[List.mem_singleton] at ht; subst ht; exact UG q1
 |map ty es x =>
  simp only[OV.good,List.all_eq_true] at q
  simp only[OV.aF]
  refine⟨?_,?_⟩
  ·rw[dB]
   intro t ht
   rcases List.mem_append.1 ht with ht|ht
   ·rw[List.mem_map] at ht
    obtain⟨e,_,rfl⟩:=ht
    simp[yI,T.ids,T.aO]
   ·rw[List.mem_map] at ht
    obtain⟨e,he,rfl⟩:=ht
    simp only[yH,T.ids,T.aO]; exact⟨trivial,Ih (q e he),trivial⟩
  ·unfold Ru
   simp[fF,fQ,yI,yH]
theorem kL{nx:Nat}: ∀ {h:Hz},rM nx h=true->HpG nx h.aj:=by
 intro h
 induction h with
 |nil=>intro _ i ob e; simp[Hz.aj,Hz.get] at e
 |cons p r ih =>
  obtain⟨j,o⟩:=p
  intro q
  rw[bD]
  cases o with
  |none=>exact Zg (ih q)
  |some o =>
   simp only[rM,Bool.and_eq_true] at q
   obtain⟨g1,g2⟩:=OV.DT q.1.2
   exact Zf (ih q.2) (by simpa using q.1.1) g1 g2
def zG(nx:Nat):Hz->Hz
 |[]=>[]
 |(i,o)::r=>bif Nat.blt i nx then(i,o)::zG nx r else zG nx r
theorem IG{nx i:Nat}(hi:i<nx): ∀ {h:Hz},(zG nx h).get i=h.get i:=by
 intro h
 induction h with
 |nil=>rfl
 |cons p r ih =>
  obtain⟨j,o⟩:=p
  simp only[zG]
  cases hb:Nat.blt j nx with
  |true=>simp only[cond_true,Hz.get]; cases Nat.beq j i<;>simp[ih]
  |false =>
   simp only[cond_false,Hz.get]
   have hne:Nat.beq j i=false:=by
    cases e:Nat.beq j i with
    |false=>rfl
    |true =>
     have:=jh e; subst this
     have:Nat.blt j nx=true:=by simpa using hi
     rw[this] at hb; cases hb
   rw[hne]; exact ih
structure acY{ι:Type}(inv:ι->Prop)(μ:ι->Nat)(vars:ι->Fm)(base:Fm)(hs:Hz)(nx:Nat)(i:ι)(m:Fm)(h:Hz):Prop where
 ok: ∃ j,inv j/\μ j<μ i/\J9 m (vars j)/\J9 m base/\zG nx h=hs
theorem get_append{a b:Fm}{i:Nat}{v:V}(q:Fm.get i (a++b)=some v):a.get i=some v\/Fm.get i b=some v:=by
 induction a with
 |nil=>exact .inr q
 |cons p r ih =>
  simp only[List.cons_append,Fm.get] at q ⊢
  cases hb:Nat.beq p.1 i with
  |true=>rw[hb] at q; exact .inl q
  |false=>rw[hb] at q; exact ih q
theorem aJ.same{N pn nx:Nat}{b:dR}{Q:Qz}{m:Fm}{h:Hz}{ι:Type}(live:List Nat)(vars:ι->Fm)(inv:ι->Prop)(μ:ι->Nat)(i0:ι)(hd:oQ N b=true)(hp:pn<=nx)(hg:rM nx h=true)(hv: ∀ i,Xw nx N (vars i)=true)(h0:inv i0)(he:J9 m (vars i0))
  (H:IE m live [] fun base=>Xw nx N base=true/\ ∀ i,inv i->az P N pn b (fun e m' h' n'=>match e with
   | .normal=>acY inv μ vars base (zG nx h) nx i m' h'
   |e=>Q e m' h' n') (vars i++base) h nx):aJ P N pn b Q m h nx:=by
 obtain⟨base,⟨hb,H⟩,hbm⟩:=Ak H (fun i v q=>by cases q)
 refine⟨fun fr hl R=>?_⟩
 have hall: ∀ i j v,Fm.get j (vars i++base)=some v->T.lt nx v.aG=true/\j<N:=fun i j v q=>by
  rcases get_append q with q|q
  ·exact vI (hv i) q
  ·exact vI hb q
 have wk: ∀ (i:ι) (m':Fm) (h':Hz) (s':AS),s'.fr.length=N->Rp m' s'.fr->s'.hp=h'.aj->s'.pin=pn->J9 m' (vars i)->(∀ j v,Fm.get j base=some v-> ∃ u,m'.get j=some u/\v.aG=u.aG)->zG nx h'=zG nx h ->
   Wk ⟨uT N (vars i++base),h.aj,nx,pn⟩ s':=by
  intro i m' h' s' a1 a2 a3 a4 a5 a6 a7
  obtain⟨fr',hp',nx',pn'⟩:=s'
  simp only at a1 a2 a3 a4
  subst a3; subst a4
  refine Wk.same (Xx a1 a2 fun j v q=>?_) (DR fun j v q=>(hall i j v q).1) (kL hg) (fun j hj=>?_) hp
  ·rcases get_append q with q|q
   ·exact Ko a5 q
   ·exact a6 j v q
  ·simp only[Hz.aj]; rw[<- IG hj,a7,IG hj]
 refine yB.rule (fun i=>⟨uT N (vars i++base),h.aj,nx,pn⟩) inv μ i0 h0 (wk i0 m h _ hl R rfl rfl he (fun j v q=>⟨v,hbm j v q,rfl⟩) rfl) ?_
 intro i hi
 have:=mZ (P:=P) (N:=N) (pn:=pn) (s:=⟨uT N (vars i++base),h.aj,nx,pn⟩) hd wZ (DN fun j v q=>(hall i j v q).2) rfl rfl (H i hi)
 refine jH ?_ this
 rintro e s' ⟨m',h',a1,a2,a3,a4,a5⟩
 cases e with
 |normal =>
  obtain⟨j,b1,b2,b3,b4,b5⟩:=a5.ok
  exact⟨j,⟨b1,b2⟩,wk j m' h' s' a1 a2 a3 a4 b3 (fun j v q=>Ko b4 q) b5⟩
 |exit j=>exact⟨m',h',a1,a2,a3,a4,a5⟩
 |ret=>exact⟨m',h',a1,a2,a3,a4,a5⟩
end
def sq(l:List aP)(c:dR):dR:=.seq (.reg false l) c
def qm(d x:Nat):aP:=o d (.mv (.t x))
def aX(d:Nat)(n:Int):aP:=o d (.mv (.c (.int n)))
def qv(d:Nat)(b:Bool):aP:=o d (.mv (.c (.bool b)))
def qb(op:BinOp)(d x y:Nat):aP:=o d (.bin op (.t x) (.t y))
def qk(op:BinOp)(d x:Nat)(n:Int):aP:=o d (.bin op (.t x) (.c (.int n)))
def ql(d k x:Nat):aP:=o d (.ld k (.t x))
def qf(d a k x:Nat):aP:=o d (.fa a k (.t x))
def qi(d k x y:Nat):aP:=o d (.ia k (.t x) (.t y))
def qn(d x:Nat):aP:=o d (.len false (.t x))
def qo(d a b:Nat):aP:=o d (.pick (.t a) (.c (.bool true)) (.t b))
def qa(d a b:Nat):aP:=o d (.pick (.t a) (.t b) (.c (.bool false)))
def qx(d x:Nat):aP:=o d (.not (.t x))
def qe(d x i:Nat):aP:=o d (.ex (.t x) i)
def qB(d:Nat)(ty:TypeId)(k x:Nat):aP:=o d (.box ty k (.t x))
def qs(k x y:Nat):aP:=ov (.st k (.t x) (.t y))
def qC(d:Nat)(f:FuncId)(l:List Nat):aP:=o d (.call f (l.map .t))
def aP.w(q:aP)(g:Nat):aP:=⟨q.d,q.op,some (g,true),q.fl,q.ne,q.ad⟩
def aP.n(q:aP)(g:Nat):aP:=⟨q.d,q.op,some (g,false),q.fl,q.ne,q.ad⟩
theorem Body.of{P:Program}{f:FuncId}{fn:Func}{ac:dR}{rs:List RV}{nt:Nat}(h1:P.funcs[f]? =some fn)(h2:(fn.body.isSome,comp P (fn.body.getD .skip),jG P fn.results.toList,fn.ntmps,oQ nt ac)=(true,some ac,some rs,nt,true))(h3:callable P f):Body P f ac rs nt:=by
 simp only[Prod.mk.injEq] at h2
 obtain⟨a,b,c,d,e⟩:=h2
 obtain⟨cd,hc⟩:=Option.isSome_iff_exists.1 a
 rw[hc] at b
 exact⟨⟨fn,cd,h1,hc,b,c,d⟩,h3,e⟩
section
variable {P:Program}
def bn(a b:List T):Prop:= ∀ (Z:Nat->Prop) (h:Hp),T.dD Z h a b
theorem bn.refl(a:List T):bn a a:=fun _ _=>bZ a
def OV.KD:OV->Bool
 | .row _ _ _ x=>V.dH x
 | .box _ _ v=>v.free
 | .map _ _ x=>V.dH (x.map (·.2))
theorem OV.F8{o:OV}(q:o.KD=true):T.aO (fun _=>False) o.aF.l:=by
 cases o with
 |row ty k r x=>exact eG.2 ⟨r.ids,dw (V.iq x q)⟩
 |box ty k v=>exact⟨gX (V.mG v q),trivial⟩
 |map ty es x =>
  simp only[OV.KD] at q
  refine eG.2 ⟨dB.2 fun t ht=>?_,dB.2 fun t ht=>?_⟩
  ·obtain⟨e,_,rfl⟩:=List.mem_map.1 ht
   simp[yI,T.ids,T.aO]
  ·obtain⟨e,he,rfl⟩:=List.mem_map.1 ht
   simp only[yH,T.ids,T.aO]
   refine⟨trivial,?_,trivial⟩
   have:=dw (V.iq _ q)
   rw[dB] at this
   exact this _ (by rw[nZ,List.map_map]; exact List.mem_map.2 ⟨e,he,rfl⟩)
theorem OV.CU{o:OV}(q:o.KD=true)(ρ:Nat->Nat):T.cu ρ o.aF.l=o.aF.l:=sZ _ (OV.F8 q)
def oZ:List (Nat×OV)->List Nat->Nat->Nat
 |(c,_)::r,n::s,i=>bif Nat.beq i c then n else oZ r s i
 |_,_,i=>i
def Gv(n:Nat):List Nat->Bool
 |[]=>true
 |m::r=> !(Nat.beq n m)&&Gv n r
def UK(nx pn:Nat)(h:Hz):List (Nat×OV)->List Nat->Prop
 |[],[]=>True
 |(c,o)::r,n::s=>(Nat.blt c nx=true/\(Nat.blt c pn=true->n=c)/\Gv n s=true/\o.good nx=true/\o.KD=true /\
   ∃ o',h.get n=some o'/\o'.aF.ty=o.aF.ty/\o'.aF.k=o.aF.k/\bn o.aF.l o'.aF.l)/\UK nx pn h r s
 |_,_=>False
def zH:List (Nat×OV)->List Nat->List (Nat×Nat×Ob)
 |(c,o)::r,n::s=>(c,n,o.aF)::zH r s
 |_,_=>[]
def L8(l:List (Nat×OV)):Hz:=l.map fun p=>(p.1,some p.2)
theorem II: ∀ {l:List (Nat×OV)} {s:List Nat} {i:Nat},BQ (zH l s) i=oZ l s i:=by
 intro l
 induction l with
 |nil=>intro s i; cases s<;>rfl
 |cons p r ih =>
  obtain⟨c,o⟩:=p
  intro s i
  cases s with
  |nil=>rfl
  |cons n s =>
   simp only[zH,BQ,oZ]
   rw[ih]
   cases hb:Nat.beq i c with
   |true=>rw[if_pos (jh hb)]; rfl
   |false=>rw[if_neg (Nat.ne_of_beq_eq_false hb)]; rfl
theorem Zy{nx pn:Nat}{h:Hz}: ∀ {l:List (Nat×OV)} {s:List Nat},UK nx pn h l s->hpL (zH l s)=(L8 l).aj:=by
 intro l
 induction l with
 |nil=>intro s q; cases s with
  |nil=>rfl
  |cons _ _=>exact q.elim
 |cons p r ih =>
  obtain⟨c,o⟩:=p
  intro s q
  cases s with
  |nil=>exact q.elim
  |cons n s =>
   simp only[zH,hpL]
   have e:L8 ((c,o)::r)=(c,some o)::L8 r:=rfl
   rw[e,bD,ih q.2]; rfl
theorem Oj{n:Nat}: ∀ {l:List (Nat×OV)} {s:List Nat},Gv n s=true-> ¬ Lu (zH l s) n:=by
 intro l
 induction l with
 |nil=>intro s _ q; cases s<;>exact q
 |cons p r ih =>
  obtain⟨c,o⟩:=p
  intro s hs q
  cases s with
  |nil=>exact q
  |cons m s =>
   simp only[Gv,Bool.and_eq_true] at hs
   simp only[zH,Lu] at q
   rcases q with q|q
   ·rw[q,Nat.beq_refl] at hs; cases hs.1
   ·exact ih hs.2 q
theorem Zz{nx pn:Nat}{h:Hz}{Z:Nat->Prop}{ρ:Nat->Nat}: ∀ {l:List (Nat×OV)} {s:List Nat},UK nx pn h l s->okL Z ρ h.aj nx pn (zH l s):=by
 intro l
 induction l with
 |nil=>intro s _; cases s<;>trivial
 |cons p r ih =>
  obtain⟨c,o⟩:=p
  intro s q
  cases s with
  |nil=>exact q.elim
  |cons n s =>
   obtain⟨⟨q1,q2,q3,q4,q5,o',q6,q7,q8,q9⟩,q⟩:=q
   obtain⟨g1,g2⟩:=OV.DT q4
   refine⟨⟨Nat.blt_eq.mp q1,fun hc=>q2 (Nat.blt_eq.mpr hc),Oj q3,g1,g2,o'.aF.l,?_,?_⟩,ih q⟩
   ·have:=aH q6
    show h.aj n=some ⟨o.aF.ty,o.aF.k,o'.aF.l⟩
    rw[this,<- q7,<- q8]
   ·show T.dD Z h.aj (T.cu ρ o.aF.l) o'.aF.l
    rw[OV.CU q5]; exact q9 _ _
def oU(ρ:Nat->Nat)(m':Fm):Fm->Prop
 |[]=>True
 |(i,v)::r=>(∃ u,m'.get i=some u/\bn [v.aG.ren ρ] [u.aG])/\oU ρ m' r
theorem tN{ρ:Nat->Nat}{m':Fm}: ∀ {m0:Fm},oU ρ m' m0-> ∀ {i:Nat} {v:V},m0.get i=some v-> ∃ u,m'.get i=some u/\bn [v.aG.ren ρ] [u.aG]:=by
 intro m0
 induction m0 with
 |nil=>intro _ i v q; cases q
 |cons p r ih =>
  obtain⟨j,w⟩:=p
  intro hs i v q
  simp only[Fm.get] at q
  cases hb:Nat.beq j i with
  |true=>rw[hb] at q; cases q; rw[<- jh hb]; exact hs.1
  |false=>rw[hb] at q; exact ih hs.2 q
theorem bn.eq{a b:T}(h:a=b):bn [a] [b]:=by subst h; exact .refl _
theorem ES{N:Nat}{m0 m:Fm}{fr:List T}{Z:Nat->Prop}{h:Hp}{ρ:Nat->Nat}(hl:fr.length=N)(R:Rp m fr)(hs: ∀ i v,m0.get i=some v-> ∃ u,m.get i=some u/\bn [v.aG.ren ρ] [u.aG]):T.dD Z h (T.cu ρ (uT N m0)) fr:=by
 refine RI (by rw[rY,wZ,hl]) fun i t u h1 h2=>?_
 have e: ∀ l:List T,T.cu ρ l=l.map (T.ren ρ):=by
  intro l
  induction l with
  |nil=>rfl
  |cons a l ih=>simp only[T.cu,List.map_cons,ih]
 rw[e] at h1
 simp only[uT,List.getElem?_map] at h1
 have hi:i<N:=by
  rcases Nat.lt_or_ge i N with h|h
  ·exact h
  ·rw[List.getElem?_eq_none (by simpa using h)] at h1; cases h1
 rw[List.getElem?_range hi] at h1
 simp only[Option.map_some,Option.some.injEq] at h1
 split at h1
 ·rename_i v hv
  obtain⟨w,hw,e⟩:=hs i v hv
  have:=R i w hw
  rw[h2] at this
  simp only[Option.some.injEq] at this
  subst h1; rw[this]; exact(e Z h).1
 ·subst h1; exact RJ
structure acZ{ι:Type}(inv:ι->Prop)(μ:ι->Nat)(vars:ι->Fm)(objs:ι->List (Nat×OV))(base:Fm)(nx pn:Nat)(i:ι)(m:Fm)(h:Hz):Prop where
 ok: ∃ j nw,inv j/\μ j<μ i/\oU (oZ (objs j) nw) m (vars j)/\oU (oZ (objs j) nw) m base/\UK nx pn h (objs j) nw
theorem aJ.objs{N pn nx0:Nat}(nx:Nat){b:dR}{Q:Qz}{m:Fm}{h:Hz}{ι:Type}(live:List Nat)(vars:ι->Fm)(objs:ι->List (Nat×OV))(inv:ι->Prop)(μ:ι->Nat)(i0:ι)(OU:List Nat)(hd:oQ N b=true)(hp:pn<=nx)(hv: ∀ i,Xw nx N (vars i)=true)(h0:inv i0)
  (he:oU (oZ (objs i0) OU) m (vars i0)) (ho:UK nx pn h (objs i0) OU)
  (H:IE m live [] fun base=>oU (oZ (objs i0) OU) m base/\Xw nx N base=true/\ ∀ i,inv i->az P N pn b (fun e m' h' n'=>match e with
   | .normal=>acZ inv μ vars objs base nx pn i m' h'
   |e=>Q e m' h' n') (vars i++base) (L8 (objs i)) nx):aJ P N pn b Q m h nx0:=by
 obtain⟨base,⟨hbs,hb,H⟩,hbm⟩:=Ak H (fun i v q=>by cases q)
 refine⟨fun fr hl R=>?_⟩
 have hall: ∀ i j v,Fm.get j (vars i++base)=some v->T.lt nx v.aG=true/\j<N:=fun i j v q=>by
  rcases get_append q with q|q
  ·exact vI (hv i) q
  ·exact vI hb q
 have wk: ∀ (i:ι) (nw:List Nat) (m':Fm) (h':Hz) (s':AS),s'.fr.length=N->Rp m' s'.fr->s'.hp=h'.aj->s'.pin=pn->oU (oZ (objs i) nw) m' (vars i)->oU (oZ (objs i) nw) m' base->UK nx pn h' (objs i) nw ->
   Wk ⟨uT N (vars i++base),(L8 (objs i)).aj,nx,pn⟩ s':=by
  intro i nw m' h' s' a1 a2 a3 a4 a5 a6 a7
  obtain⟨fr',hp',nx',pn'⟩:=s'
  simp only at a1 a2 a3 a4
  subst a3; subst a4
  rw[<- Zy a7]
  refine Wk.objs (zH (objs i) nw) (ES a1 a2 fun j v q=>?_) (DR fun j v q=>(hall i j v q).1) hp (Zz a7)
  have e:BQ (zH (objs i) nw)=oZ (objs i) nw:=funext fun _=>II
  rw[e]
  rcases get_append q with q|q
  ·exact tN a5 q
  ·exact tN a6 q
 refine yB.rule (fun i=>⟨uT N (vars i++base),(L8 (objs i)).aj,nx,pn⟩) inv μ i0 h0 (wk i0 OU m h _ hl R rfl rfl he hbs ho) ?_
 intro i hi
 have:=mZ (P:=P) (N:=N) (pn:=pn) (s:=⟨uT N (vars i++base),(L8 (objs i)).aj,nx,pn⟩) hd wZ (DN fun j v q=>(hall i j v q).2) rfl rfl (H i hi)
 refine jH ?_ this
 rintro e s' ⟨m',h',a1,a2,a3,a4,a5⟩
 cases e with
 |normal =>
  obtain⟨j,nw,b1,b2,b3,b4,b5⟩:=a5.ok
  exact⟨j,⟨b1,b2⟩,wk j nw m' h' s' a1 a2 a3 a4 b3 b4 b5⟩
 |exit j=>exact⟨m',h',a1,a2,a3,a4,a5⟩
 |ret=>exact⟨m',h',a1,a2,a3,a4,a5⟩
theorem aJ.nil{N pn nx:Nat}{b:dR}{Q:Qz}{m:Fm}{h:Hz}(d ty k:Nat){k':Nat}{r:Rw}(hd:m.get d=some (.row k' true r))(hr:r.aT=[])(hk:yL k=true)(hN:Nat.blt d N=true)
  (H:aJ P N pn b Q ((d,.own nx)::m) ((nx,some (.row ty k .nil []))::h) (nx+1)):aJ P N pn b Q m h nx:=by
 refine⟨fun fr hl R=>?_⟩
 have hdl:d<fr.length:=by rw[hl]; exact Nat.blt_eq.mp hN
 have hget:fr.getD d .any= .sl k' true []:=by
  rw[R.getD hd]; simp only[V.aG,hr]
 have H':=H.ok (fr.set d (.own nx)) (by simpa using hl) (fun i v q=>by
  simp only[Fm.get] at q
  cases hb:Nat.beq d i with
  |true=>rw[hb] at q; cases q; rw[<- jh hb]; simp[hdl,V.aG]
  |false =>
   rw[hb] at q
   rw[List.getElem?_set_ne (Nat.ne_of_beq_eq_false hb)]; exact R i v q)
 have e:Hz.aj ((nx,some (.row ty k .nil []))::h)=upd h.aj nx (some ⟨ty,k,[]⟩):=by rw[bD]; rfl
 rw[e] at H'
 obtain⟨I,μ,⟨s0,w0,i0⟩,round⟩:=H'
 exact⟨I,μ,⟨s0,Wk.Zc d ty k hget hk w0,i0⟩,round⟩
structure iI(h0:Hz)(n:Nat)(post:T->Hp->Prop)(v:V)(h:Hz):Prop where
 ok: ∃ (Z:Nat->Prop) (ρ:Nat->Nat) (t:T) (h':Hp),post t h'/\T.sub Z h.aj (t.ren ρ) v.aG/\(∀ i ob,h' i=some ob-> ∃ ob',h.aj (ρ i)=some ob'/\ ¬ Z (ρ i)/\Gg Z h.aj ρ ob ob') /\
  (∀ i j,(h' i).isSome=true->(h' j).isSome=true->ρ i=ρ j->i=j)/\t.ids (fun i=>(h0.aj i).isSome=true\/i=n)/\lS (fun i=>(h0.aj i).isSome=true\/i=n) h' /\
  ∀ i,(h0.aj i).isSome=true->(h' i).isSome=true->ρ i=i
def aaj(h0:Hz)(n:Nat)(post:T->Hp->Prop)(rs:List RV):Qz
 | .exit _,_,_,_=>False
 |_,m,h,_=>match resV m h rs with
  |some v=>v.seq fun v=>iI h0 n post v h
  |none=>False
theorem pR.of{f:FuncId}{ac:dR}{rs:List RV}{nt nx n:Nat}{args:List V}{h0:Hz}{post:T->Hp->Prop}(B:Body P f ac rs nt)(hn:args.length<=nt)(hin: ∃ t h',post t h')(ha:T.LZ nx (V.aT args)=true)(hg:rM nx h0=true)
  (H:az P nt nx ac (aaj h0 n post rs) (yh 0 args) h0 nx):aN P f (V.aT args) h0.aj n post:=by
 obtain⟨fn,c,h1,h2,h3,h4,h5⟩:=B.ex
 have hG:=kL hg
 refine aN.vF (nx:=nx) h1 h2 h3 h4 B.cl h5 hin (sV ha) (fun i ob hi=>⟨(hG i ob hi).1,(hG i ob hi).2.1⟩) ?_
 have:=mZ (P:=P) (N:=nt) (pn:=nx) (s:=⟨V.aT args++List.replicate (nt-(V.aT args).length) T.un,h0.aj,nx,nx⟩) B.dst (by simp[gu]; omega) uN rfl rfl H
 refine jH ?_ this
 rintro e s ⟨m,h,a1,a2,a3,a4,a5⟩
 have key: ∀ {m h},Rp m s.fr->s.hp=Hz.aj h->(match resV m h rs with|some v=>v.seq fun v=>iI h0 n post v h|none=>False)-> ∃ s1,Ez s1 s/\Ret h0.aj n post rs s1:=by
  intro m h a2 a3 q
  split at q
  ·rename_i v hv
   rw[V.seq_eq] at q
   obtain⟨b1,b2⟩:=DL a2 a3 hv
   obtain⟨Z,ρ,t,h',c1,c2,c3,c4,c5,c6,c7⟩:=q.ok
   exact⟨s,.refl _,b1,Z,ρ,t,h',c1,by rw[b2,a3]; exact c2,by rw[a3]; exact c3,c4,c5,c6,c7⟩
  ·exact q.elim
 cases e with
 |exit j=>exact a5.elim
 |normal=>exact key a2 a3 a5
 |ret=>exact key a2 a3 a5
theorem iI.one{h0 h:Hz}{n c j:Nat}{post:T->Hp->Prop}{v:V}{o:OV}{t:T}(hj:h.get j=some o)(hg:o.good (j+1)=true)(hf:o.KD=true)(hc:(h0.get c).isSome=true->j=c)(hc':(h0.get c).isSome=true\/c=n)
  (ht:t.ids (fun i=>i=c)) (hv:bn [t.ren fun _=>j] [v.aG]) (hp:post t (Hz.aj [(c,some o)])):iI h0 n post v h:=by
 have hgood:=(OV.DT hg).2
 have hM: ∀ i,i=c->(h0.aj i).isSome=true\/i=n:=by
  rintro i rfl
  rcases hc' with h|h
  ·left; simpa [Hz.aj] using h
  ·exact .inr h
 have hx: ∀ i ob,Hz.aj [(c,some o)] i=some ob->i=c/\ob=o.aF:=fun i ob hi=>by
  simp only[Hz.aj,Hz.get] at hi
  cases hb:Nat.beq c i with
  |true=>rw[hb] at hi; simp only[cond_true,Option.map_some,Option.some.injEq] at hi; exact⟨(jh hb).symm,hi.symm⟩
  |false=>rw[hb] at hi; simp at hi
 refine⟨fun i=>i≠j,fun _=>j,t,Hz.aj [(c,some o)],hp,(hv _ _).1,fun i ob hi=>?_,fun i i' hi hi' _=>?_,T.bQ hM _ ht,fun i ob hi=>?_,fun i hi hi'=>?_⟩
 ·obtain⟨rfl,rfl⟩:=hx i ob hi
  refine⟨o.aF,aH hj,by simp,rfl,rfl,?_,zA hgood⟩
  rw[OV.CU hf]; exact bZ _
 ·obtain⟨oi,hi⟩:=Option.isSome_iff_exists.1 hi
  obtain⟨oj,hi'⟩:=Option.isSome_iff_exists.1 hi'
  rw[(hx _ _ hi).1,(hx _ _ hi').1]
 ·obtain⟨rfl,rfl⟩:=hx i ob hi
  exact⟨hM _ rfl,T.ay (fun _ h=>h.elim) _ (OV.F8 hf)⟩
 ·obtain⟨oi,hi'⟩:=Option.isSome_iff_exists.1 hi'
  obtain⟨rfl,_⟩:=hx _ _ hi'
  exact hc (by simpa [Hz.aj] using hi)
theorem ah.heap{f:FuncId}{args:List V}{h:Hz}{n:Nat}{K:V->Hz->Prop}{KW:Nat->V->Hz->Prop}{post:T->Hp->Prop}(S:aN P f (V.aT args) h.aj n post)(hK: ∀ t hp,post t hp-> ∃ v h',t=v.aG/\hp=Hz.aj h'/\K v h'):ah P false none f args h n K KW :=
 ⟨.inl (S.mono fun t hp q=>by
  obtain⟨v,h',h1,h2,h3⟩:=hK t hp q
  exact⟨v,h',h1,h2,(fun e=>by cases e),h3⟩)⟩
end
section
variable {P:Program}
def LoopN(body:(oL->AS->Prop)->AS->Prop)(Q:oL->AS->Prop):Nat->AS->Prop
 |0,_=>False
 |k+1,s=>body (fun e s'=>match e with| .normal=>LoopN body Q k s'|e=>Q e s') s
open Classical in
theorem yB.ofN{b:dR}{Q:oL->AS->Prop}{k:Nat}{s:AS}(h:LoopN (aw P b) Q k s):yB (aw P b) Q s:=by
 let I:AS->Nat->Prop:=fun s n=>LoopN (aw P b) Q n s
 let μ:AS->Nat:=fun s=>if hh: ∃ n,I s n then Classical.choose (Qo _ (Classical.choose_spec hh)) else 0
 have hμ: ∀ s,(∃ n,I s n)->I s (μ s)/\ ∀ k,I s k->μ s<=k:=by
  intro s hh
  have e:μ s=Classical.choose (Qo _ (Classical.choose_spec hh)):=dif_pos hh
  rw[e]
  exact Classical.choose_spec (Qo _ (Classical.choose_spec hh))
 refine⟨fun s=> ∃ n,I s n,μ,⟨s,⟨s,.refl _,.inl rfl⟩,k,h⟩,fun s hI=>?_⟩
 have h2:=(hμ s hI).1
 generalize hm:μ s=m at h2
 cases m with
 |zero=>exact h2.elim
 |succ m =>
  have h3:aw P b (fun e s'=>match e with| .normal=>LoopN (aw P b) Q m s'|e=>Q e s') s:=h2
  refine jH ?_ h3
  intro e s' q
  cases e with
  |normal=>exact⟨s',⟨s',.refl _,.inl rfl⟩,⟨m,q⟩,by have:=(hμ s' ⟨m,q⟩).2 m q; omega⟩
  |exit j=>exact q
  |ret=>exact q
def azN(P:Program)(N pn:Nat)(b:dR)(Q:Qz):Nat->Fm->Hz->Nat->Prop
 |0,_,_,_=>False
 |k+1,m,h,nx=>az P N pn b (fun e m' h' nx'=>match e with| .normal=>azN P N pn b Q k m' h' nx'|e=>Q e m' h' nx') m h nx
theorem aJ.times{N pn nx:Nat}{b:dR}{Q:Qz}{m:Fm}{h:Hz}(k:Nat)(hd:oQ N b=true)(H:azN P N pn b Q k m h nx):aJ P N pn b Q m h nx:=by
 refine⟨fun fr hl R=>yB.ofN (k:=k) ?_⟩
 have key: ∀ (k:Nat) {m:Fm} {h:Hz} {nx:Nat} {s:AS},s.fr.length=N->Rp m s.fr->s.hp=h.aj->s.pin=pn->s.nx=nx->azN P N pn b Q k m h nx->LoopN (aw P b) (Lift N pn Q) k s:=by
  intro k
  induction k with
  |zero=>intro m h nx s _ _ _ _ _ H; exact H.elim
  |succ k ih =>
   intro m h nx s a1 a2 a3 a4 a5 H
   subst a5
   have:=mZ (P:=P) (N:=N) (pn:=pn) (s:=s) hd a1 a2 a3 a4 H
   show aw P b _ s
   refine jH ?_ this
   rintro e s' ⟨m',h',b1,b2,b3,b4,b5⟩
   cases e with
   |normal=>exact ih b1 b2 b3 b4 rfl b5
   |exit j=>exact⟨m',h',b1,b2,b3,b4,b5⟩
   |ret=>exact⟨m',h',b1,b2,b3,b4,b5⟩
 exact key k hl R rfl rfl rfl H
end
section
variable {P:Program}
theorem Kq{Z:Nat->Prop}{h:Hp}{t u:T}: ∀ {fr:List T} {j:Nat},fr[j]? =some u->T.sub Z h t u->T.dD Z h (fr.set j t) fr
 |[],_,e,_=>by simp at e
 |a::r,0,e,q=>by
  simp only[List.getElem?_cons_zero,Option.some.injEq] at e; subst e
  exact⟨q,bZ _⟩
 |a::r,j+1,e,q=>by
  simp only[List.getElem?_cons_succ] at e
  exact⟨aB _,Kq e q⟩
theorem aJ.fz{N pn nx:Nat}{b:dR}{Q:Qz}{m:Fm}{h:Hz}(d i k:Nat)(r:Rw)(hd:m.get d=some (.own i))(hN:Nat.blt d N=true)(hs:T.sub (fun j=>j=i) h.aj (V.row k false r).aG (V.own i).aG)
  (H:aJ P N pn b Q ((d,.row k false r)::m) ((i,none)::h) nx):aJ P N pn b Q m h nx:=by
 refine⟨fun fr hl R=>?_⟩
 have hdl:d<fr.length:=by rw[hl]; exact Nat.blt_eq.mp hN
 have hget:fr[d]? =some (V.own i).aG:=R d _ hd
 have H':=H.ok (fr.set d (V.row k false r).aG) (by simpa using hl) (fun j v q=>by
  simp only[Fm.get] at q
  cases hb:Nat.beq d j with
  |true=>rw[hb] at q; cases q; rw[<- jh hb]; simp[hdl]
  |false =>
   rw[hb] at q
   rw[List.getElem?_set_ne (Nat.ne_of_beq_eq_false hb)]; exact R j v q)
 obtain⟨I,μ,⟨s0,⟨s1,w1,w2⟩,i0⟩,round⟩:=H'
 have F:WG (fun j=>j=i) ⟨fr.set d (V.row k false r).aG,Hz.aj ((i,none)::h),nx,pn⟩ ⟨fr,h.aj,nx,pn⟩:=by
  refine⟨Kq hget hs,fun j ob hj=>?_,rfl,rfl⟩
  have hne:j≠i:=by
   rintro rfl
   simp[Hz.aj,Hz.get] at hj
  have hj':h.aj j=some ob:=by
   have hb:Nat.beq i j=false:=by
    cases hb:Nat.beq i j with
    |false=>rfl
    |true=>exact absurd (Nat.eq_of_beq_eq_true hb).symm hne
   simp only[Hz.aj,Hz.get,hb] at hj ⊢; exact hj
  exact⟨ob,hj',hne,rfl,rfl,bZ _,rfl,rfl⟩
 exact⟨I,μ,⟨s0,⟨s1,w1.trans (.fz F (.refl _)),w2⟩,i0⟩,round⟩
end
section
variable {P:Program}
theorem kQ{o:OV}(q:o.KD=true)(ρ:Nat->Nat):o.aF.ren ρ=o.aF:=by
 have:=OV.CU q ρ
 unfold Ob.ren
 rw[this]
theorem sG{j:Nat}{o:OV}{i:Nat}:Hz.aj [(j,some o)] i=if i=j then some o.aF else none:=by
 simp only[Hz.aj,Hz.get]
 cases hb:Nat.beq j i with
 |true=>rw[if_pos (jh hb).symm]; rfl
 |false=>rw[if_neg (fun e=>Nat.ne_of_beq_eq_false hb e.symm)]; rfl
theorem cZ{j i:Nat}{o:Option OV}{h:Hz}:Hz.aj ((j,o)::h) i=if i=j then o.map OV.aF else h.aj i:=by
 simp only[Hz.aj,Hz.get]
 cases hb:Nat.beq j i with
 |true=>rw[if_pos (jh hb).symm]; rfl
 |false=>rw[if_neg (fun e=>Nat.ne_of_beq_eq_false hb e.symm)]; rfl
theorem ah.GZ{f:FuncId}{ts args:List V}{h:Hz}{i n:Nat}{o0:OV}{K:V->Hz->Prop}{KW:Nat->V->Hz->Prop}{post:T->Hp->Prop}(H:aN P f (V.aT ts) (Hz.aj [(0,some o0)]) 1 post)
  (ha:T.cu (fun _=>i) (V.aT ts)=V.aT args) (hid:T.LZ 1 (V.aT ts)=true) (hg:o0.good 1=true) (hf:o0.KD=true) (hi:h.get i=some o0) (hn:h.get n=none)
  (hK: ∀ t hp,post t hp->(∃ v o,hp=Hz.aj [(0,some o)]/\o.KD=true/\t.ren (nameAt (fun _=>i) 1 n)=v.aG/\K v ((i,some o)::h)) \/
   (∃ v o,hp=Hz.aj [(1,some o)]/\o.KD=true/\t.ren (nameAt (fun _=>i) 1 n)=v.aG/\K v ((n,some o)::(i,none)::h))):ah P false none f args h n K KW:=by
 have hin:i≠n:=by rintro rfl; rw[hi] at hn; cases hn
 have hl0: ∀ j:Nat,j<1->(Hz.aj [(0,some o0)] j).isSome=true:=fun j hj=>by rw[sG,if_pos (by omega)]; rfl
 have hsome: ∀ j,(Hz.aj [(0,some o0)] j).isSome=true->j=0:=fun j hj=>by
  rw[sG] at hj; split at hj
  ·assumption
  ·cases hj
 refine ah.heap (post:=fun t' h'=> ∃ t h1,post t h1/\t'=t.ren (nameAt (fun _=>i) 1 n)/\h'=placed (fun _=>i) 1 n (Hz.aj [(0,some o0)]) h.aj h1) ?_ ?_
 ·rw[<- ha]
  refine aN.place H (T.ay hl0 _ (sV hid)) (fun j ob hj=>?_) (by rw[sG]; rfl) (fun j ob hj=>?_) (fun a b h1 h2 _=>by rw[hsome a h1,hsome b h2])
  ·rw[sG] at hj; split at hj
   ·cases hj
    have hz:T.aO (fun _=>False) o0.aF.l:=OV.F8 hf
    exact⟨T.ay (fun _ h=>h.elim) _ hz,(OV.DT hg).2⟩
   ·cases hj
  ·rw[sG] at hj; split at hj
   ·cases hj
    rw[kQ hf]; exact aH hi
   ·cases hj
 ·rintro t' h' ⟨t,h1,hp,rfl,rfl⟩
  have inj: ∀ a b,((Hz.aj [(0,some o0)] a).isSome=true\/a=1)->((Hz.aj [(0,some o0)] b).isSome=true\/b=1)->nameAt (fun _=>i) 1 n a=nameAt (fun _=>i) 1 n b->a=b:=by
   intro a b ha hb e
   rcases ha with ha|rfl<;>rcases hb with hb|rfl
   ·rw[hsome a ha,hsome b hb]
   ·rw[hsome a ha] at e; exact absurd e hin
   ·rw[hsome b hb] at e; exact absurd e.symm hin
   ·rfl
  have at0: ∀ h1,placed (fun _=>i) 1 n (Hz.aj [(0,some o0)]) h.aj h1 i=(h1 0).map (Ob.ren (nameAt (fun _=>i) 1 n)):=fun h1=>nH (h:=h.aj) (h1:=h1) inj (i:=0) (.inl (hl0 0 (by decide)))
  have at1: ∀ h1,placed (fun _=>i) 1 n (Hz.aj [(0,some o0)]) h.aj h1 n=(h1 1).map (Ob.ren (nameAt (fun _=>i) 1 n)):=fun h1=>nH (h:=h.aj) (h1:=h1) inj (i:=1) (.inr rfl)
  have atO: ∀ h1 j,j≠i->j≠n->placed (fun _=>i) 1 n (Hz.aj [(0,some o0)]) h.aj h1 j=h.aj j:=fun h1 j g1 g2=>xP (by
   rintro⟨a,ha,e⟩
   rcases ha with ha|rfl
   ·rw[hsome a ha] at e; exact g1 e.symm
   ·exact g2 e.symm)
  rcases hK t h1 hp with ⟨v,o,rfl,ho,hv,hk⟩|⟨v,o,rfl,ho,hv,hk⟩
  ·refine⟨v,_,hv,?_,hk⟩
   funext j
   rw[cZ]
   by_cases e1:j=i
   ·subst e1; rw[if_pos rfl,at0,sG,if_pos rfl,Option.map_some,kQ ho]; rfl
   ·rw[if_neg e1]
    by_cases e2:j=n
    ·subst e2; rw[at1,sG,if_neg (by decide)]; simp only[Hz.aj,hn]; rfl
    ·exact atO _ j e1 e2
  ·refine⟨v,_,hv,?_,hk⟩
   funext j
   rw[cZ,cZ]
   by_cases e2:j=n
   ·subst e2; rw[if_pos rfl,at1,sG,if_pos rfl,Option.map_some,kQ ho]; rfl
   ·rw[if_neg e2]
    by_cases e1:j=i
    ·subst e1; rw[if_pos rfl,at0,sG,if_neg (by decide)]; rfl
    ·rw[if_neg e1]; exact atO _ j e1 e2
end
section
variable {P:Program}
def okR(ρ:Nat->Nat)(nx pn:Nat)(h:Hz):List (Nat×OV)->List Nat->Prop
 |[],[]=>True
 |(c,o)::r,n::s=>(Nat.blt c nx=true/\(Nat.blt c pn=true->n=c)/\Gv n s=true/\o.good nx=true /\
   ∃ o',h.get n=some o'/\o'.aF.ty=o.aF.ty/\o'.aF.k=o.aF.k/\bn (T.cu ρ o.aF.l) o'.aF.l)/\okR ρ nx pn h r s
 |_,_=>False
theorem Ol{ρ:Nat->Nat}{nx pn:Nat}{h:Hz}: ∀ {l:List (Nat×OV)} {s:List Nat},okR ρ nx pn h l s->hpL (zH l s)=(L8 l).aj:=by
 intro l
 induction l with
 |nil=>intro s q; cases s with
  |nil=>rfl
  |cons _ _=>exact q.elim
 |cons p r ih =>
  obtain⟨c,o⟩:=p
  intro s q
  cases s with
  |nil=>exact q.elim
  |cons n s =>
   simp only[zH,hpL]
   have e:L8 ((c,o)::r)=(c,some o)::L8 r:=rfl
   rw[e,bD,ih q.2]; rfl
theorem Om{nx pn:Nat}{h:Hz}{Z:Nat->Prop}{ρ:Nat->Nat}: ∀ {l:List (Nat×OV)} {s:List Nat},okR ρ nx pn h l s->okL Z ρ h.aj nx pn (zH l s):=by
 intro l
 induction l with
 |nil=>intro s _; cases s<;>trivial
 |cons p r ih =>
  obtain⟨c,o⟩:=p
  intro s q
  cases s with
  |nil=>exact q.elim
  |cons n s =>
   obtain⟨⟨q1,q2,q3,q4,o',q6,q7,q8,q9⟩,q⟩:=q
   obtain⟨g1,g2⟩:=OV.DT q4
   refine⟨⟨Nat.blt_eq.mp q1,fun hc=>q2 (Nat.blt_eq.mpr hc),Oj q3,g1,g2,o'.aF.l,?_,?_⟩,ih q⟩
   ·have:=aH q6
    show h.aj n=some ⟨o.aF.ty,o.aF.k,o'.aF.l⟩
    rw[this,<- q7,<- q8]
   ·exact q9 _ _
structure ac0{ι:Type}(inv:ι->Prop)(μ:ι->Nat)(vars:ι->Fm)(objs:ι->List (Nat×OV))(base:Fm)(nx pn:Nat)(i:ι)(m:Fm)(h:Hz):Prop where
 ok: ∃ j nw,inv j/\μ j<μ i/\oU (oZ (objs j) nw) m (vars j)/\oU (oZ (objs j) nw) m base/\okR (oZ (objs j) nw) nx pn h (objs j) nw
theorem aJ.yZ{N pn nx0:Nat}(nx:Nat){b:dR}{Q:Qz}{m:Fm}{h:Hz}{ι:Type}(live:List Nat)(vars:ι->Fm)(objs:ι->List (Nat×OV))(inv:ι->Prop)(μ:ι->Nat)(i0:ι)(OU:List Nat)(hd:oQ N b=true)(hp:pn<=nx)(hv: ∀ i,Xw nx N (vars i)=true)(h0:inv i0)
  (he:oU (oZ (objs i0) OU) m (vars i0)) (ho:okR (oZ (objs i0) OU) nx pn h (objs i0) OU)
  (H:IE m live [] fun base=>oU (oZ (objs i0) OU) m base/\Xw nx N base=true/\ ∀ i,inv i->az P N pn b (fun e m' h' n'=>match e with
   | .normal=>ac0 inv μ vars objs base nx pn i m' h'
   |e=>Q e m' h' n') (vars i++base) (L8 (objs i)) nx):aJ P N pn b Q m h nx0:=by
 obtain⟨base,⟨hbs,hb,H⟩,hbm⟩:=Ak H (fun i v q=>by cases q)
 refine⟨fun fr hl R=>?_⟩
 have hall: ∀ i j v,Fm.get j (vars i++base)=some v->T.lt nx v.aG=true/\j<N:=fun i j v q=>by
  rcases get_append q with q|q
  ·exact vI (hv i) q
  ·exact vI hb q
 have wk: ∀ (i:ι) (nw:List Nat) (m':Fm) (h':Hz) (s':AS),s'.fr.length=N->Rp m' s'.fr->s'.hp=h'.aj->s'.pin=pn->oU (oZ (objs i) nw) m' (vars i)->oU (oZ (objs i) nw) m' base->okR (oZ (objs i) nw) nx pn h' (objs i) nw ->
   Wk ⟨uT N (vars i++base),(L8 (objs i)).aj,nx,pn⟩ s':=by
  intro i nw m' h' s' a1 a2 a3 a4 a5 a6 a7
  obtain⟨fr',hp',nx',pn'⟩:=s'
  simp only at a1 a2 a3 a4
  subst a3; subst a4
  rw[<- Ol a7]
  have e:BQ (zH (objs i) nw)=oZ (objs i) nw:=funext fun _=>II
  refine Wk.objs (zH (objs i) nw) (ES a1 a2 fun j v q=>?_) (DR fun j v q=>(hall i j v q).1) hp (by rw[e]; exact Om a7)
  rw[e]
  rcases get_append q with q|q
  ·exact tN a5 q
  ·exact tN a6 q
 refine yB.rule (fun i=>⟨uT N (vars i++base),(L8 (objs i)).aj,nx,pn⟩) inv μ i0 h0 (wk i0 OU m h _ hl R rfl rfl he hbs ho) ?_
 intro i hi
 have:=mZ (P:=P) (N:=N) (pn:=pn) (s:=⟨uT N (vars i++base),(L8 (objs i)).aj,nx,pn⟩) hd wZ (DN fun j v q=>(hall i j v q).2) rfl rfl (H i hi)
 refine jH ?_ this
 rintro e s' ⟨m',h',a1,a2,a3,a4,a5⟩
 cases e with
 |normal =>
  obtain⟨j,nw,b1,b2,b3,b4,b5⟩:=a5.ok
  exact⟨j,⟨b1,b2⟩,wk j nw m' h' s' a1 a2 a3 a4 b3 b4 b5⟩
 |exit j=>exact⟨m',h',a1,a2,a3,a4,a5⟩
 |ret=>exact⟨m',h',a1,a2,a3,a4,a5⟩
end
section
variable {P:Program}
def Fz(Z:Nat->Prop)(h:Hz):Hz->Prop
 |[]=>True
 |(_,none)::r=>Fz Z h r
 |(i,some o)::r=>(∃ o',h.get i=some o'/\ ¬ Z i/\o'.aF.ty=o.aF.ty/\o'.aF.k=o.aF.k/\T.dD Z h.aj o.aF.l o'.aF.l/\o.aF.l.map T.kd=o'.aF.l.map T.kd/\o.aF.l.map fQ=o'.aF.l.map fQ)/\Fz Z h r
def Frz(h h2:Hz):Prop:= ∃ Z,Fz Z h h2
theorem CB{Z:Nat->Prop}{h:Hz}: ∀ {h2:Hz},Fz Z h h2-> ∀ {i:Nat} {o:OV},h2.get i=some o-> ∃ o',h.get i=some o'/\ ¬ Z i/\o'.aF.ty=o.aF.ty/\o'.aF.k=o.aF.k/\T.dD Z h.aj o.aF.l o'.aF.l/\o.aF.l.map T.kd=o'.aF.l.map T.kd/\o.aF.l.map fQ=o'.aF.l.map fQ:=by
 intro h2
 induction h2 with
 |nil=>intro _ i o e; cases e
 |cons p r ih =>
  obtain⟨j,u⟩:=p
  intro hf i o e
  simp only[Hz.get] at e
  cases u with
  |none =>
   cases hb:Nat.beq j i with
   |true=>rw[hb] at e; cases e
   |false=>rw[hb] at e; exact ih hf e
  |some u =>
   cases hb:Nat.beq j i with
   |true=>rw[hb] at e; cases e; rw[<- jh hb]; exact hf.1
   |false=>rw[hb] at e; exact ih hf.2 e
theorem Frz.wk{s _s1:AS}{fr:List T}{h h2:Hz}{nx pn:Nat}(f:Frz h h2)(w:Wk s ⟨fr,h2.aj,nx,pn⟩):Wk s ⟨fr,h.aj,nx,pn⟩:=by
 obtain⟨Z,f⟩:=f
 obtain⟨s1,w1,w2⟩:=w
 have F:WG Z ⟨fr,h2.aj,nx,pn⟩ ⟨fr,h.aj,nx,pn⟩:=by
  refine⟨bZ _,fun i ob hi=>?_,rfl,rfl⟩
  simp only[Hz.aj,Option.map_eq_some_iff] at hi
  obtain⟨o,e1,rfl⟩:=hi
  obtain⟨o',a1,a2,a3,a4,a5,a6,a7⟩:=CB f e1
  exact⟨o'.aF,aH a1,a2,a3,a4,a5,a6,a7⟩
 exact⟨s1,w1.trans (.fz F (.refl _)),w2⟩
structure ac1{ι:Type}(inv:ι->Prop)(μ:ι->Nat)(vars:ι->Fm)(objs:ι->List (Nat×OV))(base:Fm)(nx pn:Nat)(i:ι)(m:Fm)(h:Hz):Prop where
 ok: ∃ h2 j nw,Frz h h2/\inv j/\μ j<μ i/\oU (oZ (objs j) nw) m (vars j)/\oU (oZ (objs j) nw) m base/\okR (oZ (objs j) nw) nx pn h2 (objs j) nw
theorem aJ.MX{N pn nx0:Nat}(nx:Nat){b:dR}{Q:Qz}{m:Fm}{h:Hz}{ι:Type}(live:List Nat)(vars:ι->Fm)(objs:ι->List (Nat×OV))(inv:ι->Prop)(μ:ι->Nat)(i0:ι)(OU:List Nat)(h2:Hz)(hd:oQ N b=true)(hp:pn<=nx)(hv: ∀ i,Xw nx N (vars i)=true)(h0:inv i0)
  (he:oU (oZ (objs i0) OU) m (vars i0)) (hf:Frz h h2) (ho:okR (oZ (objs i0) OU) nx pn h2 (objs i0) OU)
  (H:IE m live [] fun base=>oU (oZ (objs i0) OU) m base/\Xw nx N base=true/\ ∀ i,inv i->az P N pn b (fun e m' h' n'=>match e with
   | .normal=>ac1 inv μ vars objs base nx pn i m' h'
   |e=>Q e m' h' n') (vars i++base) (L8 (objs i)) nx):aJ P N pn b Q m h nx0:=by
 obtain⟨base,⟨hbs,hb,H⟩,hbm⟩:=Ak H (fun i v q=>by cases q)
 refine⟨fun fr hl R=>?_⟩
 have hall: ∀ i j v,Fm.get j (vars i++base)=some v->T.lt nx v.aG=true/\j<N:=fun i j v q=>by
  rcases get_append q with q|q
  ·exact vI (hv i) q
  ·exact vI hb q
 have wk: ∀ (i:ι) (nw:List Nat) (m':Fm) (h' h2':Hz) (s':AS),s'.fr.length=N->Rp m' s'.fr->s'.hp=h'.aj->s'.pin=pn->Frz h' h2'->oU (oZ (objs i) nw) m' (vars i)->oU (oZ (objs i) nw) m' base->okR (oZ (objs i) nw) nx pn h2' (objs i) nw ->
   Wk ⟨uT N (vars i++base),(L8 (objs i)).aj,nx,pn⟩ s':=by
  intro i nw m' h' h2' s' a1 a2 a3 a4 af a5 a6 a7
  obtain⟨fr',hp',nx',pn'⟩:=s'
  simp only at a1 a2 a3 a4
  subst a3; subst a4
  refine af.wk (_s1:=⟨fr',h2'.aj,nx',pn'⟩) ?_
  rw[<- Ol a7]
  have e:BQ (zH (objs i) nw)=oZ (objs i) nw:=funext fun _=>II
  refine Wk.objs (zH (objs i) nw) (ES a1 a2 fun j v q=>?_) (DR fun j v q=>(hall i j v q).1) hp (by rw[e]; exact Om a7)
  rw[e]
  rcases get_append q with q|q
  ·exact tN a5 q
  ·exact tN a6 q
 refine yB.rule (fun i=>⟨uT N (vars i++base),(L8 (objs i)).aj,nx,pn⟩) inv μ i0 h0 (wk i0 OU m h h2 _ hl R rfl rfl hf he hbs ho) ?_
 intro i hi
 have:=mZ (P:=P) (N:=N) (pn:=pn) (s:=⟨uT N (vars i++base),(L8 (objs i)).aj,nx,pn⟩) hd wZ (DN fun j v q=>(hall i j v q).2) rfl rfl (H i hi)
 refine jH ?_ this
 rintro e s' ⟨m',h',a1,a2,a3,a4,a5⟩
 cases e with
 |normal =>
  obtain⟨h2',j,nw,bf,b1,b2,b3,b4,b5⟩:=a5.ok
  exact⟨j,⟨b1,b2⟩,wk j nw m' h' h2' s' a1 a2 a3 a4 bf b3 b4 b5⟩
 |exit j=>exact⟨m',h',a1,a2,a3,a4,a5⟩
 |ret=>exact⟨m',h',a1,a2,a3,a4,a5⟩
theorem bG{Z:Nat->Prop}{h:Hz}{i:Nat}{o:OV}(e:h.get i=some o)(hz: ¬ Z i): ∃ o',h.get i=some o'/\ ¬ Z i/\o'.aF.ty=o.aF.ty/\o'.aF.k=o.aF.k/\T.dD Z h.aj o.aF.l o'.aF.l/\o.aF.l.map T.kd=o'.aF.l.map T.kd/\o.aF.l.map fQ=o'.aF.l.map fQ :=
 ⟨o,e,hz,rfl,rfl,bZ _,rfl,rfl⟩
end
section
variable {P:Program}
theorem E5{t:T}(q:t.free=true)(ρ:Nat->Nat):t.ren ρ=t:=by
 have:T.cu ρ [t]=[t]:=sZ _ ⟨gX q,trivial⟩
 simpa [T.cu] using this
theorem iI.OX{h0 h h2:Hz}{n:Nat}{post:T->Hp->Prop}{v u:V}(Z:Nat->Prop)(F:Fz Z h h2)(hg: ∀ i o,h2.get i=some o->(h0.aj i).isSome=true/\T.aO (fun i=>(h0.aj i).isSome=true) o.aF.l/\Ru o.aF.k o.aF.l=true)
  (hu:u.free=true) (hv:T.sub Z h.aj u.aG v.aG) (hp:post u.aG h2.aj):iI h0 n post v h:=by
 have hx: ∀ i ob,h2.aj i=some ob-> ∃ o,h2.get i=some o/\o.aF=ob:=fun i ob hi=>by
  simp only[Hz.aj,Option.map_eq_some_iff] at hi
  obtain⟨o,e1,e2⟩:=hi
  exact⟨o,e1,e2⟩
 have hfr:T.ids (fun _=>False) u.aG:=gX (V.mG u hu)
 refine⟨Z,id,u.aG,h2.aj,hp,by rw[Ir]; exact hv,fun i ob hi=>?_,fun i j _ _ e=>e,T.bQ (fun _ h=>h.elim) _ hfr,fun i ob hi=>?_,fun _ _ _=>rfl⟩
 ·obtain⟨o,e1,rfl⟩:=hx i ob hi
  obtain⟨o',a1,a2,a3,a4,a5,_,_⟩:=CB F e1
  exact⟨o'.aF,aH a1,a2,a3,a4,by rw[KA]; exact a5,zA (hg i o e1).2.2⟩
 ·obtain⟨o,e1,rfl⟩:=hx i ob hi
  exact⟨.inl (hg i o e1).1,T.ay (fun _ h=>.inl h) _ (hg i o e1).2.1⟩
theorem ah.aaI{f:FuncId}{ts args:List V}{h:Hz}{i j n:Nat}{o0 V3 o1:OV}{K:V->Hz->Prop}{KW:Nat->V->Hz->Prop}{post:T->Hp->Prop}(H:aN P f (V.aT ts) (Hz.aj [(0,some o0),(1,some o1)]) 2 post)
  (ha:T.cu (fun a=>bif Nat.beq a 0 then i else j) (V.aT ts)=V.aT args) (hid:T.LZ 2 (V.aT ts)=true) (hg:rM 2 [(0,some o0),(1,some o1)]=true) (hf:o1.KD=true)
  (h0:o0.aF.ren (fun a=>bif Nat.beq a 0 then i else j)=V3.aF) (hi:h.get i=some V3) (hj:h.get j=some o1) (hij:i≠j) (hn:h.get n=none) (hin:n≠i) (hjn:n≠j)
  (hK: ∀ t hp,post t hp-> ∃ v o,hp=Hz.aj [(0,some o0),(1,some o)]/\o.KD=true/\t=v.aG/\v.free=true/\K v ((j,some o)::h)):ah P false none f args h n K KW:=by
 have hG:=kL hg
 have hlt: ∀ a:Nat,a<2->(Hz.aj [(0,some o0),(1,some o1)] a).isSome=true:=fun a ha=>by
  rw[cZ,sG]; by_cases e:a=0
  ·rw[if_pos e]; rfl
  ·rw[if_neg e,if_pos (by omega)]; rfl
 have hsome: ∀ a,(Hz.aj [(0,some o0),(1,some o1)] a).isSome=true->a=0\/a=1:=fun a ha=>by
  rw[cZ,sG] at ha; split at ha
  ·left; assumption
  ·split at ha
   ·right; assumption
   ·cases ha
 let ρ:Nat->Nat:=fun a=>bif Nat.beq a 0 then i else j
 have r0:ρ 0=i:=rfl
 have r1:ρ 1=j:=rfl
 have n0:nameAt ρ 2 n 0=i:=rfl
 have n1:nameAt ρ 2 n 1=j:=rfl
 have n2:nameAt ρ 2 n 2=n:=rfl
 have Wh: ∀ a b,(Hz.aj [(0,some o0),(1,some o1)] a).isSome=true->(Hz.aj [(0,some o0),(1,some o1)] b).isSome=true->ρ a=ρ b->a=b:=by
  intro a b ha hb e
  rcases hsome a ha with rfl|rfl<;>rcases hsome b hb with rfl|rfl
  ·rfl
  ·exact absurd e hij
  ·exact absurd e.symm hij
  ·rfl
 have inj: ∀ a b,((Hz.aj [(0,some o0),(1,some o1)] a).isSome=true\/a=2)->((Hz.aj [(0,some o0),(1,some o1)] b).isSome=true\/b=2)->nameAt ρ 2 n a=nameAt ρ 2 n b->a=b:=by
  intro a b ha hb e
  rcases ha with ha|rfl
  ·rcases hb with hb|rfl
   ·rcases hsome a ha with rfl|rfl<;>rcases hsome b hb with rfl|rfl
    ·rfl
    ·exact absurd e hij
    ·exact absurd e.symm hij
    ·rfl
   ·rcases hsome a ha with rfl|rfl
    ·exact absurd e.symm hin
    ·exact absurd e.symm hjn
  ·rcases hb with hb|rfl
   ·rcases hsome b hb with rfl|rfl
    ·exact absurd e hin
    ·exact absurd e hjn
   ·rfl
 refine ah.heap (post:=fun t' h'=> ∃ t h1,post t h1/\t'=t.ren (nameAt ρ 2 n)/\h'=placed ρ 2 n (Hz.aj [(0,some o0),(1,some o1)]) h.aj h1) ?_ ?_
 ·rw[<- ha]
  refine aN.place H (T.ay hlt _ (sV hid)) (fun a ob hob=>?_) (by rw[cZ,sG]; rfl) (fun a ob hob=>?_) Wh
  ·exact⟨T.ay hlt _ (hG a ob hob).2.1,(hG a ob hob).2.2⟩
  ·have hs:(Hz.aj [(0,some o0),(1,some o1)] a).isSome=true:=by rw[hob]; rfl
   rcases hsome a hs with rfl|rfl
   ·rw[cZ,if_pos rfl] at hob; cases hob
    show h.aj i=_
    rw[aH hi]; exact congrArg some h0.symm
   ·rw[cZ,sG,if_neg (by decide),if_pos rfl] at hob; cases hob
    show h.aj j=_
    rw[aH hj,kQ hf]
 ·rintro t' h' ⟨t,h1,hp,rfl,rfl⟩
  obtain⟨v,o,rfl,ho,rfl,hvf,hk⟩:=hK t h1 hp
  refine⟨v,_,E5 (V.mG v hvf) _,?_,hk⟩
  funext a
  rw[cZ]
  have at0:placed ρ 2 n (Hz.aj [(0,some o0),(1,some o1)]) h.aj (Hz.aj [(0,some o0),(1,some o)]) i=(Hz.aj [(0,some o0),(1,some o)] 0).map (Ob.ren (nameAt ρ 2 n)):=nH (h:=h.aj) (h1:=Hz.aj [(0,some o0),(1,some o)]) inj (i:=0) (.inl (hlt 0 (by decide)))
  have at1:placed ρ 2 n (Hz.aj [(0,some o0),(1,some o1)]) h.aj (Hz.aj [(0,some o0),(1,some o)]) j=(Hz.aj [(0,some o0),(1,some o)] 1).map (Ob.ren (nameAt ρ 2 n)):=nH (h:=h.aj) (h1:=Hz.aj [(0,some o0),(1,some o)]) inj (i:=1) (.inl (hlt 1 (by decide)))
  have at2:placed ρ 2 n (Hz.aj [(0,some o0),(1,some o1)]) h.aj (Hz.aj [(0,some o0),(1,some o)]) n=(Hz.aj [(0,some o0),(1,some o)] 2).map (Ob.ren (nameAt ρ 2 n)):=nH (h:=h.aj) (h1:=Hz.aj [(0,some o0),(1,some o)]) inj (i:=2) (.inr rfl)
  by_cases e1:a=j
  ·subst e1; rw[if_pos rfl,at1,cZ,sG,if_neg (by decide),if_pos rfl,Option.map_some,kQ ho]; rfl
  ·rw[if_neg e1]
   by_cases e0:a=i
   ·subst e0
    rw[at0,cZ,if_pos rfl,aH hi,<- h0]
    refine congrArg some ?_
    have hc:T.cu (nameAt ρ 2 n) o0.aF.l=T.cu ρ o0.aF.l:=qZ (M:=(· <2)) (fun b hb=>if_neg (by omega)) _ (hG 0 o0.aF (by rw[cZ,if_pos rfl]; rfl)).2.1
    unfold Ob.ren
    rw[hc]
   ·by_cases e2:a=n
    ·subst e2; rw[at2,cZ,sG,if_neg (by decide),if_neg (by decide)]; simp only[Hz.aj,hn]; rfl
    ·exact xP (by
      rintro⟨b,hb,e⟩
      rcases hb with hb|rfl
      ·rcases hsome b hb with rfl|rfl
       ·exact e0 e.symm
       ·exact e1 e.symm
      ·exact e2 e.symm)
theorem ah.new2{f:FuncId}{args:List V}{h:Hz}{n:Nat}{_v:V}{o0 V3 o1:OV}{K:V->Hz->Prop}{KW:Nat->V->Hz->Prop}(H:jS P f (V.aT args) (Hz.aj []) 0 1 fun t hp=>t= .ptr 0 0 0/\hp=Hz.aj [(0,some o0),(1,some o1)])
  (ha:V.dH args=true) (hf:o1.KD=true) (h0:o0.aF.ren (fun a=>n+a)=V3.aF) (hi0:T.aO (· <2) o0.aF.l) (hn: ∀ m,n<=m->h.get m=none) (hK:KW 1 (.ptr n 0 0) ((n,some V3)::(n+1,some o1)::h)):ah P false none f args h n K KW:=by
 have hz:T.cu (fun a=>a) (V.aT args)=V.aT args:=sZ _ (dw (V.iq _ ha))
 have e0:(Hz.aj [])=(no:Hp):=rfl
 have hp:=jS.place H (ρ:=fun a=>a) (h:=h.aj) (n:=n) (T.ay (fun _ h=>h.elim) _ (dw (V.iq _ ha))) (fun i ob hi=>by cases hi) (fun i hi=>by cases hi) (fun i ob hi=>by cases hi) (fun i j hi=>by cases hi)
 rw[hz] at hp
 refine⟨.inr (.inl ⟨rfl,rfl,1,hp.mono ?_⟩)⟩
 rintro t' h' ⟨t,h1,⟨rfl,rfl⟩,rfl,rfl⟩
 refine⟨.ptr n 0 0,_,?_,?_,hK⟩
 ·show T.ptr (A8 (fun a=>a) 0 1 n 0) 0 0=T.ptr n 0 0
  rw[show A8 (fun a=>a) 0 1 n 0=n+(0-0) from if_pos (by omega)]; rfl
 ·have nk: ∀ a,a<=1->A8 (fun a=>a) 0 1 n a=n+a:=fun a ha=>by
   rw[show A8 (fun a=>a) 0 1 n a=n+(a-0) from if_pos (by omega)]; rfl
  have inj: ∀ a b,(((Hz.aj []) a).isSome=true\/(0<=a/\a<=0+1))->(((Hz.aj []) b).isSome=true\/(0<=b/\b<=0+1))->A8 (fun a=>a) 0 1 n a=A8 (fun a=>a) 0 1 n b->a=b:=by
   intro a b ha hb e
   rcases ha with ha|ha
   ·cases ha
   rcases hb with hb|hb
   ·cases hb
   rw[nk a (by omega),nk b (by omega)] at e; omega
  funext a
  rw[cZ,cZ]
  by_cases c0:a=n
  ·subst c0
   rw[if_pos rfl]
   have:=x8 (h:=h.aj) (h1:=Hz.aj [(0,some o0),(1,some o1)]) inj (i:=0) (.inr (by omega))
   rw[nk 0 (by omega)] at this
   refine Eq.trans this ?_
   rw[cZ,if_pos rfl,Option.map_some,Option.map_some,Option.map_some,<- h0]
   refine congrArg some ?_
   unfold Ob.ren
   rw[qZ (M:=(· <2)) (fun b hb=>nk b (by omega)) _ hi0]
  ·rw[if_neg c0]
   by_cases c1:a=n+1
   ·subst c1
    rw[if_pos rfl]
    have:=x8 (h:=h.aj) (h1:=Hz.aj [(0,some o0),(1,some o1)]) inj (i:=1) (.inr (by omega))
    rw[nk 1 (by omega)] at this
    refine Eq.trans this ?_
    rw[cZ,sG,if_neg (by decide),if_pos rfl,Option.map_some,kQ hf]; rfl
   ·rw[if_neg c1]
    exact zB (by
     rintro⟨b,hb,e⟩
     rcases hb with hb|hb
     ·cases hb
     rw[nk b (by omega)] at e; omega)
structure aak(o0 o1:OV)(v:V)(h:Hz):Prop where
 ok: ∃ a b V3,v= .ptr a 0 0/\a≠b/\h.get a=some V3/\o0.aF.ren (fun i=>bif Nat.beq i 0 then a else b)=V3.aF/\h.get b=some o1
def abO(o0 o1:OV)(rs:List RV):Qz
 | .exit _,_,_,_=>False
 |_,m,h,_=>match resV m h rs with
  |some v=>v.seq fun v=>aak o0 o1 v h
  |none=>False
theorem aaE.of{f:FuncId}{ac:dR}{rs:List RV}{nt:Nat}{args:List V}{o0 o1:OV}(B:Body P f ac rs nt)(hn:args.length<=nt)(ha:V.dH args=true)(hg:rM 2 [(0,some o0),(1,some o1)]=true)(hf:o1.KD=true)
  (H:az P nt 0 ac (abO o0 o1 rs) (yh 0 args) [] 0):jS P f (V.aT args) (Hz.aj []) 0 1 fun t hp=>t= .ptr 0 0 0/\hp=Hz.aj [(0,some o0),(1,some o1)]:=by
 obtain⟨fn,c,h1,h2,h3,h4,h5⟩:=B.ex
 have hG:=kL hg
 refine jS.vF (nx:=0) h1 h2 h3 h4 B.cl h5 ⟨_,_,rfl,rfl⟩ (T.ay (fun _ h=>h.elim) _ (dw (V.iq _ ha))) (fun i ob hi=>by cases hi) ?_
 have:=mZ (P:=P) (N:=nt) (pn:=0) (s:=⟨V.aT args++List.replicate (nt-(V.aT args).length) T.un,(Hz.aj []),0,0⟩) B.dst (by simp[gu]; omega) uN rfl rfl H
 refine jH ?_ this
 rintro e s ⟨m,h,a1,a2,a3,a4,a5⟩
 have key: ∀ {m h},Rp m s.fr->s.hp=Hz.aj h->(match resV m h rs with|some v=>v.seq fun v=>aak o0 o1 v h|none=>False)-> ∃ s1,Ez s1 s/\Lr (Hz.aj []) (fun i=>0<=i/\i<=0+1) (fun t hp=>t= .ptr 0 0 0/\hp=Hz.aj [(0,some o0),(1,some o1)]) rs s1:=by
  intro m h a2 a3 q
  split at q
  ·rename_i v hv
   rw[V.seq_eq] at q
   obtain⟨b1,b2⟩:=DL a2 a3 hv
   obtain⟨a,b,V3,rfl,hab,q0,e0,q1⟩:=q.ok
   have hx: ∀ i ob,Hz.aj [(0,some o0),(1,some o1)] i=some ob->(i=0/\ob=o0.aF)\/(i=1/\ob=o1.aF):=fun i ob hi=>by
    rw[cZ,sG] at hi; split at hi
    ·left; cases hi; exact⟨by assumption,rfl⟩
    ·split at hi
     ·right; cases hi; exact⟨by assumption,rfl⟩
     ·cases hi
   refine⟨s,.refl _,b1,fun _=>False,fun i=>bif Nat.beq i 0 then a else b,.ptr 0 0 0,Hz.aj [(0,some o0),(1,some o1)],⟨rfl,rfl⟩,by rw[b2]; exact aB _,fun i ob hi=>?_,fun i j hi hj e=>?_,?_,fun i ob hi=>?_,fun i hi=>by cases hi⟩
   ·rw[a3]
    rcases hx i ob hi with ⟨rfl,rfl⟩|⟨rfl,rfl⟩
    ·refine⟨V3.aF,aH q0,fun h=>h,by rw[<- e0]; rfl,by rw[<- e0]; rfl,?_,zA (hG 0 o0.aF (by rw[cZ,if_pos rfl]; rfl)).2.2⟩
     rw[<- e0]; exact bZ _
    ·refine⟨o1.aF,aH q1,fun h=>h,rfl,rfl,?_,zA (hG 1 o1.aF (by rw[cZ,sG,if_neg (by decide),if_pos rfl])).2.2⟩
     rw[OV.CU hf]; exact bZ _
   ·obtain⟨oi,hi⟩:=Option.isSome_iff_exists.1 hi
    obtain⟨oj,hj⟩:=Option.isSome_iff_exists.1 hj
    rcases hx i oi hi with ⟨rfl,_⟩|⟨rfl,_⟩<;>rcases hx j oj hj with ⟨rfl,_⟩|⟨rfl,_⟩
    ·rfl
    ·exact absurd e hab
    ·exact absurd e.symm hab
    ·rfl
   ·exact .inr ⟨by decide,by decide⟩
   ·have hw: ∀ k:Nat,k<2->((Hz.aj []:Hp) k).isSome=true\/(0<=k/\k<=0+1):=fun k hk=>.inr (by omega)
    have:=hG i ob hi
    exact⟨hw i this.1,T.ay hw _ this.2.1⟩
  ·exact q.elim
 cases e with
 |exit j=>exact a5.elim
 |normal=>exact key a2 a3 a5
 |ret=>exact key a2 a3 a5
end
section
variable {P:Program}
def RP(ρ:Nat->Nat)(h:Hz):Hz->Prop
 |[]=>True
 |(_,none)::r=>RP ρ h r
 |(i,some o)::r=>(∃ o',h.get (ρ i)=some o'/\o.aF.ren ρ=o'.aF)/\RP ρ h r
theorem UL{ρ:Nat->Nat}{h:Hz}: ∀ {pre:Hz},RP ρ h pre-> ∀ {i:Nat} {o:OV},pre.get i=some o-> ∃ o',h.get (ρ i)=some o'/\o.aF.ren ρ=o'.aF:=by
 intro pre
 induction pre with
 |nil=>intro _ i o e; cases e
 |cons p r ih =>
  obtain⟨j,u⟩:=p
  intro hf i o e
  simp only[Hz.get] at e
  cases u with
  |none =>
   cases hb:Nat.beq j i with
   |true=>rw[hb] at e; cases e
   |false=>rw[hb] at e; exact ih hf e
  |some u =>
   cases hb:Nat.beq j i with
   |true=>rw[hb] at e; cases e; rw[<- jh hb]; exact hf.1
   |false=>rw[hb] at e; exact ih hf.2 e
def Xy(σ:Nat->Nat)(hp:Hp):Nat->List (Option OV)->Prop
 |_,[]=>True
 |i,r::rs=>r.map OV.aF=(hp i).map (Ob.ren σ)/\Xy σ hp (i+1) rs
theorem UM{σ:Nat->Nat}{hp:Hp}: ∀ {rs:List (Option OV)} {i k:Nat},Xy σ hp i rs->k<rs.length->(rs.getD k none).map OV.aF=(hp (i+k)).map (Ob.ren σ):=by
 intro rs
 induction rs with
 |nil=>intro i k _ hk; cases hk
 |cons r rs ih =>
  intro i k ha hk
  cases k with
  |zero=>exact ha.1
  |succ k =>
   have:=@ih (i+1) k ha.2 (Nat.lt_of_succ_lt_succ hk)
   rw[List.getD_cons_succ,this,Nat.succ_add_eq_add_succ]
def QA:List Nat->List (Option OV)->Hz->Hz
 |k::ks,r::rs,h=>(k,r)::QA ks rs h
 |_,_,h=>h
theorem Xz{h:Hz}{a:Nat}: ∀ {ks:List Nat} {rs:List (Option OV)},a ∉ ks->(QA ks rs h).aj a=h.aj a:=by
 intro ks
 induction ks with
 |nil=>intro rs _; rfl
 |cons k ks ih =>
  intro rs ha
  cases rs with
  |nil=>rfl
  |cons r rs =>
   simp only[List.mem_cons,not_or] at ha
   show Hz.aj ((k,r)::QA ks rs h) a=_
   rw[cZ,if_neg ha.1,ih ha.2]
theorem ZA{h:Hz}: ∀ {ks:List Nat} {rs:List (Option OV)} {i:Nat},ks.length=rs.length->ks.Nodup->i<ks.length->(QA ks rs h).aj (ks.getD i 0)=(rs.getD i none).map OV.aF:=by
 intro ks
 induction ks with
 |nil=>intro rs i _ _ hi; cases hi
 |cons k ks ih =>
  intro rs i hl hn hi
  cases rs with
  |nil=>cases hl
  |cons r rs =>
   cases i with
   |zero=>show Hz.aj ((k,r)::QA ks rs h) k=_; rw[cZ,if_pos rfl]; rfl
   |succ i =>
    have hi':i<ks.length:=Nat.lt_of_succ_lt_succ hi
    rw[List.nodup_cons] at hn
    have hne:ks.getD i 0≠k:=fun e=>hn.1 (by rw[<- e,show ks.getD i 0=ks[i] by simp[hi']]; exact List.getElem_mem hi')
    show Hz.aj ((k,r)::QA ks rs h) (ks.getD i 0)=_
    rw[cZ,if_neg hne]
    exact ih (Nat.succ.inj hl) hn.2 hi'
theorem UN{is:List Nat}{n i:Nat}:(is++[n]).getD i 0=if i=is.length then n else if i<is.length then is.getD i 0 else 0:=by
 by_cases h:i<is.length
 ·rw[if_neg (by omega),if_pos h]; simp[List.getD_eq_getElem?_getD,List.getElem?_append_left h]
 ·by_cases e:i=is.length
  ·subst e; simp
  ·rw[if_neg e,if_neg h]; simp[List.getD_eq_getElem?_getD,List.getElem?_eq_none (by simp; omega:(is++[n]).length<=i)]
theorem ah.aaP{f:FuncId}{ts args:List V}{h pre:Hz}{m n:Nat}{K:V->Hz->Prop}{KW:Nat->V->Hz->Prop}{post:T->Hp->Prop}(is:List Nat)(H:aN P f (V.aT ts) pre.aj m post)(hm:is.length=m)
  (ha:T.cu (is.getD · 0) (V.aT ts)=V.aT args) (hid:T.LZ m (V.aT ts)=true) (hg:rM m pre=true) (hall:((List.range m).all fun i=>(pre.get i).isSome)=true) (hpl:RP (is.getD · 0) h pre) (_hn:h.get n=none) (nd:(is++[n]).Nodup)
  (hK: ∀ t hp,post t hp-> ∃ v rs,rs.length=m+1/\t.ren (nameAt (is.getD · 0) m n)=v.aG/\Xy (nameAt (is.getD · 0) m n) hp 0 rs/\K v (QA (is++[n]) rs h)):ah P false none f args h n K KW:=by
 have hG:=kL hg
 have hlt: ∀ i,i<m->(pre.aj i).isSome=true:=fun i hi=>by
  rw[List.all_eq_true] at hall
  have:=hall i (List.mem_range.2 hi)
  simpa [Hz.aj] using this
 have hsome: ∀ i,(pre.aj i).isSome=true->i<m:=fun i hi=>by
  obtain⟨ob,hob⟩:=Option.isSome_iff_exists.1 hi
  exact(hG i ob hob).1
 have hnm: ∀ i,i<=m->nameAt (is.getD · 0) m n i=(is++[n]).getD i 0:=fun i hi=>by
  rw[UN,hm]
  unfold nameAt
  by_cases e:i=m
  ·rw[if_pos e,if_pos e]
  ·rw[if_neg e,if_neg e,if_pos (by omega)]
 have hlen:(is++[n]).length=m+1:=by rw[List.length_append,hm]; rfl
 have hinj: ∀ i j,i<=m->j<=m->nameAt (is.getD · 0) m n i=nameAt (is.getD · 0) m n j->i=j:=fun i j hi hj e=>by
  rw[hnm i hi,hnm j hj] at e
  have hi':i<(is++[n]).length:=by omega
  have hj':j<(is++[n]).length:=by omega
  rw[show(is++[n]).getD i 0=(is++[n])[i] from by rw[List.getD_eq_getElem?_getD,List.getElem?_eq_getElem hi']; rfl,show(is++[n]).getD j 0=(is++[n])[j] from by rw[List.getD_eq_getElem?_getD,List.getElem?_eq_getElem hj']; rfl] at e
  have hpw:=List.pairwise_iff_getElem.1 nd
  rcases Nat.lt_trichotomy i j with q|q|q
  ·exact absurd e (hpw i j hi' hj' q)
  ·exact q
  ·exact absurd e.symm (hpw j i hj' hi' q)
 have hD: ∀ i,((pre.aj i).isSome=true\/i=m)->i<=m:=fun i hi=>hi.elim (fun q=>Nat.le_of_lt (hsome i q)) (fun q=>by omega)
 have inj: ∀ i j,((pre.aj i).isSome=true\/i=m)->((pre.aj j).isSome=true\/j=m)->nameAt (is.getD · 0) m n i=nameAt (is.getD · 0) m n j->i=j:=fun i j hi hj e=>hinj i j (hD i hi) (hD j hj) e
 have hne: ∀ i,i<m->nameAt (is.getD · 0) m n i=is.getD i 0:=fun i hi=>if_neg (by omega)
 refine ah.heap (post:=fun t' h'=> ∃ t h1,post t h1/\t'=t.ren (nameAt (is.getD · 0) m n)/\h'=placed (is.getD · 0) m n pre.aj h.aj h1) ?_ ?_
 ·rw[<- ha]
  refine aN.place H (T.ay hlt _ (sV hid)) (fun a ob hob=>⟨T.ay hlt _ (hG a ob hob).2.1,(hG a ob hob).2.2⟩) ?_ (fun a ob hob=>?_) (fun i j hi hj e=>hinj i j (Nat.le_of_lt (hsome i hi)) (Nat.le_of_lt (hsome j hj)) (by rw[hne i (hsome i hi),hne j (hsome j hj)]; exact e))
  ·cases e:pre.aj m with
   |none=>rfl
   |some ob=>have:=(hG m ob e).1; omega
  ·simp only[Hz.aj,Option.map_eq_some_iff] at hob
   obtain⟨o,e1,rfl⟩:=hob
   obtain⟨o',a1,a2⟩:=UL hpl e1
   rw[aH a1,<- a2]
 ·rintro t' h' ⟨t,h1,hp,rfl,rfl⟩
  obtain⟨v,rs,hr,hv,hat,hk⟩:=hK t h1 hp
  refine⟨v,_,hv,?_,hk⟩
  funext a
  by_cases he: ∃ i,i<=m/\(is++[n]).getD i 0=a
  ·obtain⟨i,hi,rfl⟩:=he
   rw[ZA (by omega) nd (by omega),UM hat (by omega),Nat.zero_add,<- hnm i hi]
   have hin:(pre.aj i).isSome=true\/i=m:=by
    by_cases e:i=m
    ·exact .inr e
    ·exact .inl (hlt i (by omega))
   exact nH (h:=h.aj) (h1:=h1) inj hin
  ·have hoff:a ∉ is++[n]:=fun hmem=>by
    obtain⟨i,hi,e⟩:=List.getElem_of_mem hmem
    exact he ⟨i,by omega,by rw[List.getD_eq_getElem?_getD,List.getElem?_eq_getElem hi]; exact e⟩
   rw[Xz hoff]
   exact xP (fun⟨i,hi,e⟩=>he ⟨i,hD i hi,by rw[<- hnm i (hD i hi)]; exact e⟩)
end
section
variable {P:Program}
structure Ji where
 d:Nat
 g:FuncId
 x:Nat
 y:Nat
def XA:List Oper->Option Ji
 |[o1,o2]=>match o1.op,o1.dst,o1.guard,o2.op,o2.dst,o2.guard with
  | .makeFunc (.func g) ⟨[]⟩ ⟨[.tmp x,.tmp y]⟩,some d,none,.defer ⟨.value (.tmp e),⟨[]⟩,⟨[]⟩⟩,none,none=>bif Nat.beq d e then some ⟨d,g,x,y⟩ else none
  |_,_,_,_,_,_=>none
 |_=>none
def Fp(P:Program):Code->Option (dR×Ji×dR)
 | .seq (.region id ops false) c=>match XA ops.toList with
  |some i=>(comp P c).map fun b=>(.skip,i,b)
  |none=>match comp P (.region id ops false),Fp P c with
   |some a,some (a',i,b)=>some (.seq a a',i,b)
   |_,_=>none
 | .seq a c=>match comp P a,Fp P c with
  |some a,some (a',i,b)=>some (.seq a a',i,b)
  |_,_=>none
 |_=>none
def Ji.clo(i:Ji)(a:Act):Array Value:= #[a.tmps.getD i.x undef,a.tmps.getD i.y undef]
def Ji.push(i:Ji)(a:Act):Act:= {tmps:=a.tmps.setIfInBounds i.d (.func (.func i.g) #[] (i.clo a)),defers:= {target:=.fn (.func i.g) (i.clo a),args:= #[]}::a.defers}
theorem abP{id:Nat}{ops:Array Oper}{i:Ji}(h:XA ops.toList=some i){Q:Exit->Act->World->Prop}{a:Act}{w:World}(hd:i.d<a.tmps.size)(hQ:Q .normal (i.push a) w):(Code.region id ops false).wp P Q a w:=by
 refine wp_region_list ?_
 unfold XA at h
 split at h
 ·rename_i o1 o2 e
  rw[e]
  split at h
  ·rename_i g x y d' f e1 e2 e3 e4 e5 e6
   cases hb:Nat.beq d' f with
   |false=>rw[hb] at h; cases h
   |true =>
    rw[hb] at h
    cases h
    have:=Nat.eq_of_beq_eq_true hb
    subst this
    refine wpList_step fun K hK=>?_
    have w1: ∀ c,Region.wanted o1 c=true:=fun c=>by simp[Region.wanted,e3]
    rw[if_pos (by rw[w1])]
    simp only[Oper.wp,execOp,e1]
    have m0:Array.map a.eval ⟨[]⟩= #[]:=by simp
    have m1:Array.map a.eval ⟨[.tmp x,.tmp y]⟩=Ji.clo ⟨d',g,x,y⟩ a:=by simp[Ji.clo,Act.eval]
    rw[m0,m1]
    simp only[Instr.makeFunc,Sem.run_bind,Sem.run_pure,Result.andThen_ok,Oper.upon_value,e2,Act.put]
    refine hK _ _ ?_
    refine wpList_step fun K' hK'=>?_
    have w2: ∀ c,Region.wanted o2 c=true:=fun c=>by simp[Region.wanted,e6]
    rw[if_pos (by rw[w2])]
    simp only[Oper.wp,execOp,e4]
    have hget:(a.tmps.setIfInBounds d' (.func (.func g) #[] (Ji.clo ⟨d',g,x,y⟩ a))).getD d' undef= .func (.func g) #[] (Ji.clo ⟨d',g,x,y⟩ a):=by
     have hd':d'<a.tmps.size:=hd
     simp[Array.getD,hd']
    have hres:(resolve (Act.eval {tmps:=a.tmps.setIfInBounds d' (.func (.func g) #[] (Ji.clo ⟨d',g,x,y⟩ a)),defers:=a.defers}) ⟨.value (.tmp d'),⟨[]⟩,⟨[]⟩⟩ o2.type)=pure {target:=.fn (.func g) (Ji.clo ⟨d',g,x,y⟩ a),args:= #[]}:=by
     simp only[resolve,Act.eval,hget,Deferred.ofValue]
     simp
    rw[hres]
    simp only[pure_bind,Sem.run_pure,Oper.upon_defer,e5,Act.put]
    exact hK' _ _ hQ
  ·cases h
 ·cases h
theorem XB{F:Fr P}: ∀ (c:Code) {a b:dR} {i:Ji},Fp P c=some (a,i,b)-> ∀ {Q:Exit->Act->World->Prop} {E:Env} {s:AS} {act:Act} {pn:Nat},s.pin=pn->pn<=s.nx->Rel F (· <s.nx) E s act ->
  aw P a (fun e s'=>e= .normal/\i.d<s'.fr.length/\ ∀ E' A' cb,Rel F (· <s'.nx) E' s' A'->s'.pin=pn->pn<=s'.nx->Ext F E E'->Same E E' (· <pn)->comp P cb=some b->cb.wp P Q (i.push A') E'.w) s->c.wp P Q act E.w:=by
 intro c
 induction c with
 |seq x y _ ihy =>
  intro a b i hc Q E s act pn hpn hle R H
  have step: ∀ {a0 a1:dR},comp P x=some a0->Fp P y=some (a1,i,b)->a= .seq a0 a1->(Code.seq x y).wp P Q act E.w:=by
   rintro a0 a1 h0 h1 rfl
   simp only[aw] at H
   refine wp_seq (wp_mono (Ip x h0 H (by omega) R) ?_)
   rintro e a' w' ⟨ae,E',s',rfl,rfl,hQ,R',hp',hle',hext,hs⟩
   cases ae with
   |normal =>
    refine ihy h1 (hp'.trans hpn) (by omega) R' (jH (fun e s2 q=>⟨q.1,q.2.1,fun E2 A2 cb r1 r2 r3 r4 r5 r6=>q.2.2 E2 A2 cb r1 r2 r3 (hext.trans r4) ?_ r6⟩) hQ)
    exact(hs.weaken (M':=(· <pn)) fun j (hj:j<pn)=>by show j<s.pin; omega).trans r5 fun _ h=>h
   |exit j=>exact absurd hQ.1 (by simp)
   |ret=>exact absurd hQ.1 (by simp)
  unfold Fp at hc
  split at hc
  ·rename_i heq
   cases heq
   rename_i id ops
   split at hc
   ·rename_i j hj
    simp only[Option.map_eq_some_iff,Prod.mk.injEq] at hc
    obtain⟨b',h1,rfl,rfl,rfl⟩:=hc
    simp only[aw] at H
    refine wp_seq (abP hj (by have:=lF R.fr; rw[Array.length_toList] at this; omega) ?_)
    exact H.2.2 E act _ R hpn hle (Ext.refl _ _) (Same.refl _ _) h1
   ·split at hc
    ·rename_i h1 h2
     cases hc
     exact step h1 h2 rfl
    ·cases hc
  ·rename_i heq
   cases heq
   split at hc
   ·rename_i h1 h2
    cases hc
    exact step h1 h2 rfl
   ·cases hc
  ·cases hc
 |_=>intro a b i hc; cases hc
def yj(P:Program)(f:FuncId)(ts:List T)(h:Hp)(n:Nat)(post:Hp->Prop):Prop :=
 ∀ (F:Fr P) (M:Nat->Prop) (E:Env) (vs:List Value),o7 F E->E.h=h->bC E ts vs->T.aO M ts->lS M h-> ¬ M n ->
  CallsD P f vs.toArray .returning E.w fun e u w'=>u= .returning/\Ends F M E n (fun _ h'=>post h') e w'
theorem yj.vF{f:FuncId}{fn:Func}{c:Code}{ac:dR}{rs:List RV}{ts:List T}{h:Hp}{n nx nt:Nat}{post:Hp->Prop}(hf:P.funcs[f]? =some fn)(hb:fn.body=some c)(hc:comp P c=some ac)
  (hr:jG P fn.results.toList=some rs) (hnt:fn.ntmps=nt) (hts:T.aO (· <nx) ts) (hh:lS (· <nx) h)
  (H:aw P ac (Done h n (fun _ h'=>post h') rs) ⟨ts++List.replicate (nt-ts.length) T.un,h,nx,nx⟩):yj P f ts h n post :=
 fun F M E vs hk he hrep _ hm hn=>(callsD_of_wp hf hb (Rt (N:=fun i=>i=n) hc hr hnt hts hh H (F.defs []) M E vs rfl (hk.dl []) he hrep hm fun _ hi e=>hn (e▸hi))).mono
  fun _ _ _ q=>⟨q.1,zy.FM (N:=fun i=>i=n) q.2⟩
def abQ(P:Program)(g:FuncId)(us:List T)(h:Hp)(n:Nat)(post:T->Hp->Prop)(rs:List RV):oL->AS->Prop
 | .exit _,_=>False
 |_,s=> ∃ s1,Ez s1 s/\T.aO (· <s1.pin) us/\yj P g us s1.hp s1.nx fun h'=>Lr h (fun i=>i=n) post rs ⟨s1.fr,h',s1.nx+1,s1.pin⟩
theorem aN.XC{f:FuncId}{fn:Func}{c:Code}{a b:dR}{i:Ji}{rs:List RV}{ts:List T}{h:Hp}{n nx nt:Nat}{post:T->Hp->Prop}(hf:P.funcs[f]? =some fn)(hb:fn.body=some c)(hc:Fp P c=some (a,i,b))
  (hr:jG P fn.results.toList=some rs) (hcl:callable P f) (hcg:callable P i.g) (hnt:fn.ntmps=nt) (hin: ∃ t h',post t h') (hts:T.aO (· <nx) ts) (hh:lS (· <nx) h)
  (H:aw P a (fun e s'=>e= .normal/\i.d<s'.fr.length/\aw P b (abQ P i.g [s'.fr.getD i.x T.un,s'.fr.getD i.y T.un] h n post rs) ⟨s'.fr.set i.d .any,s'.hp,s'.nx,s'.nx⟩) ⟨ts++List.replicate (nt-ts.length) T.un,h,nx,nx⟩):aN P f ts h n post:=by
 refine⟨hin,hcl,fun F0 M E vs hk0 he hrep hid hm hn=>?_⟩
 suffices hh: ∀ F:Fr P,F.dl=[]->o7 F E->Calls P f vs.toArray E.w (Ends F M E n post) from(hh (F0.defs []) rfl (hk0.dl [])).mono fun _ _ q=>zy.FM (N:=fun i=>i=n) q
 clear hk0
 intro F hdl hk
 refine calls_of_wp_defers hf hb ?_
 subst hnt
 refine XB c hc rfl (Nat.le_refl _) (Rel.enter hdl hk he hrep hts hh) (jH ?_ H)
 rintro e s' ⟨q1,q2,q3⟩
 refine⟨q1,q2,?_⟩
 intro E' A' cb R' hpn hle hext hs hcb
 let D:Deferred:= {target:=.fn (.func i.g) (i.clo A'),args:= #[]}
 have R2:Rel (F.defs [D]) (· <s'.nx) E' ⟨s'.fr.set i.d .any,s'.hp,s'.nx,s'.nx⟩ (i.push A'):=by
  refine⟨R'.hk.dl _,R'.he,?_,?_,rU R'.mf (by simp[T.ids]),R'.mh⟩
  ·simp only[Ji.push,Array.toList_setIfInBounds]
   exact Aa R'.fr i.d (by rw[aA rfl]; simp[aI])
  ·show D::A'.defers=[D]
   rw[R'.df,hdl]
 have hus:bC E' [s'.fr.getD i.x T.un,s'.fr.getD i.y T.un] (i.clo A').toList:=by
  simp only[Ji.clo,bI]
  refine⟨_,_,rfl,?_,_,_,rfl,?_,rfl⟩
  ·exact bJ R' (x:=.tmp i.x) rfl
  ·exact bJ R' (x:=.tmp i.y) rfl
 have adL:T.aO (· <s'.nx) [s'.fr.getD i.x T.un,s'.fr.getD i.y T.un] :=
  ⟨oM R'.mf (by simp[T.ids]),oM R'.mf (by simp[T.ids]),trivial⟩
 generalize hU:[s'.fr.getD i.x T.un,s'.fr.getD i.y T.un]=us at *
 refine wp_mono (Ip cb hcb q3 (Nat.le_refl _) R2) ?_
 rintro e2 a2 w2 ⟨ae,E2,s2,rfl,rfl,hQ,Rq,hp2,hle2,aal,hs2⟩
 have key:(∃ s1,Ez s1 s2/\T.aO (· <s1.pin) us/\yj P i.g us s1.hp s1.nx fun h'=>Lr h (fun i=>i=n) post rs ⟨s1.fr,h',s1.nx+1,s1.pin⟩) ->
   Leaves P fn a2.tmps (Ends F M E n post) a2.defers .returning E2.w:=by
  rintro⟨s1,hN,hup,hcall⟩
  obtain⟨E1,hw1,R1,hx1,hs1,hp1,hle1⟩:=hN.sound Rq (by rw[hp2]; exact hle2)
  have adM:s1.pin=s'.nx:=hp1.trans hp2
  have hxt:Ext F E E1:=hext.trans (aal.FM.trans hx1.FM)
  have hst:Same E' E1 (· <s'.nx):=hs2.trans hs1 fun j hj=>by show j<s1.pin; rw[adM]; exact hj
  have hd2:a2.defers=[D]:=R1.df
  rw[hd2,<- hw1]
  have hv1:bC E1 us (i.clo A').toList:=iC _ _ (.of (aal.FM.trans hx1.FM) hst) adL _ hus
  refine leaves_cons (f:=i.g) (args:=i.clo A') (by simp) (by simp only[invoke,Array.empty_append]; exact hcg _ _) ?_
  have hM: ∀ j,j<s1.pin->j<s1.nx:=fun j hj=>by omega
  refine(hcall F (· <s1.nx) E1 (i.clo A').toList R1.hk.FM R1.he hv1 (T.ay hM _ hup) R1.mh (Nat.lt_irrefl _)).mono ?_
  rintro e3 u w3 ⟨rfl,v3,t3,E3,rfl,rfl,hret,_,hk3,hx3,hs3,_,ac2⟩
  have conv: ∀ j,(j<s1.nx\/j=s1.nx)->j<s1.nx+1:=fun j hj=>by omega
  have R3:Rel F (· <s1.nx+1) E3 ⟨s1.fr,E3.h,s1.nx+1,s1.pin⟩ {tmps:=a2.tmps,defers:=[]} :=
   ⟨hk3,rfl,iC _ _ (.of hx3 hs3) R1.mf _ R1.fr,hdl.symm,T.ay (fun j (hj:j<s1.nx)=>by show j<s1.nx+1; omega) _ R1.mf,
    fun j ob hj=>⟨conv j (ac2 j ob hj).1,T.ay conv _ (ac2 j ob hj).2⟩⟩
  have hle':nx<=s'.nx:=hle
  obtain⟨v,hrun,ac3⟩:=hret.ends (M:=M) hr hh hm (fun j hj (e:j=n)=>hn (by rw[<- e]; exact hj)) R3 (hxt.trans hx3) ((hs.trans hst fun j (hj:j<nx)=>by show j<s'.nx; omega).trans hs3 fun j (hj:j<nx)=>by show j<s1.nx; omega)
  exact⟨v,hrun,ac3⟩
 cases ae with
 |normal=>exact key hQ
 |ret=>exact key hQ
 |exit j=>exact hQ.elim
structure RQ(P:Program)(f:FuncId)(a b:dR)(i:Ji)(rs:List RV)(nt:Nat):Prop where
 ex: ∃ fn c,P.funcs[f]? =some fn/\fn.body=some c/\Fp P c=some (a,i,b)/\jG P fn.results.toList=some rs/\fn.ntmps=nt
 cl:callable P f
 dst:(oQ nt a&&oQ nt b&&Nat.blt i.d nt)=true
theorem RQ.of{f:FuncId}{fn:Func}{a b:dR}{i:Ji}{rs:List RV}{nt:Nat}(h1:P.funcs[f]? =some fn)(h2:(fn.body.isSome,Fp P (fn.body.getD .skip),jG P fn.results.toList,fn.ntmps,oQ nt a&&oQ nt b&&Nat.blt i.d nt)=(true,some (a,i,b),some rs,nt,true))(h3:callable P f):RQ P f a b i rs nt:=by
 simp only[Prod.mk.injEq] at h2
 obtain⟨a,b,c,d,e⟩:=h2
 obtain⟨cd,hc⟩:=Option.isSome_iff_exists.1 a
 rw[hc] at b
 exact⟨⟨fn,cd,h1,hc,b,c,d⟩,h3,e⟩
structure TS(P:Program)(g:FuncId)(us:List V)(h:Hz)(nx pn:Nat)(K:Hz->Prop):Prop where
 ok:T.LZ pn (V.aT us)=true/\yj P g (V.aT us) h.aj nx fun hp=> ∃ h':Hz,hp=h'.aj/\K h'
def abR(P:Program)(pn:Nat)(g:FuncId)(us:List V)(h0:Hz)(n:Nat)(post:T->Hp->Prop)(rs:List RV):Qz
 | .exit _,_,_,_=>False
 |_,m,h,nx=>TS P g us h nx pn fun h'=>match resV m h' rs with
  |some v=>v.seq fun v=>iI h0 n post v h'
  |none=>False
def aam(o:Option V):Bool:=match o with|none=>true|some _=>false
def AtD(P:Program)(nt:Nat)(b:dR)(i:Ji)(h0:Hz)(n:Nat)(post:T->Hp->Prop)(rs:List RV):Qz
 | .normal,m,h,nx=>match m.get i.x,m.get i.y with
  |some u,some v=>bif aam (m.get i.d) then az P nt nx b (abR P nx i.g [u,v] h0 n post rs) m h nx else False
  |_,_=>False
 |_,_,_,_=>False
theorem TS.walk{g:FuncId}{ac:dR}{rs:List RV}{nt:Nat}{us:List V}{h:Hz}{nx pn:Nat}{K:Hz->Prop}(B:Body P g ac rs nt)(hn:us.length<=nt)(hp:T.LZ pn (V.aT us)=true)(ha:T.LZ nx (V.aT us)=true)(hg:rM nx h=true)
  (H:az P nt nx ac (aaj h nx (fun _ hp=> ∃ h':Hz,hp=h'.aj/\K h') rs) (yh 0 us) h nx):TS P g us h nx pn K:=by
 refine⟨hp,?_⟩
 obtain⟨fn,c,h1,h2,h3,h4,h5⟩:=B.ex
 have hG:=kL hg
 refine yj.vF (nx:=nx) h1 h2 h3 h4 h5 (sV ha) (fun i ob hi=>⟨(hG i ob hi).1,(hG i ob hi).2.1⟩) ?_
 have:=mZ (P:=P) (N:=nt) (pn:=nx) (s:=⟨V.aT us++List.replicate (nt-(V.aT us).length) T.un,h.aj,nx,nx⟩) B.dst (by simp[gu]; omega) uN rfl rfl H
 refine jH ?_ this
 rintro e s ⟨m,h',a1,a2,a3,a4,a5⟩
 have key: ∀ {m h'},Rp m s.fr->s.hp=Hz.aj h'->(match resV m h' rs with|some v=>v.seq fun v=>iI h nx (fun _ hp=> ∃ h':Hz,hp=h'.aj/\K h') v h'|none=>False)-> ∃ s1,Ez s1 s/\Ret h.aj nx (fun _ hp=> ∃ h':Hz,hp=h'.aj/\K h') rs s1:=by
  intro m h' a2 a3 q
  split at q
  ·rename_i v hv
   rw[V.seq_eq] at q
   obtain⟨b1,b2⟩:=DL a2 a3 hv
   obtain⟨Z,ρ,t,h',c1,c2,c3,c4,c5,c6,c7⟩:=q.ok
   exact⟨s,.refl _,b1,Z,ρ,t,h',c1,by rw[b2,a3]; exact c2,by rw[a3]; exact c3,c4,c5,c6,c7⟩
  ·exact q.elim
 cases e with
 |exit j=>exact a5.elim
 |normal=>exact key a2 a3 a5
 |ret=>exact key a2 a3 a5
theorem pR.ofD{f:FuncId}{a b:dR}{i:Ji}{rs:List RV}{nt nx n:Nat}{args:List V}{h0:Hz}{post:T->Hp->Prop}(B:RQ P f a b i rs nt)(hcg:callable P i.g)(hn:args.length<=nt)(hin: ∃ t h',post t h')(ha:T.LZ nx (V.aT args)=true)(hg:rM nx h0=true)
  (H:az P nt nx a (AtD P nt b i h0 n post rs) (yh 0 args) h0 nx):aN P f (V.aT args) h0.aj n post:=by
 obtain⟨fn,c,h1,h2,h3,h4,h5⟩:=B.ex
 have hG:=kL hg
 have hd:=B.dst
 simp only[Bool.and_eq_true] at hd
 refine aN.XC (nx:=nx) h1 h2 h3 h4 B.cl hcg h5 hin (sV ha) (fun i ob hi=>⟨(hG i ob hi).1,(hG i ob hi).2.1⟩) ?_
 have:=mZ (P:=P) (N:=nt) (pn:=nx) (s:=⟨V.aT args++List.replicate (nt-(V.aT args).length) T.un,h0.aj,nx,nx⟩) hd.1.1 (by simp[gu]; omega) uN rfl rfl H
 refine jH ?_ this
 rintro e s ⟨m,h,a1,a2,a3,a4,a5⟩
 cases e with
 |exit j=>exact a5.elim
 |ret=>exact a5.elim
 |normal =>
  simp only[AtD] at a5
  split at a5
  ·rename_i u v hu hv
   cases hm:aam (m.get i.d) with
   |false=>rw[hm] at a5; exact a5.elim
   |true =>
    rw[hm] at a5
    have hmd:m.get i.d=none:=by
     cases e:m.get i.d with
     |none=>rfl
     |some w=>rw[e] at hm; cases hm
    have hlt:i.d<s.fr.length:=by rw[a1]; simpa using hd.2
    refine⟨rfl,hlt,?_⟩
    have hgx:s.fr.getD i.x T.un=u.aG:=by have:=a2 _ _ hu; rw[List.getD_eq_getElem?_getD,this]; rfl
    have hgy:s.fr.getD i.y T.un=v.aG:=by have:=a2 _ _ hv; rw[List.getD_eq_getElem?_getD,this]; rfl
    rw[hgx,hgy]
    have R2:Rp m (s.fr.set i.d .any):=fun j w hw=>by
     rw[List.getElem?_set_ne (fun e=>by rw[e,hw] at hmd; cases hmd)]; exact a2 j w hw
    have:=mZ (P:=P) (N:=nt) (pn:=s.nx) (s:=⟨s.fr.set i.d .any,s.hp,s.nx,s.nx⟩) hd.1.2 (by simp[a1]) R2 a3 rfl a5
    refine jH ?_ this
    rintro e2 s2 ⟨m2,h2,b1,b2,b3,b4,b5⟩
    have key:TS P i.g [u,v] h2 s2.nx s.nx (fun h'=>match resV m2 h' rs with|some v=>v.seq fun v=>iI h0 n post v h'|none=>False) ->
      ∃ s1,Ez s1 s2/\T.aO (· <s1.pin) [u.aG,v.aG]/\yj P i.g [u.aG,v.aG] s1.hp s1.nx fun h'=>Lr h0.aj (fun i=>i=n) post rs ⟨s1.fr,h',s1.nx+1,s1.pin⟩:=by
     rintro⟨q1,q2⟩
     refine⟨s2,.refl _,by rw[b4]; exact sV q1,?_⟩
     intro F M E vs r1 r2 r3 r4 r5 r6
     refine(q2 F M E vs r1 (by rw[r2,b3]) r3 r4 (by rw[<- b3]; exact r5) r6).mono ?_
     rintro e u' w' ⟨t1,v',t',E',t2,t3,⟨h',t4,t5⟩,t6⟩
     refine⟨t1,v',t',E',t2,t3,?_,t6⟩
     split at t5
     ·rename_i w hw
      rw[V.seq_eq] at t5
      obtain⟨d1,d2⟩:=DL (s:=⟨s2.fr,E'.h,s2.nx+1,s2.pin⟩) b2 t4 hw
      obtain⟨Z,ρ,t,h',c1,c2,c3,c4,c5,c6,c7⟩:=t5.ok
      exact⟨d1,Z,ρ,t,h',c1,by rw[d2]; show T.sub Z E'.h _ _; rw[t4]; exact c2,by show ∀ i ob,_-> ∃ ob',E'.h _=_/\_; rw[t4]; exact c3,c4,c5,c6,c7⟩
     ·exact t5.elim
    cases e2 with
    |exit j=>exact b5.elim
    |normal=>exact key b5
    |ret=>exact key b5
  ·exact a5.elim
theorem aN.OX{f:FuncId}{ts ts2:List T}{h h2:Hp}{n:Nat}{post:T->Hp->Prop}(Z:Nat->Prop)(H:aN P f ts2 h2 n post)(hs:T.dD Z h ts2 ts)
  (ho: ∀ i ob,h2 i=some ob-> ∃ ob',h i=some ob'/\ ¬ Z i/\ob'.ty=ob.ty/\ob'.k=ob.k/\T.dD Z h ob.l ob'.l/\ob.l.map T.kd=ob'.l.map T.kd/\ob.l.map fQ=ob'.l.map fQ):aN P f ts h n post:=by
 obtain⟨h1,hcl,hcall⟩:=H
 refine⟨h1,hcl,fun F M E vs hk he hrep hid hm hn=>?_⟩
 subst he
 have Ux: ∀ i ob,h2 i=some ob-> ∃ ob',E.h (id i)=some ob'/\ ¬ Z (id i)/\Gg Z E.h id ob ob':=fun i ob hi=>by
  obtain⟨ob',a1,a2,a3,a4,a5,a6,a7⟩:=ho i ob hi
  refine⟨ob',a1,a2,a3,a4,by rw[Dx]; exact a5,?_⟩
  have hkd:=(hk.obs i ob' a1).1.kinds
  rw[<- a4]
  rcases hkd with ⟨g1,g2⟩|⟨g1,g2⟩
  ·exact .inl ⟨g1,Gh a7 g2⟩
  ·exact .inr ⟨g1,D6 a6 g2⟩
 let E2:Env:=(E.shut Z).ren id h2
 have hk2:o7 F E2:=hk.ren Ux fun i j _ _ e=>e
 have hl: ∀ i,(h2 i).isSome=true->((E.shut Z).h (id i)).isSome=true:=fun i hi=>by
  obtain⟨ob,hob⟩:=Option.isSome_iff_exists.1 hi
  obtain⟨ob',b1,b2,_⟩:=Ux i ob hob
  rw[uU b2,b1]; rfl
 have ac4:bC E2 ts2 vs:=by
  have e:T.cu id ts2=ts2:=Dx ts2
  have:=ny hk _ _ hs _ hrep
  rw[<- e] at this
  exact tq hl _ _ this
 refine(hcall F M E2 vs hk2 rfl ac4 (nR _ _ hs hid) (fun i ob hi=>?_) hn).mono ?_
 ·obtain⟨ob',a1,_,_,_,a5,_⟩:=ho i ob hi
  exact⟨(hm i ob' a1).1,nR _ _ a5 (hm i ob' a1).2⟩
 ·rintro e w' ⟨v,t,E',rfl,rfl,r3,r4,r5,r6,r7,r8,r9⟩
  refine⟨v,t,E',rfl,rfl,r3,r4,r5,⟨fun g hg=>r6.s g (.inl hg),fun g hg=>r6.w g (hg.imp .inl id),r6.size,r6.os,r6.tape,r6.output,r6.dr⟩,fun i hi hsome=>?_,r8,r9⟩
  obtain⟨q1,q2,q3⟩:=r7 i hi hsome
  obtain⟨ob,hob⟩:=Option.isSome_iff_exists.1 q1
  obtain⟨ob',a1,_⟩:=ho i ob hob
  exact⟨by rw[a1]; rfl,q2,q3⟩
theorem ah.OX{f:FuncId}{args:List V}{h h2:Hz}{n:Nat}{K:V->Hz->Prop}{KW:Nat->V->Hz->Prop}(Z:Nat->Prop)(F:Fz Z h h2)(H:aN P f (V.aT args) h2.aj n fun t hp=> ∃ v h',t=v.aG/\hp=Hz.aj h'/\K v h'):ah P false none f args h n K KW:=by
 refine⟨.inl ?_⟩
 refine aN.OX Z (aN.mono H fun t hp ⟨v,h',a,b,c⟩=>⟨v,h',a,b,(fun e=>by cases e),c⟩) (bZ _) fun i ob hi=>?_
 simp only[Hz.aj,Option.map_eq_some_iff] at hi
 obtain⟨o,e1,rfl⟩:=hi
 obtain⟨o',a1,a2,a3,a4,a5,a6,a7⟩:=CB F e1
 exact⟨o'.aF,aH a1,a2,a3,a4,a5,a6,a7⟩
end
section
variable {P:Program} {H:Type} {enc:TypeId×Value->H}
inductive Sh where
 |int
 |u64
 |str
 |bool
 |sl (k:Nat) (s:Sh)
 |st (l:List Sh)
mutual
def Sh.cells:Sh->Nat
 | .st l=>Sh.vX l
 |_=>1
def Sh.vX:List Sh->Nat
 |[]=>0
 |s::l=>s.cells+Sh.vX l
end
def Sh.kd:Sh->Nat
 | .st l=>Sh.vX l+1
 |_=>0
mutual
def Sh.fits(P:Program):Sh->TypeId->Bool
 | .int,t=>match P.underlying t with|some (.int .i64)=>true|_=>false
 | .u64,t=>match P.underlying t with|some (.int .u64)=>true|_=>false
 | .str,t=>match P.underlying t with|some .string=>true|_=>false
 | .bool,t=>match P.underlying t with|some .bool=>true|_=>false
 | .sl k s,t=>match P.underlying t with
  |some (.slice e)=>s.fits P e&&Nat.beq s.kd k&&Nat.beq (P.cellsOf e) s.cells&&Nat.blt 0 s.cells
  |_=>false
 | .st l,t=>match P.underlying t with
  |some (.struct fs)=>Sh.Kr P l fs.toList 0&&Nat.beq (P.cellsOf t) (Sh.vX l)
  |_=>false
def Sh.Kr(P:Program):List Sh->List Field->Nat->Bool
 |[],[],_=>true
 |s::l,f::fs,off=>s.fits P f.type&&Nat.beq f.offset off&&Nat.beq (P.cellsOf f.type) s.cells&&Sh.Kr P l fs (off+s.cells)
 |_,_,_=>false
end
mutual
def Sh.aG:Sh->DataW H->T
 | .int,.lit (.int _ n)=>.int n
 | .u64,.lit (.int _ n)=>.lit (.int .u64 n)
 | .str,.lit (.string l)=>.lit (.string ⟨l.toArray⟩)
 | .bool,.lit (.bool b)=>.bool b
 | .sl k s,.slice es _=>.sl k false (es.map s.aG)
 | .sl k _,.nil=>.sl k false []
 | .st l,.agg ds=>.agg (Sh.ET l ds)
 |_,_=>.any
def Sh.ET:List Sh->List (DataW H)->List T
 |s::l,d::ds=>(s.aG d).cells++Sh.ET l ds
 |_,_=>[]
end
def RS(v:Value):Prop:= ∀ n,v≠ .int .u8 n
mutual
def Sh.wf:Sh->DataW H->Prop
 | .int,d=> ∃ n,d= .lit (.int .i64 n)/\(Lit.int .i64 n).wf=true
 | .u64,d=> ∃ n,d= .lit (.int .u64 n)/\(Lit.int .u64 n).wf=true
 | .str,d=> ∃ l,d= .lit (.string l)
 | .bool,d=> ∃ b,d= .lit (.bool b)
 | .sl _ s,d=>d= .nil\/ ∃ es sp,d= .slice es sp/\ ∀ x∈es,s.wf x
 | .st l,d=> ∃ ds,d= .agg ds/\Sh.UO l ds
def Sh.UO:List Sh->List (DataW H)->Prop
 |[],ds=>ds=[]
 |s::l,ds=> ∃ d r,ds=d::r/\s.wf d/\Sh.UO l r
end
structure Rd(E:Env)(s:Sh)(d:DataW H)(cs:List Value):Prop where
 rep:aI E (s.aG d) cs
 len:cs.length=s.cells
 one: ∀ v∈cs,v.oneCell'=true
 u8: ∀ v∈cs,RS v
 free:(s.aG d).free=true
 kd:(s.aG d).kd=s.kd
 wf:s.wf d
structure RdL(E:Env)(l:List Sh)(ds:List (DataW H))(cs:List Value):Prop where
 rep:aW E (Sh.ET l ds) cs
 len:cs.length=Sh.vX l
 one: ∀ v∈cs,v.oneCell'=true
 u8: ∀ v∈cs,RS v
 free:T.dH (Sh.ET l ds)=true
 cnt:(Sh.ET l ds).length=Sh.vX l
 wf:Sh.UO l ds
theorem QB{E:Env}{k:Nat}: ∀ {l:List T} {vs:List Value},l.length*bg k<=vs.length->(∀ j t,l[j]? =some t->t.kd=k/\(∀ v∈(vs.drop (j*bg k)).take (bg k),v.oneCell'=true)/\aI E t ((vs.drop (j*bg k)).take (bg k)))->aC E k l vs:=by
 intro l
 induction l with
 |nil=>intro vs _ _; trivial
 |cons t ts ih =>
  intro vs hl H
  simp only[List.length_cons,Nat.add_mul,Nat.one_mul] at hl
  obtain⟨h1,h2,h3⟩:=H 0 t rfl
  simp only[Nat.zero_mul,List.drop_zero] at h2 h3
  refine⟨h1,by omega,h2,h3,ih (by simp; omega) fun j u hj=>?_⟩
  have:=H (j+1) u (by simpa using hj)
  rw[List.drop_drop]
  rw[Nat.add_mul,Nat.one_mul,Nat.add_comm (j*bg k)] at this
  exact this
theorem UQ{E:Env}: ∀ {a b:List T} {x y:List Value},aW E a x->aW E b y->aW E (a++b) (x++y):=by
 intro a
 induction a with
 |nil=>intro b x y h1 h2; simp only[aW] at h1; subst h1; exact h2
 |cons t a ih =>
  intro b x y h1 h2
  simp only[aW] at h1
  obtain⟨hk,v,r,rfl,h3,h4,h5⟩:=h1
  simp only[List.cons_append,aW]
  exact⟨hk,v,r++y,rfl,h3,h4,ih h5 h2⟩
theorem UR{a b:List T}(ha:T.dH a=true)(hb:T.dH b=true):T.dH (a++b)=true:=by
 rw[ig] at *
 intro t ht
 rcases List.mem_append.1 ht with h|h
 ·exact ha t h
 ·exact hb t h
theorem Oo{E:Env}{t:T}{cs:List Value}(h:aI E t cs)(hl:t.kd=0->cs.length=1)(h1: ∀ v∈cs,v.oneCell'=true):aW E t.cells cs:=by
 have other: ∀ t:T,t.cells=[t]->t.kd=0->aI E t cs->(t.kd=0->cs.length=1)->aW E t.cells cs:=by
  intro t e k h hl
  rw[e]
  have:=hl k
  match cs,this with
  |[v],_=>simp only[aW]; exact⟨k,v,[],rfl,h1 v (by simp),h,rfl⟩
 cases t with
 |agg l=>simp only[aI] at h; exact h
 |_=>exact other _ rfl rfl h hl
theorem QC{t:T}(h:t.free=true):T.dH t.cells=true:=by
 cases t with
 |agg l=>exact h
 |_=>simp only[T.cells,T.dH,Bool.and_true]; exact h
theorem UU{t:T}:t.cells.length=bg t.kd:=by
 cases t with
 |agg l=>rfl
 |_=>rfl
theorem Sh.mV(s:Sh):bg s.kd=s.cells:=by
 cases s<;>rfl
theorem cell?_at{w:World}{a:Addr}{v:Value}(h:w.cell? a=some v): ∃ cur ty m,w.heap[a.block]? =some (.cells cur ty m)/\a.spot=none/\cur.toList[a.off]? =some v:=by
 unfold World.cell? at h
 split at h
 ·rename_i c t f e
  split at h
  ·cases h
  ·rename_i hs
   exact⟨c,t,f,e,by simpa using hs,by simpa using h⟩
 ·cases h
theorem Kt{w:World}{base:Nat}{a:Addr}{n:Nat}{cs:List Value}(h:w.cells? base a n=some cs)(hn:0<n): ∃ cur ty m,w.heap[a.block]? =some (.cells cur ty m)/\a.spot=none/\cs=(cur.toList.drop a.off).take n:=by
 obtain⟨_,hl,hc⟩:=World.cells?_some h
 have h0:=hc 0 hn
 have e0:a.add 0=a:=by simp[Addr.add]
 rw[e0,List.getElem?_eq_getElem (by omega)] at h0
 obtain⟨cur,ty,m,h1,h2,_⟩:=cell?_at h0
 refine⟨cur,ty,m,h1,h2,?_⟩
 have key: ∀ j,j<n->cur.toList[a.off+j]? =cs[j]? :=by
  intro j hj
  have:=hc j hj
  rw[List.getElem?_eq_getElem (by omega)] at this
  obtain⟨cur',ty',m',g1,g2,g3⟩:=cell?_at this
  have eb:(a.add j).block=a.block:=by unfold Addr.add; split<;>rfl
  have eo:(a.add j).off=a.off+j:=by
   obtain⟨b,o,sp⟩:=a
   simp only at h2; subst h2
   rw[Go.WideShapes.add_plain]
  rw[eb,h1] at g1
  cases g1
  rw[eo] at g3
  rw[g3,List.getElem?_eq_getElem (by omega)]
 apply List.ext_getElem?
 intro j
 by_cases hj:j<n
 ·rw[List.getElem?_take,if_pos hj,List.getElem?_drop,key j hj]
 ·rw[List.getElem?_eq_none (by omega),List.getElem?_eq_none (by simp; omega)]
def DU(E:Env):Prop:= ∀ b cur ty m,E.w.heap[b]? =some (.cells cur ty m)->(∃ v∈cur.toList,RS v)->E.S b
theorem XD{E:Env}{s:Sh}{k:Nat}{base:Nat}{spare:Nat->Bool}{held:Bool}(hS:DU E){t e:TypeId}(ht:P.underlying t=some (.slice e))(hk:s.kd=k)(hce:P.cellsOf e=s.cells)(hpos:0<s.cells)
  (ih: ∀ (n:Nat) (cs:List Value) (d:DataW H) (ps:List MemPlace),DataW.trod enc P E.w base spare held n e cs=some (d,ps)->Rd E s d cs)
  {n:Nat} {cs:List Value} {d:DataW H} {ps:List MemPlace} (h:DataW.trod enc P E.w base spare held n t cs=some (d,ps)):Rd E (.sl k s) d cs:=by
 rcases DataW.trod_slice ht h with ⟨rfl,hx⟩|⟨a,len,cap,elems,rest,m,_,rfl,hx,hb,hl,hm,hlen,hel,_,_⟩
 ·cases hx
  refine⟨?_,rfl,(fun v hv=>by rw[List.mem_singleton] at hv; subst hv; rfl),(fun v hv=>by rw[List.mem_singleton] at hv; subst hv; intro n e; cases e),rfl,rfl,.inl rfl⟩
  simp only[Sh.aG,aI]
  exact⟨none,0,rfl,Nat.le_refl _,nofun,.inl trivial⟩
 ·cases hx
  have hlen':(elems.map (·.1)).length=len:=by simpa using hlen
  refine⟨?_,rfl,(fun v hv=>by rw[List.mem_singleton] at hv; subst hv; rfl),(fun v hv=>by rw[List.mem_singleton] at hv; subst hv; intro n e; cases e),rfl,rfl,.inr ⟨_,_,rfl,fun x hx=>?_⟩⟩
  rotate_left
  ·obtain⟨y,hy,rfl⟩:=List.mem_map.1 hx
   obtain⟨i,hi,rfl⟩:=List.getElem_of_mem hy
   have:=hel i (by omega)
   rw[List.getElem?_eq_getElem hi] at this
   obtain⟨cs',_,h2⟩:=Option.bind_eq_some_iff.1 this
   exact(ih _ _ _ _ h2).wf
  simp only[Sh.aG,aI,List.length_map]
  refine⟨some a,cap,by rw[hlen],by omega,nofun,?_⟩
  by_cases h0:len=0
  ·left
   have:elems=[]:=List.length_eq_zero_iff.1 (by omega)
   rw[this]; rfl
  ·right
   have get: ∀ i,i<len-> ∃ cs',E.w.cells? base (a.add (i*s.cells)) s.cells=some cs'/\ ∃ x,elems[i]? =some x/\Rd E s x.1 cs':=by
    intro i hi
    have:=hel i hi
    rw[hce,List.getElem?_eq_getElem (by omega)] at this
    obtain⟨cs',h1,h2⟩:=Option.bind_eq_some_iff.1 this
    exact⟨cs',h1,elems[i],List.getElem?_eq_getElem (by omega),ih _ _ _ _ h2⟩
   obtain⟨cs0,c1,x0,_,r0⟩:=get 0 (by omega)
   obtain⟨cur,ty,mm,g1,g2,g3⟩:=Kt c1 hpos
   have ea:a.add (0*s.cells)=a:=by simp[Addr.add]
   rw[ea] at g1 g2 g3
   obtain⟨b,off,sp⟩:=a
   simp only at g1 g2 g3
   subst g2
   have hsub: ∀ i,i<len-> ∃ x,elems[i]? =some x/\Rd E s x.1 ((cur.toList.drop (off+i*s.cells)).take s.cells):=by
    intro i hi
    obtain⟨cs',q1,x,q2,q3⟩:=get i hi
    obtain⟨cur',ty',m',k1,k2,k3⟩:=Kt q1 hpos
    rw[Go.WideShapes.add_plain] at k1 k3
    simp only at k1 k3
    rw[g1] at k1; cases k1
    rw[k3] at q3
    exact⟨x,q2,q3⟩
   have hcur:len*s.cells<=(cur.toList.drop off).length:=by
    obtain⟨x,_,q⟩:=hsub (len-1) (by omega)
    have:=q.len
    rw[List.length_take,List.length_drop] at this
    rw[List.length_drop]
    have e:len*s.cells=(len-1)*s.cells+s.cells:=by
     conv=>lhs; rw[show len=(len-1)+1 by omega,Nat.add_mul,Nat.one_mul]
    omega
   refine⟨b,off,cur,ty,mm,rfl,hS b cur ty mm g1 ?_,g1,?_,?_⟩
   ·have hl0:=r0.len
    match hcs:cs0,hl0 with
    |[],hl0=>simp at hl0; omega
    |v::r,_ =>
     refine⟨v,?_,r0.u8 v (by simp)⟩
     have:v∈(cur.toList.drop off).take s.cells:=by rw[<- g3]; simp
     exact List.mem_of_mem_drop (List.mem_of_mem_take this)
   ·rw[dB]
    intro t ht
    rw[List.mem_map] at ht
    obtain⟨d,hd,rfl⟩:=ht
    rw[List.mem_map] at hd
    obtain⟨x,hx,rfl⟩:=hd
    obtain⟨i,hi,rfl⟩:=List.getElem_of_mem hx
    obtain⟨x',q1,q2⟩:=hsub i (by omega)
    rw[List.getElem?_eq_getElem hi] at q1
    cases q1
    exact gX q2.free
   ·refine QB (by rw[List.length_map,List.length_map,hlen,<- hk,Sh.mV]; exact hcur) fun j t hj=>?_
    rw[<- hk,Sh.mV]
    have hjl:j<len:=by
     rcases Nat.lt_or_ge j len with h|h
     ·exact h
     ·rw[List.getElem?_eq_none (by simp; omega)] at hj; cases hj
    obtain⟨x,q1,q2⟩:=hsub j hjl
    rw[List.getElem?_map,List.getElem?_map,q1] at hj
    simp only[Option.map_some,Option.some.injEq] at hj
    subst hj
    rw[List.drop_drop]
    exact⟨q2.kd,q2.one,q2.rep⟩
mutual
theorem Sh.read{E:Env}{base:Nat}{spare:Nat->Bool}{held:Bool}(hS:DU E):(s:Sh)->(t:TypeId)->s.fits P t=true->(n:Nat)->(cs:List Value)->(d:DataW H)->(ps:List MemPlace) ->
  DataW.trod enc P E.w base spare held n t cs=some (d,ps)->Rd E s d cs
 | .int,t,hf,n,cs,d,ps,h=>by
  simp only[Sh.fits] at hf
  split at hf
  ·rename_i e
   obtain⟨z,rfl,hx,hwf⟩:=DataW.trod_int e h
   cases hx
   refine⟨by simp[Sh.aG,aI],rfl,(fun v hv=>by rw[List.mem_singleton] at hv; subst hv; rfl),(fun v hv=>by rw[List.mem_singleton] at hv; subst hv; intro n e; cases e),rfl,rfl,⟨z,rfl,hwf⟩⟩
  ·cases hf
 | .u64,t,hf,n,cs,d,ps,h=>by
  simp only[Sh.fits] at hf
  split at hf
  ·rename_i e
   obtain⟨z,rfl,hx,hwf⟩:=DataW.trod_int e h
   cases hx
   refine⟨by simp[Sh.aG,aI],rfl,(fun v hv=>by rw[List.mem_singleton] at hv; subst hv; rfl),(fun v hv=>by rw[List.mem_singleton] at hv; subst hv; intro n e; cases e),rfl,rfl,⟨z,rfl,hwf⟩⟩
  ·cases hf
 | .str,t,hf,n,cs,d,ps,h=>by
  simp only[Sh.fits] at hf
  split at hf
  ·rename_i e
   obtain⟨z,rfl,hx,_⟩:=DataW.trod_string e h
   cases hx
   refine⟨by simp[Sh.aG,aI],rfl,(fun v hv=>by rw[List.mem_singleton] at hv; subst hv; rfl),(fun v hv=>by rw[List.mem_singleton] at hv; subst hv; intro n e; cases e),rfl,rfl,⟨_,rfl⟩⟩
  ·cases hf
 | .bool,t,hf,n,cs,d,ps,h=>by
  simp only[Sh.fits] at hf
  split at hf
  ·rename_i e
   obtain⟨z,rfl,hx⟩:=DataW.trod_bool e h
   cases hx
   refine⟨by simp[Sh.aG,aI],rfl,(fun v hv=>by rw[List.mem_singleton] at hv; subst hv; rfl),(fun v hv=>by rw[List.mem_singleton] at hv; subst hv; intro n e; cases e),rfl,rfl,⟨_,rfl⟩⟩
  ·cases hf
 | .sl k s,t,hf,n,cs,d,ps,h=>by
  simp only[Sh.fits] at hf
  split at hf
  ·rename_i e he
   simp only[Bool.and_eq_true] at hf
   obtain⟨⟨⟨f1,f2⟩,f3⟩,f4⟩:=hf
   exact XD hS he (Nat.eq_of_beq_eq_true f2) (Nat.eq_of_beq_eq_true f3) (Nat.blt_eq.mp f4) (Sh.read hS s e f1) h
  ·cases hf
 | .st l,t,hf,n,cs,d,ps,h=>by
  simp only[Sh.fits] at hf
  split at hf
  ·rename_i fs he
   simp only[Bool.and_eq_true] at hf
   obtain⟨xs,m,_,hx,hlen,hxl,hg⟩:=DataW.trod_struct he h
   cases hx
   have hct:=Nat.eq_of_beq_eq_true hf.2
   have R:=Sh.aan hS l fs.toList 0 hf.1 m cs xs (by simpa using hxl) (fun i f hi=>by
    have:=hg i f (by simpa using hi)
    rw[<- this]) (by rw[hlen,hct]; simp)
   simp only[List.drop_zero] at R
   refine⟨by simp only[Sh.aG,aI]; exact R.rep,by rw[hlen,hct]; rfl,R.one,R.u8,R.free,?_,⟨_,rfl,R.wf⟩⟩
   show(Sh.ET l _).length+1=Sh.vX l+1
   rw[R.cnt]
  ·cases hf
theorem Sh.aan{E:Env}{base:Nat}{spare:Nat->Bool}{held:Bool}(hS:DU E):(l:List Sh)->(fs:List Field)->(off:Nat)->Sh.Kr P l fs off=true->(n:Nat)->(cs:List Value)->(xs:List (DataW H×List MemPlace))->xs.length=fs.length ->
  (∀ (i:Nat) (f:Field),fs[i]? =some f->DataW.trod enc P E.w base spare held n f.type ((cs.drop f.offset).take (P.cellsOf f.type))=xs[i]?)->cs.length=off+Sh.vX l->RdL E l (xs.map (·.1)) (cs.drop off)
 |[],[],off,hf,n,cs,xs,hl,hx,hc=>by
  have:xs=[]:=List.length_eq_zero_iff.1 (by simpa using hl)
  subst this
  have:cs.drop off=[]:=List.drop_eq_nil_of_le (by rw[hc]; simp[Sh.vX])
  rw[this]
  exact⟨rfl,rfl,(fun v hv=>by cases hv),(fun v hv=>by cases hv),rfl,rfl,rfl⟩
 |s::l,f::fs,off,hf,n,cs,xs,hl,hx,hc=>by
  simp only[Sh.Kr,Bool.and_eq_true] at hf
  obtain⟨⟨⟨f1,f2⟩,f3⟩,f4⟩:=hf
  have e2:=Nat.eq_of_beq_eq_true f2
  have e3:=Nat.eq_of_beq_eq_true f3
  match xs,hl with
  |x::xs,hl =>
   have h0:=hx 0 f rfl
   rw[e2,e3] at h0
   have R0:=Sh.read hS s f.type f1 n _ x.1 x.2 h0
   simp only[Sh.vX] at hc
   have R1:=Sh.aan hS l fs (off+s.cells) f4 n cs xs (by simpa using hl) (fun i g hi=>by
    have:=hx (i+1) g (by simpa using hi)
    simpa using this) (by omega)
   have e:cs.drop off=(cs.drop off).take s.cells++cs.drop (off+s.cells):=by
    rw[<- List.drop_drop,List.take_append_drop]
   rw[e]
   have h1:(s.aG x.1).kd=0->((cs.drop off).take s.cells).length=1:=by
    intro hk
    rw[R0.len,<- Sh.mV,<- R0.kd,hk]; rfl
   refine⟨?_,?_,?_,?_,?_,?_,⟨_,_,rfl,R0.wf,R1.wf⟩⟩
   ·simp only[List.map_cons,Sh.ET]
    exact UQ (Oo R0.rep h1 R0.one) R1.rep
   ·rw[List.length_append,R0.len,R1.len]; rfl
   ·intro v hv
    rcases List.mem_append.1 hv with h|h
    ·exact R0.one v h
    ·exact R1.one v h
   ·intro v hv
    rcases List.mem_append.1 hv with h|h
    ·exact R0.u8 v h
    ·exact R1.u8 v h
   ·simp only[List.map_cons,Sh.ET]
    exact UR (QC R0.free) R1.free
   ·simp only[List.map_cons,Sh.ET,List.length_append,UU,R0.kd,Sh.mV,R1.cnt]; rfl
 |[],_::_,_,hf,_,_,_,_,_,_=>by simp[Sh.Kr] at hf
 |_::_,[],_,hf,_,_,_,_,_,_=>by simp[Sh.Kr] at hf
end
end
open Go.ChangeShapes Go.WideShapes Go.RowKit
section
variable {P:Program} {H:Type} {enc:TypeId×Value->H}
theorem UW{W:World}(h:Lib.TabIs P W "strings.asciiSpace" .u8 Lib.asciiSpaceTab): ∀ g cs,vW P g=some cs-> ∃ ty m,W.heap[g]? =some (.cells cs ty m):=by
 intro g cs hg
 unfold vW at hg
 split at hg
 ·rename_i e
  cases hg
  unfold Lib.TabIs World.var? at h
  rw[e] at h
  simp only[Option.bind_some] at h
  split at h
  ·rename_i c ty m hc
   cases h
   exact⟨ty,m,hc⟩
  ·cases h
 ·cases hg
def XE(P:Program)(W:World):Env:=⟨W,fun g=>g<W.heap.size/\vW P g=none,fun _=>.nilFunc,fun _=>0,no⟩
def abS(P:Program):Fr P:= {s:=fun g=>(vW P g).isSome=true}
theorem XF{g:Nat}{cs:Array Value}(h:vW P g=some cs): ∀ v∈cs.toList,¬ RS v:=by
 unfold vW at h
 split at h
 ·cases h
  intro v hv hn
  simp only[List.mem_map] at hv
  obtain⟨z,_,rfl⟩:=hv
  exact hn z rfl
 ·cases h
theorem ZB{W:World}(hgl: ∀ g cs,vW P g=some cs-> ∃ ty m,W.heap[g]? =some (.cells cs ty m)):DU (XE P W):=by
 intro b cur ty m hb hv
 refine⟨(Array.getElem?_eq_some_iff.1 hb).1,?_⟩
 cases hg:vW P b with
 |none=>rfl
 |some cs =>
  obtain⟨ty',m',h⟩:=hgl b cs hg
  rw[show W.heap[b]? =_ from hb] at h
  cases h
  obtain⟨v,hv1,hv2⟩:=hv
  exact absurd hv2 (XF hg v hv1)
theorem XG{W:World}(hgl: ∀ g cs,vW P g=some cs-> ∃ ty m,W.heap[g]? =some (.cells cs ty m)):o7 (abS P) (XE P W):=by
 refine⟨(fun i ob hi=>by cases hi),(fun i ob g hi=>by cases hi),(fun i j oi oj g _ hi=>by cases hi),fun g hg=>hg.1,fun g hg=>?_,fun g hs hg=>?_,fun g cs hg=>⟨?_,hgl g cs hg⟩⟩
 ·obtain⟨cs,hc⟩:=Option.isSome_iff_exists.1 hg
  obtain⟨ty,m,h⟩:=hgl g cs hc
  exact(Array.getElem?_eq_some_iff.1 h).1
 ·have h1:=hs.2
  have h2:(vW P g).isSome=true:=hg
  rw[h1] at h2; cases h2
 ·show(vW P g).isSome=true
  rw[hg]; rfl
def Sh.args:List Sh->List (DataW H)->List T
 |s::l,d::ds=>s.aG d::Sh.args l ds
 |_,_=>[]
def Sh.Oq(P:Program):List Sh->List TypeId->Bool
 |[],[]=>true
 |s::l,t::ts=>s.fits P t&&Sh.Oq P l ts
 |_,_=>false
theorem ZC{E:Env}{s:Sh}{t:TypeId}{d:DataW H}{v:Value}{W:World}{base:Nat}(hf:s.fits P t=true)(R:Rd E s d v.cells.toList)(hok:Value.okWide P W .any base t v):jm E (s.aG d) v:=by
 cases s with
 |st l =>
  simp only[Sh.fits] at hf
  split at hf
  ·rename_i fs he
   obtain⟨cs,rfl,_⟩:=okWide_struct he hok
   refine .inl ⟨by rw[R.kd]; exact Nat.succ_ne_zero _,cs,rfl,R.rep⟩
  ·cases hf
 |int =>
  simp only[Sh.fits] at hf
  split at hf
  ·rename_i he
   obtain⟨n,rfl⟩:=okWide_int he hok
   exact .inr ⟨R.kd,R.rep⟩
  ·cases hf
 |u64 =>
  simp only[Sh.fits] at hf
  split at hf
  ·rename_i he
   obtain⟨n,rfl⟩:=okWide_int he hok
   exact .inr ⟨R.kd,R.rep⟩
  ·cases hf
 |str =>
  simp only[Sh.fits] at hf
  split at hf
  ·rename_i he
   obtain⟨n,rfl⟩:=okWide_string he hok
   exact .inr ⟨R.kd,R.rep⟩
  ·cases hf
 |bool =>
  simp only[Sh.fits] at hf
  split at hf
  ·rename_i he
   obtain⟨n,rfl⟩:=okWide_bool he hok
   exact .inr ⟨R.kd,R.rep⟩
  ·cases hf
 |sl k s =>
  simp only[Sh.fits] at hf
  split at hf
  ·rename_i e he
   obtain⟨a,len,cap,rfl⟩:=okWide_slice he hok
   exact .inr ⟨R.kd,R.rep⟩
  ·cases hf
theorem XH{E:Env}{base:Nat}{spare:Nat->Bool}{held:Bool}{b2:Nat}(hS:DU E): ∀ {OW:List Sh} {ts:List TypeId} {vs:List Value} {ds:List (DataW H)} {ps:List MemPlace},Sh.Oq P OW ts=true->DataW.TrodAll enc P E.w base spare held ts vs ds ps ->
  (∀ (j:Nat) (t:TypeId) (v:Value),ts[j]? =some t->vs[j]? =some v->Value.okWide P E.w .any b2 t v)->bC E (Sh.args OW ds) vs/\T.dH (Sh.args OW ds)=true/\Sh.UO OW ds:=by
 intro OW
 induction OW with
 |nil =>
  intro ts vs ds ps hf hA hok
  cases ts with
  |nil =>
   match vs,ds,hA with
   |[],[],_=>exact⟨rfl,rfl,rfl⟩
  |cons t ts=>cases hf
 |cons s OW ih =>
  intro ts vs ds ps hf hA hok
  cases ts with
  |nil=>cases hf
  |cons t ts =>
   match vs,ds,hA with
   |v::vs,d::ds,⟨p,q,⟨n,h1⟩,h2,_⟩ =>
    simp only[Sh.Oq,Bool.and_eq_true] at hf
    have R:=Sh.read hS s t hf.1 n _ d p h1
    obtain⟨i1,i2,i3⟩:=ih hf.2 h2 fun j t' v' a b=>hok (j+1) t' v' (by simpa using a) (by simpa using b)
    refine⟨?_,?_,⟨d,ds,rfl,R.wf,i3⟩⟩
    ·simp only[Sh.args,bI]
     exact⟨v,vs,rfl,ZC hf.1 R (hok 0 t v rfl rfl),i1⟩
    ·simp only[Sh.args,T.dH,Bool.and_eq_true]
     exact⟨R.free,i2⟩
theorem UY{W:World}(hgl: ∀ g cs,vW P g=some cs-> ∃ ty m,W.heap[g]? =some (.cells cs ty m)){f:FuncId}{OW:List Sh}{ts:List TypeId}{args:Array Value}{ds:List (DataW H)}{ps:List MemPlace}{b2:Nat}{u:Value}
  (hf:Sh.Oq P OW ts=true) (hA:DataW.TrodAll enc P W 0 (fun _=>true) true ts args.toList ds ps) (hok: ∀ (j:Nat) (t:TypeId) (v:Value),ts[j]? =some t->args[j]? =some v->Value.okWide P W .any b2 t v)
  (S:Sh.UO OW ds->wV P f (Sh.args OW ds) (.lit u)):Calls P f args W fun e W'=>e= .returned u/\Below W.heap.size W W':=by
 obtain⟨hr,hfr,hwf⟩:=XH (E:=XE P W) (ZB hgl) hf hA (fun j t v a b=>hok j t v a (by simpa using b))
 obtain⟨_,_,hcall⟩:=(S hwf).call 0
 have:=hcall (abS P) (fun _=>False) (XE P W) args.toList (XG hgl) rfl hr (dw hfr) (BO _) (fun h=>h)
 refine this.mono ?_
 rintro e w' ⟨v,t,E2,rfl,rfl,⟨rfl,_⟩,hv,_,hext,_⟩
 refine⟨by rw[aK.1 hv],hext.os,hext.tape,hext.output,hext.size,fun g hg=>hext.w g ?_⟩
 cases hq:vW P g with
 |none=>exact .inl ⟨hg,hq⟩
 |some cs=>right; show(vW P g).isSome=true; rw[hq]; rfl
theorem Jj(hl:laidOutB P=true){W W':World}(hb:Below W.heap.size W W'){sp:Nat->Bool}: ∀ {ts:List TypeId} {vs:List Value} {ds:List (DataW H)} {ps:List MemPlace},(∀ t∈ts,P.readableRec t=true/\t<P.types.size) ->
  DataW.TrodAll enc P W 0 (fun _=>true) true ts vs ds ps->(∀ x∈ps,x.block<W.heap.size)->(∀ x∈ps,sp x.block=true)->DataW.TrodAll enc P W' 0 sp true ts vs ds ps:=by
 intro ts
 induction ts with
 |nil =>
  intro vs ds ps _ h _ _
  match vs,ds,h with
  |[],[],h=>exact h
 |cons t ts ih =>
  intro vs ds ps hr h hlt hsp
  match vs,ds,h with
  |v::vs,d::ds,⟨p,q,h1,h2,e⟩ =>
   subst e
   refine⟨p,q,?_,ih (fun t ht=>hr t (by simp[ht])) h2 (fun x hx=>hlt x (by simp[hx])) (fun x hx=>hsp x (by simp[hx])),rfl⟩
   obtain⟨r1,r2⟩:=hr t (by simp)
   exact WideElems.Trod_stays hl r1 r2 h1 (fun x hx=>hb.same (hlt x (by simp[hx]))) (fun x hx=>hsp x (by simp[hx]))
theorem XI{W:World}(hgl: ∀ g cs,vW P g=some cs-> ∃ ty m,W.heap[g]? =some (.cells cs ty m)){f:FuncId}{fn:Func}{s:ChangeSpec}{OW:List Sh}{args:Array Value}{ds gs:List (DataW H)}{before:List MemPlace}{b2:Nat}{tb:TypeId}
  (hl:laidOutB P=true) (hrd: ∀ t∈fn.params.toList,P.readableRec t=true/\t<P.types.size) (hvars:s.vars=[]) (hres:fn.resultTypes= #[tb]) (htb:P.underlying tb=some .bool)
  (hspec:s.fn H ds= {results:=[.lit (.bool true)],args:=ds})
  (hf:Sh.Oq P OW fn.params.toList=true) (hval: ∀ (j:Nat) (t:TypeId) (v:Value),fn.params[j]? =some t->args[j]? =some v->Value.okWide P W .any b2 t v)
  (hW:DataW.Whole enc P fn.params.toList s.vars false W args.toList ds gs before) (S:Sh.UO OW ds->wV P f (Sh.args OW ds) (.bool true)) :
  Calls P f args W fun e W'=> ∃ v,e= .returned v/\s.post enc P fn false true false false W args v W':=by
 have hW':=hW
 obtain⟨p,q,hA,hV,hpq,hfz,hnd⟩:=hW
 have hV0:gs=[]/\q=[]:=by
  rw[hvars] at hV
  cases gs with
  |nil=>exact⟨rfl,hV⟩
  |cons _ _=>exact hV.elim
 obtain⟨rfl,rfl⟩:=hV0
 subst hpq
 refine(UY hgl hf hA (fun j t v a b=>hval j t v (by simpa using a) b) S).mono ?_
 rintro e W' ⟨rfl,hb⟩
 have hlt: ∀ x∈p,x.block<W.heap.size:=fun x hx=>by simpa using hW'.lt x (by simp[hx])
 refine⟨_,rfl,?_⟩
 have hold: ∀ x∈p,(fun b=>decide (b<W.heap.size)) x.block=true:=fun x hx=>by simpa using hlt x hx
 refine⟨ds,[],p++[],[],p,[],hW',?_,?_,?_,World.keptBut_mono (fun x hx=>⟨by simpa using hx,?_⟩) (hb.frame (· ∈p)),fun h=>by cases h⟩
 ·rw[List.append_nil,hspec,hres]
  exact trodAll_mk1 (shut_bool htb true)
 ·rw[List.append_nil,hspec]
  exact Jj hl hb hrd hA hlt hold
 ·rw[List.append_nil,hspec,hvars]; rfl
 ·right; simpa using hx
end
end Go.Ab
