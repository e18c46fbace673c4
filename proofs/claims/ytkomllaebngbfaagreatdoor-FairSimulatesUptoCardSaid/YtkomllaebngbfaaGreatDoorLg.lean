/-
 The typed layer, part 9: contracts of functions; loops.
-/
import Derived.Defers
import Derived.Shelf.SlSortCmp.WholeK
import Derived.Deep.Slices
import Derived.Carry
import Derived.RowKit
import Derived.Stop.LaidErr
import Derived.Deep.DeepHandedRow
import Derived.Deep.DeepWitnessRowRef
import Derived.Lib.LaidTab
import Derived.Test.YtkomllaebngbfaaGreatDoorLf
import Derived.Test.YtkomllaebngbfaaGreatDoorLd
import Derived.Test.YtkomllaebngbfaaGreatDoorLe
namespace Go.Ab
section
variable {P:Program}
structure Body(P:Program)(f:FuncId)(ac:dZ)(rs:List RV)(nt:Nat):Prop where
 ex: ∃ fn c,P.funcs[f]? =some fn/\fn.body=some c/\comp P c=some ac/\lg P fn.results.toList=some rs/\fn.ntmps=nt
 cl:callable P f
 dst:rE nt ac=true
def Zp(m:Fm)(h:Hz):RV->Option V
 | .slot t=>m.get t
 | .cell a k=>match m.get a with
  |some v=>match ldZ h k v with|some (u,.no)=>some u|_=>none
  |none=>none
def Vd(m:Fm)(h:Hz):List RV->Option (List V)
 |[]=>some []
 |r::rs=>match Zp m h r,Vd m h rs with
  |some v,some l=>some (v::l)
  |_,_=>none
def resV(m:Fm)(h:Hz)(rs:List RV):Option V :=
 match Vd m h rs with
 |some [v]=>some v
 |some l=>some (.fV l)
 |none=>none
theorem Zq{m:Fm}{h:Hz}{s:AS}(R:Rp m s.fr)(hh:s.hp=h.aA){r:RV}{v:V}(q:Zp m h r=some v):r.ok s/\r.val s=v.aH:=by
 cases r with
 |slot t=>exact⟨trivial,R.getD q⟩
 |cell a k =>
  simp only[Zp] at q
  split at q
  ·rename_i u hu
   split at q
   ·rename_i w hw
    cases q
    have:=TP (x:=.t a) hh hw trivial (R.ev (x:=.t a) hu)
    exact this
   ·cases q
  ·cases q
theorem QH{m:Fm}{h:Hz}{s:AS}(R:Rp m s.fr)(hh:s.hp=h.aA): ∀ {rs:List RV} {l:List V},Vd m h rs=some l->CP s rs/\rs.map (RV.val s)=V.bg l:=by
 intro rs
 induction rs with
 |nil=>intro l q; cases q; exact⟨trivial,rfl⟩
 |cons r rs ih =>
  intro l q
  simp only[Vd] at q
  split at q
  ·rename_i v l' h1 h2
   cases q
   obtain⟨a1,a2⟩:=Zq R hh h1
   obtain⟨b1,b2⟩:=ih h2
   exact⟨⟨a1,b1⟩,by simp only[List.map_cons,V.bg]; rw[a2,b2]⟩
  ·cases q
theorem Ve{m:Fm}{h:Hz}{s:AS}(R:Rp m s.fr)(hh:s.hp=h.aA){rs:List RV}{v:V}(q:resV m h rs=some v):CP s rs/\resT s rs=v.aH:=by
 unfold resV at q
 split at q
 ·rename_i u e
  cases q
  obtain⟨a,b⟩:=QH R hh e
  refine⟨a,?_⟩
  cases rs with
  |nil=>simp[V.bg] at b
  |cons r rs =>
   cases rs with
   |nil=>simp only[List.map_cons,List.map_nil,V.bg,List.cons.injEq,and_true] at b; exact b
   |cons r' rs=>simp[V.bg] at b
 ·rename_i l hne e
  cases q
  obtain⟨a,b⟩:=QH R hh e
  refine⟨a,?_⟩
  match rs,b,e with
  |[],b,_=>simp only[resT,V.aH]; rw[b]
  |[r],b,e =>
   cases l with
   |nil=>simp[V.bg] at b
   |cons u l =>
    cases l with
    |nil=>exact absurd rfl (hne u)
    |cons w l=>simp[V.bg] at b
  |r::r'::rs,b,_=>simp only[resT,V.aH]; rw[b]
 ·cases q
structure ak(res v:V)(h:Hz):Prop where
 ok:T.sub (fun _=>True) h.aA res.aH v.aH
def afe(rs:List RV)(res:V):Qz
 | .exit _,_,_,_=>False
 |_,m,h,_=>match resV m h rs with
  |some v=>v.seq fun v=>ak res v h
  |none=>False
def Gp:Nat->List V->Fm
 |_,[]=>[]
 |i,v::r=>(i,v)::Gp (i+1) r
theorem TT: ∀ {l:List V} {i j:Nat} {v:V},(Gp i l).get j=some v-> ∃ k,j=i+k/\l[k]? =some v:=by
 intro l
 induction l with
 |nil=>intro i j v q; cases q
 |cons u r ih =>
  intro i j v q
  simp only[Gp,Fm.get] at q
  cases hb:Nat.beq i j with
  |true=>rw[hb] at q; cases q; exact⟨0,(iR hb).symm,rfl⟩
  |false =>
   rw[hb] at q
   obtain⟨k,e1,e2⟩:=ih q
   exact⟨k+1,by omega,by simpa using e2⟩
theorem JW{l:List V}{n:Nat}:Rp (Gp 0 l) (V.bg l++List.replicate n T.un):=by
 intro i v q
 obtain⟨k,e1,e2⟩:=TT q
 have e:i=k:=by omega
 subst e
 have hk:i<l.length:=(List.getElem?_eq_some_iff.1 e2).1
 rw[List.getElem?_append_left (by rw[fA]; exact hk),jk,List.getElem?_map,e2]
 rfl
theorem abu:(no:Hp)=Hz.aA []:=rfl
@[reducible] def aj(P:Program)(f:FuncId)(args:List V)(res:V):Prop:=oH P f (V.bg args) res.aH
theorem aj.of{f:FuncId}{ac:dZ}{rs:List RV}{nt:Nat}{args:List V}{res:V}(B:Body P f ac rs nt)(hn:args.length<=nt)(hf:V.aY args=true)(hr:res.free=true)(H:az P nt 0 ac (afe rs res) (Gp 0 args) [] 0):aj P f args res:=by
 obtain⟨fn,c,h1,h2,h3,h4,h5⟩:=B.ex
 have Hf:res.aH.ids (fun _=>False):=eu (V.sS res hr)
 refine rC.Ig (o:=none) h1 h2 h3 h4 B.cl h5 (V.lH args hf) (fun _ _=>Tm _ Hf) (fun _=>T.aZ (fun _ h=>h.elim) _ Hf) (fun _ h=>by cases h) ?_
 have:=wu (P:=P) (N:=nt) (pn:=0) (s:=⟨V.bg args++List.replicate (nt-(V.bg args).length) T.un,no,0,0⟩) B.dst (by simp[fA]; omega) JW abu rfl H
 refine o9 ?_ this
 rintro e s ⟨m,h,a1,a2,a3,a4,a5⟩
 have key: ∀ {m h},Rp m s.fr->s.hp=Hz.aA h->(match resV m h rs with|some v=>v.seq fun v=>ak res v h|none=>False)->CP s rs/\T.sub (fun _=>True) s.hp res.aH (resT s rs):=by
  intro m h a2 a3 q
  split at q
  ·rename_i v hv
   rw[V.seq_eq] at q
   obtain⟨b1,b2⟩:=Ve a2 a3 hv
   exact⟨b1,by rw[b2,a3]; exact q.ok⟩
  ·exact q.elim
 cases e with
 |exit j=>exact a5.elim
 |normal=>exact key a2 a3 a5
 |ret=>exact key a2 a3 a5
theorem ak.int{a b:Int}{h:Hz}(e:a=b):ak (.int a) (.int b) h:=⟨by subst e; exact fG _⟩
theorem ak.bool{a b:Bool}{h:Hz}(e:a=b):ak (.bool a) (.bool b) h:=⟨by subst e; exact fG _⟩
theorem ak.row{a b:Rw}{k:Nat}{f:Bool}{h:Hz}(e:a=b):ak (.row k false a) (.row k f b) h:=⟨by
 subst e; simp only[V.aH,T.sub]; exact⟨.inl trivial,.inl trivial,fun h=>by cases h⟩⟩
theorem ah.pure{dr:Bool}{f:FuncId}{args:List V}{res:V}{h:Hz}{n:Nat}{K:V->Hz->Prop}{KW:Nat->V->Hz->Prop}(S:aj P f args res)(hr:res.free=true)(hK:K res h):ah P dr none f args h n K KW :=
 ⟨.inl (rC.use S (dP _) ⟨res,h,rfl,rfl,fun _=>⟨rfl,V.sS res hr⟩,hK⟩)⟩
theorem ah.fD{dr:Bool}{b:Bool}{f:FuncId}{args:List V}{res:V}{h:Hz}{n:Nat}{K:V->Hz->Prop}{KW:Nat->V->Hz->Prop}(S:b=true->aj P f args res)(hr:res.free=true)(hK:K res h):ah P dr (some b) f args h n K KW :=
 ⟨.inl (.inl ⟨res,fun e=>rC.use (S e) (dP _) ⟨rfl,rfl⟩,hr,hK⟩)⟩
theorem Ai.pure{f:FuncId}{args:List V}{res:V}{h:Hz}{n:Nat}{K:V->Hz->Prop}(S:aj P f args res)(hr:res.free=true)(hK:K res h):Ai P f args h n K :=
 ⟨res,none,T.aZ (fun _ h=>h.elim) _ (eu (V.sS res hr)),(fun _ h=>by cases h),fun hp _=>(rC.frame S hp n),hK⟩
theorem Ai.row{f:FuncId}{args:List V}{h:Hz}{n ty k:Nat}{r:Rw}{K:V->Hz->Prop}(S:rC P f (V.bg args) (fun n=>.own n) (some ⟨ty,k,r.bg⟩))(hK:K (.own n) ((n,some (.row ty k r []))::h)):Ai P f args h n K :=
 ⟨.own n,some (.row ty k r []),rfl,(fun ob e=>by cases e; simp only[OV.aG,V.bg,List.append_nil]; exact S.ob _ rfl),fun hp _=>by
  have:=rC.frame S hp n
  simpa [OV.aG,V.bg,V.aH] using this,hK⟩
def JX(m:Fm):List Nat->Fm->(Fm->Prop)->Prop
 |[],acc,K=>K acc
 |d::r,acc,K=>match m.get d with
  |some v=>v.seq fun v=>JX m r ((d,v)::acc) K
  |none=>False
theorem BO{m:Fm}: ∀ {l:List Nat} {acc:Fm} {K:Fm->Prop},JX m l acc K->(∀ i v,acc.get i=some v->m.get i=some v)-> ∃ b,K b/\ ∀ i v,Fm.get i b=some v->m.get i=some v:=by
 intro l
 induction l with
 |nil=>intro acc K q ha; exact⟨acc,q,ha⟩
 |cons d r ih =>
  intro acc K q ha
  simp only[JX] at q
  split at q
  ·rename_i v hv
   rw[V.seq_eq] at q
   refine ih q ?_
   intro i u hu
   simp only[Fm.get] at hu
   cases hb:Nat.beq d i with
   |true=>rw[hb] at hu; cases hu; rw[<- iR hb]; exact hv
   |false=>rw[hb] at hu; exact ha i u hu
  ·exact q.elim
def ML(m':Fm):Fm->Prop
 |[]=>True
 |p::r=>(∃ v,m'.get p.1=some v/\p.2.aH=v.aH)/\ML m' r
theorem MN{m':Fm}: ∀ {m0:Fm},ML m' m0-> ∀ {i:Nat} {v:V},m0.get i=some v-> ∃ u,m'.get i=some u/\v.aH=u.aH:=by
 intro m0
 induction m0 with
 |nil=>intro _ i v q; cases q
 |cons p r ih =>
  intro hs i v q
  simp only[Fm.get] at q
  cases hb:Nat.beq p.1 i with
  |true=>rw[hb] at q; cases q; rw[<- iR hb]; exact hs.1
  |false=>rw[hb] at q; exact ih hs.2 q
def Zr(nx N:Nat):Fm->Bool
 |[]=>true
 |p::r=>T.lt nx p.2.aH&&Nat.blt p.1 N&&Zr nx N r
theorem xg{nx N:Nat}: ∀ {m:Fm},Zr nx N m=true-> ∀ {i:Nat} {v:V},m.get i=some v->T.lt nx v.aH=true/\i<N:=by
 intro m
 induction m with
 |nil=>intro _ i v q; cases q
 |cons p r ih =>
  intro hs i v q
  simp only[Zr,Bool.and_eq_true] at hs
  simp only[Fm.get] at q
  cases hb:Nat.beq p.1 i with
  |true=>rw[hb] at q; cases q; exact⟨hs.1.1,by rw[<- iR hb]; simpa using hs.1.2⟩
  |false=>rw[hb] at q; exact ih hs.2 q
def wI(N:Nat)(m:Fm):List T:=(List.range N).map fun i=>match m.get i with|some v=>v.aH|none=>.any
theorem yS{N:Nat}{m:Fm}:(wI N m).length=N:=by simp[wI]
theorem EP{N:Nat}{m:Fm}(hN: ∀ i v,m.get i=some v->i<N):Rp m (wI N m):=by
 intro i v q
 simp only[wI,List.getElem?_map,List.getElem?_range (hN i v q),Option.map_some,q]
theorem Vf{Z:Nat->Prop}{h:Hp}: ∀ {a b:List T},a.length=b.length->(∀ (i:Nat) (t u:T),a[i]? =some t->b[i]? =some u->T.sub Z h t u)->T.dJ Z h a b:=by
 intro a
 induction a with
 |nil=>intro b hl _; cases b with|nil=>trivial|cons _ _=>simp at hl
 |cons t a ih =>
  intro b hl H
  cases b with
  |nil=>simp at hl
  |cons u b=>exact⟨H 0 t u rfl rfl,ih (by simpa using hl) fun i t u h1 h2=>H (i+1) t u (by simpa using h1) (by simpa using h2)⟩
theorem Vg{Z:Nat->Prop}{h:Hp}{t:T}:T.sub Z h .any t:=by cases t<;>simp[T.sub]
theorem Zt{N:Nat}{m0 m:Fm}{fr:List T}{Z:Nat->Prop}{h:Hp}(hl:fr.length=N)(R:Rp m fr)(hs: ∀ i v,m0.get i=some v-> ∃ u,m.get i=some u/\v.aH=u.aH):T.dJ Z h (wI N m0) fr:=by
 refine Vf (by rw[yS,hl]) fun i t u h1 h2=>?_
 simp only[wI,List.getElem?_map] at h1
 have hi:i<N:=by
  rcases Nat.lt_or_ge i N with h|h
  ·exact h
  ·rw[List.getElem?_eq_none (by simpa using h)] at h1; cases h1
 rw[List.getElem?_range hi] at h1
 simp only[Option.map_some,Option.some.injEq] at h1
 split at h1
 ·rename_i v hv
  obtain⟨w,hw,e⟩:=hs i v hv
  have:=R i w hw
  rw[h2] at this
  simp only[Option.some.injEq] at this
  subst h1; rw[this,e]; exact fG _
 ·subst h1; exact Vg
theorem ER{N nx:Nat}{m:Fm}(hg: ∀ i v,m.get i=some v->T.lt nx v.aH=true):T.aI (· <nx) (wI N m):=by
 rw[bZ]
 intro t ht
 simp only[wI,List.mem_map] at ht
 obtain⟨i,_,e⟩:=ht
 split at e
 ·rename_i v hv; subst e; exact Jt (hg i v hv)
 ·subst e; simp[T.ids]
def OV.good(nx:Nat):OV->Bool
 | .row _ k r x=>(match r with| .nil=>true|r=>Nat.beq r.kd k)&&Gx k x&&T.Kv nx (V.bg x)&& !(Nat.beq k dI)
 | .box _ k v=>Gx k [v]&&T.lt nx v.aH&& !(Nat.beq k dI)
 | .map _ _ x=>x.all fun e=>T.lt nx e.2.aH
 | .gen _ k x=>Gx k x&&T.Kv nx (V.bg x)&& !(Nat.beq k dI)
def JY(nx:Nat):Hz->Bool
 |[]=>true
 |(i,some o)::r=>Nat.blt i nx&&o.good nx&&JY nx r
 |(_,none)::r=>JY nx r
theorem Ip{n:Nat}: ∀ {l:List T},T.Kv n l=true->T.aI (· <n) l:=by
 intro l
 induction l with
 |nil=>intro _; trivial
 |cons t l ih =>
  intro q
  simp only[T.Kv,Bool.and_eq_true] at q
  exact⟨Jt q.1,ih q.2⟩
theorem Rw.ids{M:Nat->Prop}(r:Rw):T.aI M r.bg:=by
 rw[bZ]
 intro t ht
 cases r<;>simp only[Rw.bg,List.mem_map,List.not_mem_nil] at ht<;>obtain⟨x,_,rfl⟩:=ht<;>simp[eS,T.ids,T.aI,Tn,Qp,Me,Tq,Ih,fH]
theorem Rw.kds{r:Rw}: ∀ t∈r.bg,t.kd=r.kd:=by
 intro t ht
 cases r<;>simp only[Rw.bg,List.mem_map,List.not_mem_nil] at ht<;>obtain⟨x,_,rfl⟩:=ht<;>rfl
theorem Vh{k:Nat}{l:List V}(q:Gx k l=true): ∀ t∈V.bg l,t.kd=k:=by
 intro t ht
 rw[jk,List.mem_map] at ht
 obtain⟨v,hv,rfl⟩:=ht
 exact V.Oo (Io q v hv)
theorem Ov{k:Nat}{l:List T}(hk:k≠dI)(h: ∀ t∈l,t.kd=k):Xr k l=true:=by
 unfold Xr
 have:(k==1000000007)=false:=by simpa using hk
 rw[this]; simp only[cond_false,List.all_eq_true,beq_iff_eq]; exact h
theorem OV.ES{nx:Nat}{o:OV}(q:o.good nx=true):T.aI (· <nx) o.aG.l/\Xr o.aG.k o.aG.l=true:=by
 cases o with
 |row ty k r x =>
  simp only[OV.good,Bool.and_eq_true,Bool.not_eq_true'] at q
  obtain⟨⟨⟨q1,q2⟩,q3⟩,q4⟩:=q
  simp only[OV.aG]
  refine⟨eP.2 ⟨r.ids,Ip q3⟩,Ov (Nat.ne_of_beq_eq_false q4) fun t ht=>?_⟩
  rcases List.mem_append.1 ht with ht|ht
  ·split at q1
   ·cases ht
   ·rw[<- iR q1]; exact Rw.kds t ht
  ·exact Vh q2 t ht
 |box ty k v =>
  simp only[OV.good,Bool.and_eq_true,Bool.not_eq_true'] at q
  obtain⟨⟨q1,q2⟩,q3⟩:=q
  simp only[OV.aG]
  refine⟨⟨Jt q2,trivial⟩,Ov (Nat.ne_of_beq_eq_false q3) fun t ht=>?_⟩
  rw[List.mem_singleton] at ht; subst ht; exact Ou q1
 |gen ty k x =>
  simp only[OV.good,Bool.and_eq_true,Bool.not_eq_true'] at q
  obtain⟨⟨q2,q3⟩,q4⟩:=q
  simp only[OV.aG]
  exact⟨Ip q3,Ov (Nat.ne_of_beq_eq_false q4) (Vh q2)⟩
 |map ty es x =>
  simp only[OV.good,List.all_eq_true] at q
  simp only[OV.aG]
  refine⟨?_,?_⟩
  ·rw[bZ]
   intro t ht
   rcases List.mem_append.1 ht with ht|ht
   ·rw[List.mem_map] at ht
    obtain⟨e,_,rfl⟩:=ht
    simp[Oj,T.ids,T.aI]
   ·rw[List.mem_map] at ht
    obtain⟨e,he,rfl⟩:=ht
    simp only[abe,T.ids,T.aI]; exact⟨trivial,Jt (q e he),trivial⟩
  ·unfold Xr
   simp[dI,gB,Oj,abe]
theorem JZ{nx:Nat}: ∀ {h:Hz},JY nx h=true->HpG nx h.aA:=by
 intro h
 induction h with
 |nil=>intro _ i ob e; simp[Hz.aA,Hz.get] at e
 |cons p r ih =>
  obtain⟨j,o⟩:=p
  intro q
  rw[bP]
  cases o with
  |none=>exact aaX (ih q)
  |some o =>
   simp only[JY,Bool.and_eq_true] at q
   obtain⟨g1,g2⟩:=OV.ES q.1.2
   exact aaW (ih q.2) (by simpa using q.1.1) g1 g2
def Bc(nx:Nat):Hz->Hz
 |[]=>[]
 |(i,o)::r=>bif Nat.blt i nx then(i,o)::Bc nx r else Bc nx r
theorem J3{nx i:Nat}(hi:i<nx): ∀ {h:Hz},(Bc nx h).get i=h.get i:=by
 intro h
 induction h with
 |nil=>rfl
 |cons p r ih =>
  obtain⟨j,o⟩:=p
  simp only[Bc]
  cases hb:Nat.blt j nx with
  |true=>simp only[cond_true,Hz.get]; cases Nat.beq j i<;>simp[ih]
  |false =>
   simp only[cond_false,Hz.get]
   have hne:Nat.beq j i=false:=by
    cases e:Nat.beq j i with
    |false=>rfl
    |true =>
     have:=iR e; subst this
     have:Nat.blt j nx=true:=by simpa using hi
     rw[this] at hb; cases hb
   rw[hne]; exact ih
structure aff{ι:Type}(inv:ι->Prop)(μ:ι->Nat)(vars:ι->Fm)(base:Fm)(hs:Hz)(nx:Nat)(i:ι)(m:Fm)(h:Hz):Prop where
 ok: ∃ j,inv j/\μ j<μ i/\ML m (vars j)/\ML m base/\Bc nx h=hs
theorem get_append{a b:Fm}{i:Nat}{v:V}(q:Fm.get i (a++b)=some v):a.get i=some v\/Fm.get i b=some v:=by
 induction a with
 |nil=>exact .inr q
 |cons p r ih =>
  simp only[List.cons_append,Fm.get] at q ⊢
  cases hb:Nat.beq p.1 i with
  |true=>rw[hb] at q; exact .inl q
  |false=>rw[hb] at q; exact ih q
theorem aK.same{N pn nx:Nat}{b:dZ}{Q:Qz}{m:Fm}{h:Hz}{ι:Type}(live:List Nat)(vars:ι->Fm)(inv:ι->Prop)(μ:ι->Nat)(i0:ι)(hd:rE N b=true)(hp:pn<=nx)(hg:JY nx h=true)(hv: ∀ i,Zr nx N (vars i)=true)(h0:inv i0)(he:ML m (vars i0))
  (H:JX m live [] fun base=>Zr nx N base=true/\ ∀ i,inv i->az P N pn b (fun e m' h' n'=>match e with
   | .normal=>aff inv μ vars base (Bc nx h) nx i m' h'
   |e=>Q e m' h' n') (vars i++base) h nx):aK P N pn b Q m h nx:=by
 obtain⟨base,⟨hb,H⟩,hbm⟩:=BO H (fun i v q=>by cases q)
 refine⟨fun fr hl R=>?_⟩
 have hall: ∀ i j v,Fm.get j (vars i++base)=some v->T.lt nx v.aH=true/\j<N:=fun i j v q=>by
  rcases get_append q with q|q
  ·exact xg (hv i) q
  ·exact xg hb q
 have wk: ∀ (i:ι) (m':Fm) (h':Hz) (s':AS),s'.fr.length=N->Rp m' s'.fr->s'.hp=h'.aA->s'.pin=pn->ML m' (vars i)->(∀ j v,Fm.get j base=some v-> ∃ u,m'.get j=some u/\v.aH=u.aH)->Bc nx h'=Bc nx h ->
   Wk ⟨wI N (vars i++base),h.aA,nx,pn⟩ s':=by
  intro i m' h' s' a1 a2 a3 a4 a5 a6 a7
  obtain⟨fr',hp',nx',pn'⟩:=s'
  simp only at a1 a2 a3 a4
  subst a3; subst a4
  refine Wk.same (Zt a1 a2 fun j v q=>?_) (ER fun j v q=>(hall i j v q).1) (JZ hg) (fun j hj=>?_) hp
  ·rcases get_append q with q|q
   ·exact MN a5 q
   ·exact a6 j v q
  ·simp only[Hz.aA]; rw[<- J3 hj,a7,J3 hj]
 refine yu.rule (fun i=>⟨wI N (vars i++base),h.aA,nx,pn⟩) inv μ i0 h0 (wk i0 m h _ hl R rfl rfl he (fun j v q=>⟨v,hbm j v q,rfl⟩) rfl) ?_
 intro i hi
 have:=wu (P:=P) (N:=N) (pn:=pn) (s:=⟨wI N (vars i++base),h.aA,nx,pn⟩) hd yS (EP fun j v q=>(hall i j v q).2) rfl rfl (H i hi)
 refine o9 ?_ this
 rintro e s' ⟨m',h',a1,a2,a3,a4,a5⟩
 cases e with
 |normal =>
  obtain⟨j,b1,b2,b3,b4,b5⟩:=a5.ok
  exact⟨j,⟨b1,b2⟩,wk j m' h' s' a1 a2 a3 a4 b3 (fun j v q=>MN b4 q) b5⟩
 |exit j=>exact⟨m',h',a1,a2,a3,a4,a5⟩
 |ret=>exact⟨m',h',a1,a2,a3,a4,a5⟩
end
def sq(l:List aC)(c:dZ):dZ:=.seq (.reg false l) c
def qm(d x:Nat):aC:=o d (.mv (.t x))
def aU(d:Nat)(n:Int):aC:=o d (.mv (.c (.int n)))
def qv(d:Nat)(b:Bool):aC:=o d (.mv (.c (.bool b)))
def qb(op:BinOp)(d x y:Nat):aC:=o d (.bin op (.t x) (.t y))
def qk(op:BinOp)(d x:Nat)(n:Int):aC:=o d (.bin op (.t x) (.c (.int n)))
def ql(d k x:Nat):aC:=o d (.ld k (.t x))
def qf(d a k x:Nat):aC:=o d (.fa a k (.t x))
def qi(d k x y:Nat):aC:=o d (.ia k (.t x) (.t y))
def qn(d x:Nat):aC:=o d (.len false (.t x))
def qo(d a b:Nat):aC:=o d (.pick (.t a) (.c (.bool true)) (.t b))
def qa(d a b:Nat):aC:=o d (.pick (.t a) (.t b) (.c (.bool false)))
def qx(d x:Nat):aC:=o d (.not (.t x))
def qe(d x i:Nat):aC:=o d (.ex (.t x) i)
def qB(d:Nat)(ty:TypeId)(k x:Nat):aC:=o d (.box ty k (.t x))
def qs(k x y:Nat):aC:=ov (.st k (.t x) (.t y))
def qC(d:Nat)(f:FuncId)(l:List Nat):aC:=o d (.call f (l.map .t))
def aC.w(q:aC)(g:Nat):aC:=⟨q.d,q.op,some (g,true),q.fl,q.ne,q.ad,q.ar⟩
def aC.n(q:aC)(g:Nat):aC:=⟨q.d,q.op,some (g,false),q.fl,q.ne,q.ad,q.ar⟩
theorem Body.of{P:Program}{f:FuncId}{fn:Func}{ac:dZ}{rs:List RV}{nt:Nat}(h1:P.funcs[f]? =some fn)(h2:(fn.body.isSome,comp P (fn.body.getD .skip),lg P fn.results.toList,fn.ntmps,rE nt ac)=(true,some ac,some rs,nt,true))(h3:callable P f):Body P f ac rs nt:=by
 simp only[Prod.mk.injEq] at h2
 obtain⟨a,b,c,d,e⟩:=h2
 obtain⟨cd,hc⟩:=Option.isSome_iff_exists.1 a
 rw[hc] at b
 exact⟨⟨fn,cd,h1,hc,b,c,d⟩,h3,e⟩
section
variable {P:Program}
def fM(a b:List T):Prop:= ∀ (Z:Nat->Prop) (h:Hp),T.dJ Z h a b
theorem fM.refl(a:List T):fM a a:=fun _ _=>dP a
def OV.Rt:OV->Bool
 | .row _ _ _ x=>V.aY x
 | .box _ _ v=>v.free
 | .map _ _ x=>V.aY (x.map (·.2))
 | .gen _ _ x=>V.aY x
theorem OV.Iq{o:OV}(q:o.Rt=true):T.aI (fun _=>False) o.aG.l:=by
 cases o with
 |row ty k r x=>exact eP.2 ⟨r.ids,dw (V.lH x q)⟩
 |box ty k v=>exact⟨eu (V.sS v q),trivial⟩
 |gen ty k x=>exact dw (V.lH x q)
 |map ty es x =>
  simp only[OV.Rt] at q
  refine eP.2 ⟨bZ.2 fun t ht=>?_,bZ.2 fun t ht=>?_⟩
  ·obtain⟨e,_,rfl⟩:=List.mem_map.1 ht
   simp[Oj,T.ids,T.aI]
  ·obtain⟨e,he,rfl⟩:=List.mem_map.1 ht
   simp only[abe,T.ids,T.aI]
   refine⟨trivial,?_,trivial⟩
   have:=dw (V.lH _ q)
   rw[bZ] at this
   exact this _ (by rw[jk,List.map_map]; exact List.mem_map.2 ⟨e,he,rfl⟩)
theorem OV.DZ{o:OV}(q:o.Rt=true)(ρ:Nat->Nat):T.dQ ρ o.aG.l=o.aG.l:=wW _ (OV.Iq q)
def qL:List (Nat×OV)->List Nat->Nat->Nat
 |(c,_)::r,n::s,i=>bif Nat.beq i c then n else qL r s i
 |_,_,i=>i
def DY(n:Nat):List Nat->Bool
 |[]=>true
 |m::r=> !(Nat.beq n m)&&DY n r
def WU(nx pn:Nat)(h:Hz):List (Nat×OV)->List Nat->Prop
 |[],[]=>True
 |(c,o)::r,n::s=>(Nat.blt c nx=true/\(Nat.blt c pn=true->n=c)/\DY n s=true/\o.good nx=true/\o.Rt=true /\
   ∃ o',h.get n=some o'/\o'.aG.ty=o.aG.ty/\o'.aG.k=o.aG.k/\fM o.aG.l o'.aG.l)/\WU nx pn h r s
 |_,_=>False
def Bf:List (Nat×OV)->List Nat->List (Nat×Nat×Ob)
 |(c,o)::r,n::s=>(c,n,o.aG)::Bf r s
 |_,_=>[]
def OU(l:List (Nat×OV)):Hz:=l.map fun p=>(p.1,some p.2)
theorem J4: ∀ {l:List (Nat×OV)} {s:List Nat} {i:Nat},Du (Bf l s) i=qL l s i:=by
 intro l
 induction l with
 |nil=>intro s i; cases s<;>rfl
 |cons p r ih =>
  obtain⟨c,o⟩:=p
  intro s i
  cases s with
  |nil=>rfl
  |cons n s =>
   simp only[Bf,Du,qL]
   rw[ih]
   cases hb:Nat.beq i c with
   |true=>rw[if_pos (iR hb)]; rfl
   |false=>rw[if_neg (Nat.ne_of_beq_eq_false hb)]; rfl
theorem abv{nx pn:Nat}{h:Hz}: ∀ {l:List (Nat×OV)} {s:List Nat},WU nx pn h l s->hpL (Bf l s)=(OU l).aA:=by
 intro l
 induction l with
 |nil=>intro s q; cases s with
  |nil=>rfl
  |cons _ _=>exact q.elim
 |cons p r ih =>
  obtain⟨c,o⟩:=p
  intro s q
  cases s with
  |nil=>exact q.elim
  |cons n s =>
   simp only[Bf,hpL]
   have e:OU ((c,o)::r)=(c,some o)::OU r:=rfl
   rw[e,bP,ih q.2]; rfl
theorem QI{n:Nat}: ∀ {l:List (Nat×OV)} {s:List Nat},DY n s=true-> ¬ NY (Bf l s) n:=by
 intro l
 induction l with
 |nil=>intro s _ q; cases s<;>exact q
 |cons p r ih =>
  obtain⟨c,o⟩:=p
  intro s hs q
  cases s with
  |nil=>exact q
  |cons m s =>
   simp only[DY,Bool.and_eq_true] at hs
   simp only[Bf,NY] at q
   rcases q with q|q
   ·rw[q,Nat.beq_refl] at hs; cases hs.1
   ·exact ih hs.2 q
theorem abw{nx pn:Nat}{h:Hz}{Z:Nat->Prop}{ρ:Nat->Nat}: ∀ {l:List (Nat×OV)} {s:List Nat},WU nx pn h l s->okL Z ρ h.aA nx pn (Bf l s):=by
 intro l
 induction l with
 |nil=>intro s _; cases s<;>trivial
 |cons p r ih =>
  obtain⟨c,o⟩:=p
  intro s q
  cases s with
  |nil=>exact q.elim
  |cons n s =>
   obtain⟨⟨q1,q2,q3,q4,q5,o',q6,q7,q8,q9⟩,q⟩:=q
   obtain⟨g1,g2⟩:=OV.ES q4
   refine⟨⟨Nat.blt_eq.mp q1,fun hc=>q2 (Nat.blt_eq.mpr hc),QI q3,g1,g2,o'.aG.l,?_,?_⟩,ih q⟩
   ·have:=aX q6
    show h.aA n=some ⟨o.aG.ty,o.aG.k,o'.aG.l⟩
    rw[this,<- q7,<- q8]
   ·show T.dJ Z h.aA (T.dQ ρ o.aG.l) o'.aG.l
    rw[OV.DZ q5]; exact q9 _ _
def qF(ρ:Nat->Nat)(m':Fm):Fm->Prop
 |[]=>True
 |(i,v)::r=>(∃ u,m'.get i=some u/\fM [v.aH.ren ρ] [u.aH])/\qF ρ m' r
theorem uU{ρ:Nat->Nat}{m':Fm}: ∀ {m0:Fm},qF ρ m' m0-> ∀ {i:Nat} {v:V},m0.get i=some v-> ∃ u,m'.get i=some u/\fM [v.aH.ren ρ] [u.aH]:=by
 intro m0
 induction m0 with
 |nil=>intro _ i v q; cases q
 |cons p r ih =>
  obtain⟨j,w⟩:=p
  intro hs i v q
  simp only[Fm.get] at q
  cases hb:Nat.beq j i with
  |true=>rw[hb] at q; cases q; rw[<- iR hb]; exact hs.1
  |false=>rw[hb] at q; exact ih hs.2 q
theorem fM.eq{a b:T}(h:a=b):fM [a] [b]:=by subst h; exact .refl _
theorem Gq{N:Nat}{m0 m:Fm}{fr:List T}{Z:Nat->Prop}{h:Hp}{ρ:Nat->Nat}(hl:fr.length=N)(R:Rp m fr)(hs: ∀ i v,m0.get i=some v-> ∃ u,m.get i=some u/\fM [v.aH.ren ρ] [u.aH]):T.dJ Z h (T.dQ ρ (wI N m0)) fr:=by
 refine Vf (by rw[tC,yS,hl]) fun i t u h1 h2=>?_
 have e: ∀ l:List T,T.dQ ρ l=l.map (T.ren ρ):=by
  intro l
  induction l with
  |nil=>rfl
  |cons a l ih=>simp only[T.dQ,List.map_cons,ih]
 rw[e] at h1
 simp only[wI,List.getElem?_map] at h1
 have hi:i<N:=by
  rcases Nat.lt_or_ge i N with h|h
  ·exact h
  ·rw[List.getElem?_eq_none (by simpa using h)] at h1; cases h1
 rw[List.getElem?_range hi] at h1
 simp only[Option.map_some,Option.some.injEq] at h1
 split at h1
 ·rename_i v hv
  obtain⟨w,hw,e⟩:=hs i v hv
  have:=R i w hw
  rw[h2] at this
  simp only[Option.some.injEq] at this
  subst h1; rw[this]; exact(e Z h).1
 ·subst h1; exact Vg
structure afg{ι:Type}(inv:ι->Prop)(μ:ι->Nat)(vars:ι->Fm)(objs:ι->List (Nat×OV))(base:Fm)(nx pn:Nat)(i:ι)(m:Fm)(h:Hz):Prop where
 ok: ∃ j nw,inv j/\μ j<μ i/\qF (qL (objs j) nw) m (vars j)/\qF (qL (objs j) nw) m base/\WU nx pn h (objs j) nw
theorem aK.objs{N pn nx0:Nat}(nx:Nat){b:dZ}{Q:Qz}{m:Fm}{h:Hz}{ι:Type}(live:List Nat)(vars:ι->Fm)(objs:ι->List (Nat×OV))(inv:ι->Prop)(μ:ι->Nat)(i0:ι)(Rz:List Nat)(hd:rE N b=true)(hp:pn<=nx)(hv: ∀ i,Zr nx N (vars i)=true)(h0:inv i0)
  (he:qF (qL (objs i0) Rz) m (vars i0)) (ho:WU nx pn h (objs i0) Rz)
  (H:JX m live [] fun base=>qF (qL (objs i0) Rz) m base/\Zr nx N base=true/\ ∀ i,inv i->az P N pn b (fun e m' h' n'=>match e with
   | .normal=>afg inv μ vars objs base nx pn i m' h'
   |e=>Q e m' h' n') (vars i++base) (OU (objs i)) nx):aK P N pn b Q m h nx0:=by
 obtain⟨base,⟨hbs,hb,H⟩,hbm⟩:=BO H (fun i v q=>by cases q)
 refine⟨fun fr hl R=>?_⟩
 have hall: ∀ i j v,Fm.get j (vars i++base)=some v->T.lt nx v.aH=true/\j<N:=fun i j v q=>by
  rcases get_append q with q|q
  ·exact xg (hv i) q
  ·exact xg hb q
 have wk: ∀ (i:ι) (nw:List Nat) (m':Fm) (h':Hz) (s':AS),s'.fr.length=N->Rp m' s'.fr->s'.hp=h'.aA->s'.pin=pn->qF (qL (objs i) nw) m' (vars i)->qF (qL (objs i) nw) m' base->WU nx pn h' (objs i) nw ->
   Wk ⟨wI N (vars i++base),(OU (objs i)).aA,nx,pn⟩ s':=by
  intro i nw m' h' s' a1 a2 a3 a4 a5 a6 a7
  obtain⟨fr',hp',nx',pn'⟩:=s'
  simp only at a1 a2 a3 a4
  subst a3; subst a4
  rw[<- abv a7]
  refine Wk.objs (Bf (objs i) nw) (Gq a1 a2 fun j v q=>?_) (ER fun j v q=>(hall i j v q).1) hp (abw a7)
  have e:Du (Bf (objs i) nw)=qL (objs i) nw:=funext fun _=>J4
  rw[e]
  rcases get_append q with q|q
  ·exact uU a5 q
  ·exact uU a6 q
 refine yu.rule (fun i=>⟨wI N (vars i++base),(OU (objs i)).aA,nx,pn⟩) inv μ i0 h0 (wk i0 Rz m h _ hl R rfl rfl he hbs ho) ?_
 intro i hi
 have:=wu (P:=P) (N:=N) (pn:=pn) (s:=⟨wI N (vars i++base),(OU (objs i)).aA,nx,pn⟩) hd yS (EP fun j v q=>(hall i j v q).2) rfl rfl (H i hi)
 refine o9 ?_ this
 rintro e s' ⟨m',h',a1,a2,a3,a4,a5⟩
 cases e with
 |normal =>
  obtain⟨j,nw,b1,b2,b3,b4,b5⟩:=a5.ok
  exact⟨j,⟨b1,b2⟩,wk j nw m' h' s' a1 a2 a3 a4 b3 b4 b5⟩
 |exit j=>exact⟨m',h',a1,a2,a3,a4,a5⟩
 |ret=>exact⟨m',h',a1,a2,a3,a4,a5⟩
theorem aK.nil{N pn nx:Nat}{b:dZ}{Q:Qz}{m:Fm}{h:Hz}(d ty k:Nat){k':Nat}{r:Rw}(hd:m.get d=some (.row k' true r))(hr:r.bg=[])(hk:sV k=true)(hN:Nat.blt d N=true)
  (H:aK P N pn b Q ((d,.own nx)::m) ((nx,some (.row ty k .nil []))::h) (nx+1)):aK P N pn b Q m h nx:=by
 refine⟨fun fr hl R=>?_⟩
 have hdl:d<fr.length:=by rw[hl]; exact Nat.blt_eq.mp hN
 have hget:fr.getD d .any= .sl k' true []:=by
  rw[R.getD hd]; simp only[V.aH,hr]
 have H':=H.ok (fr.set d (.own nx)) (by simpa using hl) (fun i v q=>by
  simp only[Fm.get] at q
  cases hb:Nat.beq d i with
  |true=>rw[hb] at q; cases q; rw[<- iR hb]; simp[hdl,V.aH]
  |false =>
   rw[hb] at q
   rw[List.getElem?_set_ne (Nat.ne_of_beq_eq_false hb)]; exact R i v q)
 have e:Hz.aA ((nx,some (.row ty k .nil []))::h)=upd h.aA nx (some ⟨ty,k,[]⟩):=by rw[bP]; rfl
 rw[e] at H'
 obtain⟨I,μ,⟨s0,w0,i0⟩,round⟩:=H'
 exact⟨I,μ,⟨s0,Wk.aaU d ty k hget hk w0,i0⟩,round⟩
structure uo(h0:Hz)(n:Nat)(post:T->Hp->Prop)(v:V)(h:Hz):Prop where
 ok: ∃ (Z:Nat->Prop) (ρ:Nat->Nat) (t:T) (h':Hp),post t h'/\T.sub Z h.aA (t.ren ρ) v.aH/\(∀ i ob,h' i=some ob-> ∃ ob',h.aA (ρ i)=some ob'/\ ¬ Z (ρ i)/\LK Z h.aA ρ ob ob') /\
  (∀ i j,(h' i).isSome=true->(h' j).isSome=true->ρ i=ρ j->i=j)/\t.ids (fun i=>(h0.aA i).isSome=true\/i=n)/\mG (fun i=>(h0.aA i).isSome=true\/i=n) h' /\
  ∀ i,(h0.aA i).isSome=true->(h' i).isSome=true->ρ i=i
def afh(h0:Hz)(n:Nat)(post:T->Hp->Prop)(rs:List RV):Qz
 | .exit _,_,_,_=>False
 |_,m,h,_=>match resV m h rs with
  |some v=>v.seq fun v=>uo h0 n post v h
  |none=>False
theorem xW.of{f:FuncId}{ac:dZ}{rs:List RV}{nt nx n:Nat}{args:List V}{h0:Hz}{post:T->Hp->Prop}(B:Body P f ac rs nt)(hn:args.length<=nt)(hin: ∃ t h',post t h')(ha:T.Kv nx (V.bg args)=true)(hg:JY nx h0=true)
  (H:az P nt nx ac (afh h0 n post rs) (Gp 0 args) h0 nx):aQ P f (V.bg args) h0.aA n post:=by
 obtain⟨fn,c,h1,h2,h3,h4,h5⟩:=B.ex
 have hG:=JZ hg
 refine aQ.Ig (nx:=nx) h1 h2 h3 h4 B.cl h5 hin (Ip ha) (fun i ob hi=>⟨(hG i ob hi).1,(hG i ob hi).2.1⟩) ?_
 have:=wu (P:=P) (N:=nt) (pn:=nx) (s:=⟨V.bg args++List.replicate (nt-(V.bg args).length) T.un,h0.aA,nx,nx⟩) B.dst (by simp[fA]; omega) JW rfl rfl H
 refine o9 ?_ this
 rintro e s ⟨m,h,a1,a2,a3,a4,a5⟩
 have key: ∀ {m h},Rp m s.fr->s.hp=Hz.aA h->(match resV m h rs with|some v=>v.seq fun v=>uo h0 n post v h|none=>False)-> ∃ s1,DT s1 s/\Ret h0.aA n post rs s1:=by
  intro m h a2 a3 q
  split at q
  ·rename_i v hv
   rw[V.seq_eq] at q
   obtain⟨b1,b2⟩:=Ve a2 a3 hv
   obtain⟨Z,ρ,t,h',c1,c2,c3,c4,c5,c6,c7⟩:=q.ok
   exact⟨s,.refl _,b1,Z,ρ,t,h',c1,by rw[b2,a3]; exact c2,by rw[a3]; exact c3,c4,c5,c6,c7⟩
  ·exact q.elim
 cases e with
 |exit j=>exact a5.elim
 |normal=>exact key a2 a3 a5
 |ret=>exact key a2 a3 a5
theorem uo.one{h0 h:Hz}{n c j:Nat}{post:T->Hp->Prop}{v:V}{o:OV}{t:T}(hj:h.get j=some o)(hg:o.good (j+1)=true)(hf:o.Rt=true)(hc:(h0.get c).isSome=true->j=c)(hc':(h0.get c).isSome=true\/c=n)
  (ht:t.ids (fun i=>i=c)) (hv:fM [t.ren fun _=>j] [v.aH]) (hp:post t (Hz.aA [(c,some o)])):uo h0 n post v h:=by
 have hgood:=(OV.ES hg).2
 have hM: ∀ i,i=c->(h0.aA i).isSome=true\/i=n:=by
  rintro i rfl
  rcases hc' with h|h
  ·left; simpa [Hz.aA] using h
  ·exact .inr h
 have hx: ∀ i ob,Hz.aA [(c,some o)] i=some ob->i=c/\ob=o.aG:=fun i ob hi=>by
  simp only[Hz.aA,Hz.get] at hi
  cases hb:Nat.beq c i with
  |true=>rw[hb] at hi; simp only[cond_true,Option.map_some,Option.some.injEq] at hi; exact⟨(iR hb).symm,hi.symm⟩
  |false=>rw[hb] at hi; simp at hi
 refine⟨fun i=>i≠j,fun _=>j,t,Hz.aA [(c,some o)],hp,(hv _ _).1,fun i ob hi=>?_,fun i i' hi hi' _=>?_,T.aZ hM _ ht,fun i ob hi=>?_,fun i hi hi'=>?_⟩
 ·obtain⟨rfl,rfl⟩:=hx i ob hi
  refine⟨o.aG,aX hj,by simp,rfl,rfl,?_,JE hgood⟩
  rw[OV.DZ hf]; exact dP _
 ·obtain⟨oi,hi⟩:=Option.isSome_iff_exists.1 hi
  obtain⟨oj,hi'⟩:=Option.isSome_iff_exists.1 hi'
  rw[(hx _ _ hi).1,(hx _ _ hi').1]
 ·obtain⟨rfl,rfl⟩:=hx i ob hi
  exact⟨hM _ rfl,T.ay (fun _ h=>h.elim) _ (OV.Iq hf)⟩
 ·obtain⟨oi,hi'⟩:=Option.isSome_iff_exists.1 hi'
  obtain⟨rfl,_⟩:=hx _ _ hi'
  exact hc (by simpa [Hz.aA] using hi)
theorem ah.heap{f:FuncId}{args:List V}{h:Hz}{n:Nat}{K:V->Hz->Prop}{KW:Nat->V->Hz->Prop}{post:T->Hp->Prop}(S:aQ P f (V.bg args) h.aA n post)(hK: ∀ t hp,post t hp-> ∃ v h',t=v.aH/\hp=Hz.aA h'/\K v h'):ah P false none f args h n K KW :=
 ⟨.inl (S.mono fun t hp q=>by
  obtain⟨v,h',h1,h2,h3⟩:=hK t hp q
  exact⟨v,h',h1,h2,(fun e=>by cases e),h3⟩)⟩
end
section
variable {P:Program}
def LoopN(body:(oI->AS->Prop)->AS->Prop)(Q:oI->AS->Prop):Nat->AS->Prop
 |0,_=>False
 |k+1,s=>body (fun e s'=>match e with| .normal=>LoopN body Q k s'|e=>Q e s') s
open Classical in
theorem yu.ofN{b:dZ}{Q:oI->AS->Prop}{k:Nat}{s:AS}(h:LoopN (aw P b) Q k s):yu (aw P b) Q s:=by
 let I:AS->Nat->Prop:=fun s n=>LoopN (aw P b) Q n s
 let μ:AS->Nat:=fun s=>if hh: ∃ n,I s n then Classical.choose (Gh _ (Classical.choose_spec hh)) else 0
 have hμ: ∀ s,(∃ n,I s n)->I s (μ s)/\ ∀ k,I s k->μ s<=k:=by
  intro s hh
  have e:μ s=Classical.choose (Gh _ (Classical.choose_spec hh)):=dif_pos hh
  rw[e]
  exact Classical.choose_spec (Gh _ (Classical.choose_spec hh))
 refine⟨fun s=> ∃ n,I s n,μ,⟨s,⟨s,.refl _,.inl rfl⟩,k,h⟩,fun s hI=>?_⟩
 have h2:=(hμ s hI).1
 generalize hm:μ s=m at h2
 cases m with
 |zero=>exact h2.elim
 |succ m =>
  have h3:aw P b (fun e s'=>match e with| .normal=>LoopN (aw P b) Q m s'|e=>Q e s') s:=h2
  refine o9 ?_ h3
  intro e s' q
  cases e with
  |normal=>exact⟨s',⟨s',.refl _,.inl rfl⟩,⟨m,q⟩,by have:=(hμ s' ⟨m,q⟩).2 m q; omega⟩
  |exit j=>exact q
  |ret=>exact q
def azN(P:Program)(N pn:Nat)(b:dZ)(Q:Qz):Nat->Fm->Hz->Nat->Prop
 |0,_,_,_=>False
 |k+1,m,h,nx=>az P N pn b (fun e m' h' nx'=>match e with| .normal=>azN P N pn b Q k m' h' nx'|e=>Q e m' h' nx') m h nx
theorem aK.times{N pn nx:Nat}{b:dZ}{Q:Qz}{m:Fm}{h:Hz}(k:Nat)(hd:rE N b=true)(H:azN P N pn b Q k m h nx):aK P N pn b Q m h nx:=by
 refine⟨fun fr hl R=>yu.ofN (k:=k) ?_⟩
 have key: ∀ (k:Nat) {m:Fm} {h:Hz} {nx:Nat} {s:AS},s.fr.length=N->Rp m s.fr->s.hp=h.aA->s.pin=pn->s.nx=nx->azN P N pn b Q k m h nx->LoopN (aw P b) (Lift N pn Q) k s:=by
  intro k
  induction k with
  |zero=>intro m h nx s _ _ _ _ _ H; exact H.elim
  |succ k ih =>
   intro m h nx s a1 a2 a3 a4 a5 H
   subst a5
   have:=wu (P:=P) (N:=N) (pn:=pn) (s:=s) hd a1 a2 a3 a4 H
   show aw P b _ s
   refine o9 ?_ this
   rintro e s' ⟨m',h',b1,b2,b3,b4,b5⟩
   cases e with
   |normal=>exact ih b1 b2 b3 b4 rfl b5
   |exit j=>exact⟨m',h',b1,b2,b3,b4,b5⟩
   |ret=>exact⟨m',h',b1,b2,b3,b4,b5⟩
 exact key k hl R rfl rfl rfl H
end
section
variable {P:Program}
theorem MO{Z:Nat->Prop}{h:Hp}{t u:T}: ∀ {fr:List T} {j:Nat},fr[j]? =some u->T.sub Z h t u->T.dJ Z h (fr.set j t) fr
 |[],_,e,_=>by simp at e
 |a::r,0,e,q=>by
  simp only[List.getElem?_cons_zero,Option.some.injEq] at e; subst e
  exact⟨q,dP _⟩
 |a::r,j+1,e,q=>by
  simp only[List.getElem?_cons_succ] at e
  exact⟨fG _,MO e q⟩
theorem aK.fzV{N pn nx:Nat}{b:dZ}{Q:Qz}{m:Fm}{h:Hz}(d i:Nat)(u v:V)(hd:m.get d=some v)(hN:Nat.blt d N=true)(hs:T.sub (fun j=>j=i) h.aA u.aH v.aH)
  (H:aK P N pn b Q ((d,u)::m) ((i,none)::h) nx):aK P N pn b Q m h nx:=by
 refine⟨fun fr hl R=>?_⟩
 have hdl:d<fr.length:=by rw[hl]; exact Nat.blt_eq.mp hN
 have hget:fr[d]? =some v.aH:=R d _ hd
 have H':=H.ok (fr.set d u.aH) (by simpa using hl) (fun j v q=>by
  simp only[Fm.get] at q
  cases hb:Nat.beq d j with
  |true=>rw[hb] at q; cases q; rw[<- iR hb]; simp[hdl]
  |false =>
   rw[hb] at q
   rw[List.getElem?_set_ne (Nat.ne_of_beq_eq_false hb)]; exact R j v q)
 obtain⟨I,μ,⟨s0,⟨s1,w1,w2⟩,i0⟩,round⟩:=H'
 have F:V3 (fun j=>j=i) ⟨fr.set d u.aH,Hz.aA ((i,none)::h),nx,pn⟩ ⟨fr,h.aA,nx,pn⟩:=by
  refine⟨MO hget hs,fun j ob hj=>?_,rfl,rfl⟩
  have hne:j≠i:=by
   rintro rfl
   simp[Hz.aA,Hz.get] at hj
  have hj':h.aA j=some ob:=by
   have hb:Nat.beq i j=false:=by
    cases hb:Nat.beq i j with
    |false=>rfl
    |true=>exact absurd (Nat.eq_of_beq_eq_true hb).symm hne
   simp only[Hz.aA,Hz.get,hb] at hj ⊢; exact hj
  exact⟨ob,hj',hne,rfl,rfl,dP _,rfl,rfl⟩
 exact⟨I,μ,⟨s0,⟨s1,w1.trans (.fz F (.refl _)),w2⟩,i0⟩,round⟩
theorem aK.fz{N pn nx:Nat}{b:dZ}{Q:Qz}{m:Fm}{h:Hz}(d i k:Nat)(r:Rw)(hd:m.get d=some (.own i))(hN:Nat.blt d N=true)(hs:T.sub (fun j=>j=i) h.aA (V.row k false r).aH (V.own i).aH)
  (H:aK P N pn b Q ((d,.row k false r)::m) ((i,none)::h) nx):aK P N pn b Q m h nx:=aK.fzV d i _ _ hd hN hs H
theorem aK.aeo{N pn nx:Nat}{b:dZ}{Q:Qz}{m:Fm}{h:Hz}(d i k:Nat)(u:V){ty:Nat}(hd:m.get d=some (.ptr i 0 0))(hN:Nat.blt d N=true)(ho:h.get i=some (.box ty k u))(hu:u.aH.free=true)(hk:k≠dI)
  (H:aK P N pn b Q ((d,.ref k u)::m) ((i,none)::h) nx):aK P N pn b Q m h nx :=
 aK.fzV d i _ _ hd hN (by
  simp only[V.aH,T.sub]
  exact⟨trivial,trivial,hu,hk,ty,[u.aH],by simp only[Hz.aA,ho]; rfl,rfl⟩) H
end
section
variable {P:Program}
theorem J5{o:OV}(q:o.Rt=true)(ρ:Nat->Nat):o.aG.ren ρ=o.aG:=by
 have:=OV.DZ q ρ
 unfold Ob.ren
 rw[this]
theorem Ox{j:Nat}{o:OV}{i:Nat}:Hz.aA [(j,some o)] i=if i=j then some o.aG else none:=by
 simp only[Hz.aA,Hz.get]
 cases hb:Nat.beq j i with
 |true=>rw[if_pos (iR hb).symm]; rfl
 |false=>rw[if_neg (fun e=>Nat.ne_of_beq_eq_false hb e.symm)]; rfl
theorem J6{j i:Nat}{o:Option OV}{h:Hz}:Hz.aA ((j,o)::h) i=if i=j then o.map OV.aG else h.aA i:=by
 simp only[Hz.aA,Hz.get]
 cases hb:Nat.beq j i with
 |true=>rw[if_pos (iR hb).symm]; rfl
 |false=>rw[if_neg (fun e=>Nat.ne_of_beq_eq_false hb e.symm)]; rfl
theorem ah.XD{f:FuncId}{ts args:List V}{h:Hz}{i n:Nat}{o0:OV}{K:V->Hz->Prop}{KW:Nat->V->Hz->Prop}{post:T->Hp->Prop}(H:aQ P f (V.bg ts) (Hz.aA [(0,some o0)]) 1 post)
  (ha:T.dQ (fun _=>i) (V.bg ts)=V.bg args) (hid:T.Kv 1 (V.bg ts)=true) (hg:o0.good 1=true) (hf:o0.Rt=true) (hi:h.get i=some o0) (hn:h.get n=none)
  (hK: ∀ t hp,post t hp->(∃ v o,hp=Hz.aA [(0,some o)]/\o.Rt=true/\t.ren (nameAt (fun _=>i) 1 n)=v.aH/\K v ((i,some o)::h)) \/
   (∃ v o,hp=Hz.aA [(1,some o)]/\o.Rt=true/\t.ren (nameAt (fun _=>i) 1 n)=v.aH/\K v ((n,some o)::(i,none)::h))):ah P false none f args h n K KW:=by
 have hin:i≠n:=by rintro rfl; rw[hi] at hn; cases hn
 have hl0: ∀ j:Nat,j<1->(Hz.aA [(0,some o0)] j).isSome=true:=fun j hj=>by rw[Ox,if_pos (by omega)]; rfl
 have hsome: ∀ j,(Hz.aA [(0,some o0)] j).isSome=true->j=0:=fun j hj=>by
  rw[Ox] at hj; split at hj
  ·assumption
  ·cases hj
 refine ah.heap (post:=fun t' h'=> ∃ t h1,post t h1/\t'=t.ren (nameAt (fun _=>i) 1 n)/\h'=placed (fun _=>i) 1 n (Hz.aA [(0,some o0)]) h.aA h1) ?_ ?_
 ·rw[<- ha]
  refine aQ.place H (T.ay hl0 _ (Ip hid)) (fun j ob hj=>?_) (by rw[Ox]; rfl) (fun j ob hj=>?_) (fun a b h1 h2 _=>by rw[hsome a h1,hsome b h2])
  ·rw[Ox] at hj; split at hj
   ·cases hj
    have hz:T.aI (fun _=>False) o0.aG.l:=OV.Iq hf
    exact⟨T.ay (fun _ h=>h.elim) _ hz,(OV.ES hg).2⟩
   ·cases hj
  ·rw[Ox] at hj; split at hj
   ·cases hj
    rw[J5 hf]; exact aX hi
   ·cases hj
 ·rintro t' h' ⟨t,h1,hp,rfl,rfl⟩
  have inj: ∀ a b,((Hz.aA [(0,some o0)] a).isSome=true\/a=1)->((Hz.aA [(0,some o0)] b).isSome=true\/b=1)->nameAt (fun _=>i) 1 n a=nameAt (fun _=>i) 1 n b->a=b:=by
   intro a b ha hb e
   rcases ha with ha|rfl<;>rcases hb with hb|rfl
   ·rw[hsome a ha,hsome b hb]
   ·rw[hsome a ha] at e; exact absurd e hin
   ·rw[hsome b hb] at e; exact absurd e.symm hin
   ·rfl
  have at0: ∀ h1,placed (fun _=>i) 1 n (Hz.aA [(0,some o0)]) h.aA h1 i=(h1 0).map (Ob.ren (nameAt (fun _=>i) 1 n)):=fun h1=>MB (h:=h.aA) (h1:=h1) inj (i:=0) (.inl (hl0 0 (by decide)))
  have at1: ∀ h1,placed (fun _=>i) 1 n (Hz.aA [(0,some o0)]) h.aA h1 n=(h1 1).map (Ob.ren (nameAt (fun _=>i) 1 n)):=fun h1=>MB (h:=h.aA) (h1:=h1) inj (i:=1) (.inr rfl)
  have atO: ∀ h1 j,j≠i->j≠n->placed (fun _=>i) 1 n (Hz.aA [(0,some o0)]) h.aA h1 j=h.aA j:=fun h1 j g1 g2=>Tt (by
   rintro⟨a,ha,e⟩
   rcases ha with ha|rfl
   ·rw[hsome a ha] at e; exact g1 e.symm
   ·exact g2 e.symm)
  rcases hK t h1 hp with ⟨v,o,rfl,ho,hv,hk⟩|⟨v,o,rfl,ho,hv,hk⟩
  ·refine⟨v,_,hv,?_,hk⟩
   funext j
   rw[J6]
   by_cases e1:j=i
   ·subst e1; rw[if_pos rfl,at0,Ox,if_pos rfl,Option.map_some,J5 ho]; rfl
   ·rw[if_neg e1]
    by_cases e2:j=n
    ·subst e2; rw[at1,Ox,if_neg (by decide)]; simp only[Hz.aA,hn]; rfl
    ·exact atO _ j e1 e2
  ·refine⟨v,_,hv,?_,hk⟩
   funext j
   rw[J6,J6]
   by_cases e2:j=n
   ·subst e2; rw[if_pos rfl,at1,Ox,if_pos rfl,Option.map_some,J5 ho]; rfl
   ·rw[if_neg e2]
    by_cases e1:j=i
    ·subst e1; rw[if_pos rfl,at0,Ox,if_neg (by decide)]; rfl
    ·rw[if_neg e1]; exact atO _ j e1 e2
end
section
variable {P:Program}
def okR(ρ:Nat->Nat)(nx pn:Nat)(h:Hz):List (Nat×OV)->List Nat->Prop
 |[],[]=>True
 |(c,o)::r,n::s=>(Nat.blt c nx=true/\(Nat.blt c pn=true->n=c)/\DY n s=true/\o.good nx=true /\
   ∃ o',h.get n=some o'/\o'.aG.ty=o.aG.ty/\o'.aG.k=o.aG.k/\fM (T.dQ ρ o.aG.l) o'.aG.l)/\okR ρ nx pn h r s
 |_,_=>False
theorem QJ{ρ:Nat->Nat}{nx pn:Nat}{h:Hz}: ∀ {l:List (Nat×OV)} {s:List Nat},okR ρ nx pn h l s->hpL (Bf l s)=(OU l).aA:=by
 intro l
 induction l with
 |nil=>intro s q; cases s with
  |nil=>rfl
  |cons _ _=>exact q.elim
 |cons p r ih =>
  obtain⟨c,o⟩:=p
  intro s q
  cases s with
  |nil=>exact q.elim
  |cons n s =>
   simp only[Bf,hpL]
   have e:OU ((c,o)::r)=(c,some o)::OU r:=rfl
   rw[e,bP,ih q.2]; rfl
theorem QK{nx pn:Nat}{h:Hz}{Z:Nat->Prop}{ρ:Nat->Nat}: ∀ {l:List (Nat×OV)} {s:List Nat},okR ρ nx pn h l s->okL Z ρ h.aA nx pn (Bf l s):=by
 intro l
 induction l with
 |nil=>intro s _; cases s<;>trivial
 |cons p r ih =>
  obtain⟨c,o⟩:=p
  intro s q
  cases s with
  |nil=>exact q.elim
  |cons n s =>
   obtain⟨⟨q1,q2,q3,q4,o',q6,q7,q8,q9⟩,q⟩:=q
   obtain⟨g1,g2⟩:=OV.ES q4
   refine⟨⟨Nat.blt_eq.mp q1,fun hc=>q2 (Nat.blt_eq.mpr hc),QI q3,g1,g2,o'.aG.l,?_,?_⟩,ih q⟩
   ·have:=aX q6
    show h.aA n=some ⟨o.aG.ty,o.aG.k,o'.aG.l⟩
    rw[this,<- q7,<- q8]
   ·exact q9 _ _
structure afi{ι:Type}(inv:ι->Prop)(μ:ι->Nat)(vars:ι->Fm)(objs:ι->List (Nat×OV))(base:Fm)(nx pn:Nat)(i:ι)(m:Fm)(h:Hz):Prop where
 ok: ∃ j nw,inv j/\μ j<μ i/\qF (qL (objs j) nw) m (vars j)/\qF (qL (objs j) nw) m base/\okR (qL (objs j) nw) nx pn h (objs j) nw
theorem aK.wJ{N pn nx0:Nat}(nx:Nat){b:dZ}{Q:Qz}{m:Fm}{h:Hz}{ι:Type}(live:List Nat)(vars:ι->Fm)(objs:ι->List (Nat×OV))(inv:ι->Prop)(μ:ι->Nat)(i0:ι)(Rz:List Nat)(hd:rE N b=true)(hp:pn<=nx)(hv: ∀ i,Zr nx N (vars i)=true)(h0:inv i0)
  (he:qF (qL (objs i0) Rz) m (vars i0)) (ho:okR (qL (objs i0) Rz) nx pn h (objs i0) Rz)
  (H:JX m live [] fun base=>qF (qL (objs i0) Rz) m base/\Zr nx N base=true/\ ∀ i,inv i->az P N pn b (fun e m' h' n'=>match e with
   | .normal=>afi inv μ vars objs base nx pn i m' h'
   |e=>Q e m' h' n') (vars i++base) (OU (objs i)) nx):aK P N pn b Q m h nx0:=by
 obtain⟨base,⟨hbs,hb,H⟩,hbm⟩:=BO H (fun i v q=>by cases q)
 refine⟨fun fr hl R=>?_⟩
 have hall: ∀ i j v,Fm.get j (vars i++base)=some v->T.lt nx v.aH=true/\j<N:=fun i j v q=>by
  rcases get_append q with q|q
  ·exact xg (hv i) q
  ·exact xg hb q
 have wk: ∀ (i:ι) (nw:List Nat) (m':Fm) (h':Hz) (s':AS),s'.fr.length=N->Rp m' s'.fr->s'.hp=h'.aA->s'.pin=pn->qF (qL (objs i) nw) m' (vars i)->qF (qL (objs i) nw) m' base->okR (qL (objs i) nw) nx pn h' (objs i) nw ->
   Wk ⟨wI N (vars i++base),(OU (objs i)).aA,nx,pn⟩ s':=by
  intro i nw m' h' s' a1 a2 a3 a4 a5 a6 a7
  obtain⟨fr',hp',nx',pn'⟩:=s'
  simp only at a1 a2 a3 a4
  subst a3; subst a4
  rw[<- QJ a7]
  have e:Du (Bf (objs i) nw)=qL (objs i) nw:=funext fun _=>J4
  refine Wk.objs (Bf (objs i) nw) (Gq a1 a2 fun j v q=>?_) (ER fun j v q=>(hall i j v q).1) hp (by rw[e]; exact QK a7)
  rw[e]
  rcases get_append q with q|q
  ·exact uU a5 q
  ·exact uU a6 q
 refine yu.rule (fun i=>⟨wI N (vars i++base),(OU (objs i)).aA,nx,pn⟩) inv μ i0 h0 (wk i0 Rz m h _ hl R rfl rfl he hbs ho) ?_
 intro i hi
 have:=wu (P:=P) (N:=N) (pn:=pn) (s:=⟨wI N (vars i++base),(OU (objs i)).aA,nx,pn⟩) hd yS (EP fun j v q=>(hall i j v q).2) rfl rfl (H i hi)
 refine o9 ?_ this
 rintro e s' ⟨m',h',a1,a2,a3,a4,a5⟩
 cases e with
 |normal =>
  obtain⟨j,nw,b1,b2,b3,b4,b5⟩:=a5.ok
  exact⟨j,⟨b1,b2⟩,wk j nw m' h' s' a1 a2 a3 a4 b3 b4 b5⟩
 |exit j=>exact⟨m',h',a1,a2,a3,a4,a5⟩
 |ret=>exact⟨m',h',a1,a2,a3,a4,a5⟩
end
section
variable {P:Program}
def XF(Z:Nat->Prop)(h:Hz):Hz->Prop
 |[]=>True
 |(_,none)::r=>XF Z h r
 |(i,some o)::r=>(∃ o',h.get i=some o'/\ ¬ Z i/\o'.aG.ty=o.aG.ty/\o'.aG.k=o.aG.k/\T.dJ Z h.aA o.aG.l o'.aG.l/\o.aG.l.map T.kd=o'.aG.l.map T.kd/\o.aG.l.map gB=o'.aG.l.map gB)/\XF Z h r
def Frz(h h2:Hz):Prop:= ∃ Z,XF Z h h2
theorem O8{Z:Nat->Prop}{h:Hz}: ∀ {h2:Hz},XF Z h h2-> ∀ {i:Nat} {o:OV},h2.get i=some o-> ∃ o',h.get i=some o'/\ ¬ Z i/\o'.aG.ty=o.aG.ty/\o'.aG.k=o.aG.k/\T.dJ Z h.aA o.aG.l o'.aG.l/\o.aG.l.map T.kd=o'.aG.l.map T.kd/\o.aG.l.map gB=o'.aG.l.map gB:=by
 intro h2
 induction h2 with
 |nil=>intro _ i o e; cases e
 |cons p r ih =>
  obtain⟨j,u⟩:=p
  intro hf i o e
  simp only[Hz.get] at e
  cases u with
  |none =>
   cases hb:Nat.beq j i with
   |true=>rw[hb] at e; cases e
   |false=>rw[hb] at e; exact ih hf e
  |some u =>
   cases hb:Nat.beq j i with
   |true=>rw[hb] at e; cases e; rw[<- iR hb]; exact hf.1
   |false=>rw[hb] at e; exact ih hf.2 e
theorem Frz.wk{s _s1:AS}{fr:List T}{h h2:Hz}{nx pn:Nat}(f:Frz h h2)(w:Wk s ⟨fr,h2.aA,nx,pn⟩):Wk s ⟨fr,h.aA,nx,pn⟩:=by
 obtain⟨Z,f⟩:=f
 obtain⟨s1,w1,w2⟩:=w
 have F:V3 Z ⟨fr,h2.aA,nx,pn⟩ ⟨fr,h.aA,nx,pn⟩:=by
  refine⟨dP _,fun i ob hi=>?_,rfl,rfl⟩
  simp only[Hz.aA,Option.map_eq_some_iff] at hi
  obtain⟨o,e1,rfl⟩:=hi
  obtain⟨o',a1,a2,a3,a4,a5,a6,a7⟩:=O8 f e1
  exact⟨o'.aG,aX a1,a2,a3,a4,a5,a6,a7⟩
 exact⟨s1,w1.trans (.fz F (.refl _)),w2⟩
structure afj{ι:Type}(inv:ι->Prop)(μ:ι->Nat)(vars:ι->Fm)(objs:ι->List (Nat×OV))(base:Fm)(nx pn:Nat)(i:ι)(m:Fm)(h:Hz):Prop where
 ok: ∃ h2 j nw,Frz h h2/\inv j/\μ j<μ i/\qF (qL (objs j) nw) m (vars j)/\qF (qL (objs j) nw) m base/\okR (qL (objs j) nw) nx pn h2 (objs j) nw
theorem aK.Un{N pn nx0:Nat}(nx:Nat){b:dZ}{Q:Qz}{m:Fm}{h:Hz}{ι:Type}(live:List Nat)(vars:ι->Fm)(objs:ι->List (Nat×OV))(inv:ι->Prop)(μ:ι->Nat)(i0:ι)(Rz:List Nat)(h2:Hz)(hd:rE N b=true)(hp:pn<=nx)(hv: ∀ i,Zr nx N (vars i)=true)(h0:inv i0)
  (he:qF (qL (objs i0) Rz) m (vars i0)) (hf:Frz h h2) (ho:okR (qL (objs i0) Rz) nx pn h2 (objs i0) Rz)
  (H:JX m live [] fun base=>qF (qL (objs i0) Rz) m base/\Zr nx N base=true/\ ∀ i,inv i->az P N pn b (fun e m' h' n'=>match e with
   | .normal=>afj inv μ vars objs base nx pn i m' h'
   |e=>Q e m' h' n') (vars i++base) (OU (objs i)) nx):aK P N pn b Q m h nx0:=by
 obtain⟨base,⟨hbs,hb,H⟩,hbm⟩:=BO H (fun i v q=>by cases q)
 refine⟨fun fr hl R=>?_⟩
 have hall: ∀ i j v,Fm.get j (vars i++base)=some v->T.lt nx v.aH=true/\j<N:=fun i j v q=>by
  rcases get_append q with q|q
  ·exact xg (hv i) q
  ·exact xg hb q
 have wk: ∀ (i:ι) (nw:List Nat) (m':Fm) (h' h2':Hz) (s':AS),s'.fr.length=N->Rp m' s'.fr->s'.hp=h'.aA->s'.pin=pn->Frz h' h2'->qF (qL (objs i) nw) m' (vars i)->qF (qL (objs i) nw) m' base->okR (qL (objs i) nw) nx pn h2' (objs i) nw ->
   Wk ⟨wI N (vars i++base),(OU (objs i)).aA,nx,pn⟩ s':=by
  intro i nw m' h' h2' s' a1 a2 a3 a4 af a5 a6 a7
  obtain⟨fr',hp',nx',pn'⟩:=s'
  simp only at a1 a2 a3 a4
  subst a3; subst a4
  refine af.wk (_s1:=⟨fr',h2'.aA,nx',pn'⟩) ?_
  rw[<- QJ a7]
  have e:Du (Bf (objs i) nw)=qL (objs i) nw:=funext fun _=>J4
  refine Wk.objs (Bf (objs i) nw) (Gq a1 a2 fun j v q=>?_) (ER fun j v q=>(hall i j v q).1) hp (by rw[e]; exact QK a7)
  rw[e]
  rcases get_append q with q|q
  ·exact uU a5 q
  ·exact uU a6 q
 refine yu.rule (fun i=>⟨wI N (vars i++base),(OU (objs i)).aA,nx,pn⟩) inv μ i0 h0 (wk i0 Rz m h h2 _ hl R rfl rfl hf he hbs ho) ?_
 intro i hi
 have:=wu (P:=P) (N:=N) (pn:=pn) (s:=⟨wI N (vars i++base),(OU (objs i)).aA,nx,pn⟩) hd yS (EP fun j v q=>(hall i j v q).2) rfl rfl (H i hi)
 refine o9 ?_ this
 rintro e s' ⟨m',h',a1,a2,a3,a4,a5⟩
 cases e with
 |normal =>
  obtain⟨h2',j,nw,bf,b1,b2,b3,b4,b5⟩:=a5.ok
  exact⟨j,⟨b1,b2⟩,wk j nw m' h' h2' s' a1 a2 a3 a4 bf b3 b4 b5⟩
 |exit j=>exact⟨m',h',a1,a2,a3,a4,a5⟩
 |ret=>exact⟨m',h',a1,a2,a3,a4,a5⟩
theorem mW{Z:Nat->Prop}{h:Hz}{i:Nat}{o:OV}(e:h.get i=some o)(hz: ¬ Z i): ∃ o',h.get i=some o'/\ ¬ Z i/\o'.aG.ty=o.aG.ty/\o'.aG.k=o.aG.k/\T.dJ Z h.aA o.aG.l o'.aG.l/\o.aG.l.map T.kd=o'.aG.l.map T.kd/\o.aG.l.map gB=o'.aG.l.map gB :=
 ⟨o,e,hz,rfl,rfl,dP _,rfl,rfl⟩
end
section
variable {P:Program}
structure agl(o0 o1:OV)(v:V)(h:Hz):Prop where
 ok: ∃ a b o0',v= .ptr a 0 0/\a≠b/\h.get a=some o0'/\o0.aG.ren (fun i=>bif Nat.beq i 0 then a else b)=o0'.aG/\h.get b=some o1
end
section
variable {P:Program}
end
section
variable {P:Program}
structure Dfr where
 d:Nat
 g:FuncId
 x:Nat
 y:Nat
def afk:List Oper->Option Dfr
 |[o1,o2]=>match o1.op,o1.dst,o1.guard,o2.op,o2.dst,o2.guard with
  | .makeFunc (.func g) ⟨[]⟩ ⟨[.tmp x,.tmp y]⟩,some d,none,.defer ⟨.value (.tmp e),⟨[]⟩,⟨[]⟩⟩,none,none=>bif Nat.beq d e then some ⟨d,g,x,y⟩ else none
  |_,_,_,_,_,_=>none
 |_=>none
def Zu(P:Program):Code->Option (dZ×Dfr×dZ)
 | .seq (.region id ops false) c=>match afk ops.toList with
  |some i=>(comp P c).map fun b=>(.skip,i,b)
  |none=>match comp P (.region id ops false),Zu P c with
   |some a,some (a',i,b)=>some (.seq a a',i,b)
   |_,_=>none
 | .seq a c=>match comp P a,Zu P c with
  |some a,some (a',i,b)=>some (.seq a a',i,b)
  |_,_=>none
 |_=>none
def abx(P:Program)(f:FuncId)(ts:List T)(h:Hp)(n:Nat)(post:Hp->Prop):Prop :=
 ∀ (F:Fr P) (M:Nat->Prop) (E:Env) (vs:List Value),qI F E->E.h=h->bT E ts vs->T.aI M ts->mG M h-> ¬ M n ->
  CallsD P f vs.toArray .returning E.w fun e u w'=>u= .returning/\Ends F M E n (fun _ h'=>post h') e w'
structure agm(P:Program)(f:FuncId)(a b:dZ)(i:Dfr)(rs:List RV)(nt:Nat):Prop where
 ex: ∃ fn c,P.funcs[f]? =some fn/\fn.body=some c/\Zu P c=some (a,i,b)/\lg P fn.results.toList=some rs/\fn.ntmps=nt
 cl:callable P f
 dst:(rE nt a&&rE nt b&&Nat.blt i.d nt)=true
structure agv(P:Program)(g:FuncId)(us:List V)(h:Hz)(nx pn:Nat)(K:Hz->Prop):Prop where
 ok:T.Kv pn (V.bg us)=true/\abx P g (V.bg us) h.aA nx fun hp=> ∃ h':Hz,hp=h'.aA/\K h'
theorem aQ.frz{f:FuncId}{ts ts2:List T}{h h2:Hp}{n:Nat}{post:T->Hp->Prop}(Z:Nat->Prop)(H:aQ P f ts2 h2 n post)(hs:T.dJ Z h ts2 ts)
  (ho: ∀ i ob,h2 i=some ob-> ∃ ob',h i=some ob'/\ ¬ Z i/\ob'.ty=ob.ty/\ob'.k=ob.k/\T.dJ Z h ob.l ob'.l/\ob.l.map T.kd=ob'.l.map T.kd/\ob.l.map gB=ob'.l.map gB):aQ P f ts h n post:=by
 obtain⟨h1,hcl,hcall⟩:=H
 refine⟨h1,hcl,fun F M E vs hk he hrep hid hm hn=>?_⟩
 subst he
 have KJ: ∀ i ob,h2 i=some ob-> ∃ ob',E.h (id i)=some ob'/\ ¬ Z (id i)/\LK Z E.h id ob ob':=fun i ob hi=>by
  obtain⟨ob',a1,a2,a3,a4,a5,a6,a7⟩:=ho i ob hi
  refine⟨ob',a1,a2,a3,a4,by rw[AP]; exact a5,?_⟩
  have hkd:=(hk.obs i ob' a1).1.kinds
  rw[<- a4]
  rcases hkd with ⟨g1,g2⟩|⟨g1,g2⟩
  ·exact .inl ⟨g1,Ql a7 g2⟩
  ·exact .inr ⟨g1,L9 a6 g2⟩
 let E2:Env:=(E.shut Z).ren id h2
 have hk2:qI F E2:=hk.ren KJ fun i j _ _ e=>e
 have hl: ∀ i,(h2 i).isSome=true->((E.shut Z).h (id i)).isSome=true:=fun i hi=>by
  obtain⟨ob,hob⟩:=Option.isSome_iff_exists.1 hi
  obtain⟨ob',b1,b2,_⟩:=KJ i ob hob
  rw[wV b2,b1]; rfl
 have afl:bT E2 ts2 vs:=by
  have e:T.dQ id ts2=ts2:=AP ts2
  have:=su hk _ _ hs _ hrep
  rw[<- e] at this
  exact yF hl _ _ this
 refine(hcall F M E2 vs hk2 rfl afl (tu _ _ hs hid) (fun i ob hi=>?_) hn).mono ?_
 ·obtain⟨ob',a1,_,_,_,a5,_⟩:=ho i ob hi
  exact⟨(hm i ob' a1).1,tu _ _ a5 (hm i ob' a1).2⟩
 ·rintro e w' ⟨v,t,E',rfl,rfl,r3,r4,r5,r6,r7,r8,r9⟩
  refine⟨v,t,E',rfl,rfl,r3,r4,r5,⟨fun g hg=>r6.s g (.inl hg),fun g hg=>r6.w g (hg.imp .inl id),r6.size,r6.os,r6.tape,r6.output,r6.dr⟩,fun i hi hsome=>?_,r8,r9⟩
  obtain⟨q1,q2,q3⟩:=r7 i hi hsome
  obtain⟨ob,hob⟩:=Option.isSome_iff_exists.1 q1
  obtain⟨ob',a1,_⟩:=ho i ob hob
  exact⟨by rw[a1]; rfl,q2,q3⟩
end
section
variable {P:Program}
theorem aby{w w':World}(hh: ∀ g,g<w.heap.size->w'.heap[g]? =w.heap[g]?)(hs:w.heap.size<=w'.heap.size)(ho:w'.os=w.os)(ht:w'.tape=w.tape)(hp:w'.output=w.output)(hd:w.drawn<=w'.drawn) :
  ∃ q os,w'=Sort.grow (w.drewN q) os:=by
 refine⟨w'.drawn-w.drawn,w'.heap.extract w.heap.size w'.heap.size,?_⟩
 obtain⟨h1,t1,d1,o1,p1⟩:=w
 obtain⟨h2,t2,d2,o2,p2⟩:=w'
 simp only at hh hs ho ht hp hd
 subst ho ht hp
 simp only[Sort.grow,World.drewN]
 congr 1
 ·apply Array.ext_getElem?
  intro i
  rw[Array.getElem?_append]
  split
  ·rename_i hi; rw[hh i hi]
  ·rename_i hi
   simp only[Array.getElem?_extract]
   by_cases hi2:i<h2.size
   ·rw[if_pos (by omega)]
    congr 1; omega
   ·rw[Array.getElem?_eq_none (by omega),if_neg (by omega)]
 ·omega
def El(E:Env)(l:List T)(k:Nat):Type:= {p:T×List Value // p.1∈l/\aJ E p.1 p.2/\p.2.length=k/\ ∀ v∈p.2,v.oneCell'=true}
theorem TU{E:Env}{k:Nat}: ∀ {l:List T} {vs:List Value},l.length*bn k<=vs.length->(∀ j t,l[j]? =some t->t.kd=k/\(∀ v∈(vs.drop (j*bn k)).take (bn k),v.oneCell'=true)/\aJ E t ((vs.drop (j*bn k)).take (bn k)))->aB E k l vs:=by
 intro l
 induction l with
 |nil=>intro vs _ _; trivial
 |cons t ts ih =>
  intro vs hl H
  simp only[List.length_cons,Nat.add_mul,Nat.one_mul] at hl
  obtain⟨h1,h2,h3⟩:=H 0 t rfl
  simp only[Nat.zero_mul,List.drop_zero] at h2 h3
  refine⟨h1,by omega,h2,h3,ih (by simp; omega) fun j u hj=>?_⟩
  have:=H (j+1) u (by simpa using hj)
  rw[List.drop_drop]
  rw[Nat.add_mul,Nat.one_mul,Nat.add_comm (j*bn k)] at this
  exact this
theorem TV{w:World}{g:Nat}{cur:Array Value}{ty:TypeId}(h:w.heap[g]? =some (.cells cur ty (0,0)))(off:Nat):w.frozen? ⟨g,off,none⟩=false:=by
 simp[World.frozen?,h]
open Go.Proofs in
set_option maxHeartbeats 1000000 in
theorem aQ.sort{ρ:Shelf.Ren}(L:SlLaysF0.n6 P ρ)(k:Nat)(hk0:0<k)(aE: ∀ w,(isAgg (ρ.t 24)).run P w= .ok true w)(zE: ∀ w,(Go.sizeOf (ρ.t 24)).run P w= .ok k w)(hcl:callable P (ρ.f 6))
  {g:Nat} (hg:g<4096) (hgc:callable P g) {l:List T} (hne:l≠[]) (hkd: ∀ t∈l,t.kd=k+1) (hfree:T.aY l=true) (hlen:l.length<4611686018427387904) (cf:T->T->Int)
  (aga: ∀ x∈l,¬ cf x x<0) (htr: ∀ x∈l,∀ y∈l,∀ z∈l,cf x y<0->cf y z<0->cf x z<0) (hnt: ∀ x∈l,∀ y∈l,∀ z∈l,¬ cf x y<0-> ¬ cf y z<0-> ¬ cf x z<0)
  (hc: ∀ x∈l,∀ y∈l,oH P g [x,y] (.int (cf x y))) (hkm:k+1≠dI) (hex: ∃ l':List T,l'.Perm l/\l'.Pairwise (fun a b=> ¬ cf b a<0)) {h:Hp} {i ty n:Nat} (hi:h i=some ⟨ty,k+1,l⟩) :
  aQ P (ρ.f 6) [.own i,.fn g []] h n fun t h'=>t= .fV []/\ ∃ l',l'.Perm l/\l'.Pairwise (fun a b=> ¬ cf b a<0)/\h'=upd h i (some ⟨ty,k+1,l'⟩):=by
 refine⟨?_,hcl,fun F M E vs hk he hts hid hm hn=>?_⟩
 ·obtain⟨l',h1,h2⟩:=hex
  exact⟨_,_,rfl,l',h1,h2,rfl⟩
 subst he
 simp only[bU] at hts
 obtain⟨v0,r0,rfl,hv0,v1,r1,rfl,hv1,hnil⟩:=hts
 simp only[bT] at hnil
 subst hnil
 rw[au rfl] at hv0 hv1
 simp only[aJ] at hv0 hv1
 obtain⟨u0,hu0,hlive⟩:=hv0
 obtain⟨cs,hu1,hcs⟩:=hv1
 simp only[aW] at hcs
 have agb:v0=E.φ i:=by have:=hlive (by rw[hi]; rfl); simp only[List.cons.injEq,and_true] at hu0; rw[hu0,this]
 have hcs':cs= #[]:=Array.eq_empty_of_size_eq_zero (by simpa using congrArg List.length hcs)
 have agc:v1= .func (.func g) #[] #[]:=by simp only[List.cons.injEq,and_true] at hu1; rw[hu1,hcs',ND hg]
 obtain⟨hob,Fv,hsz⟩:=hk.obs i _ hi
 have hrow:=hob.row hkm
 rcases hrow with ⟨a,_,hl0⟩|⟨b,c,cur,hφ,hlc,hcm,hcell,hcsz,hrr⟩
 ·exact absurd hl0 hne
 simp only at hφ hlc hcell hcsz hrr
 have Wh:bn (k+1)=k:=rfl
 rw[Wh] at hcsz
 have hrb:rowB (E.φ i)=some b:=by rw[hφ]; rfl
 obtain⟨hbS,hbF⟩:=hk.out i _ b hi hrb
 have hblt:b<E.w.heap.size:=hob.lt hrb
 subst agb agc
 have hlen0:0<l.length:=List.length_pos_iff.2 hne
 have hcur:l.length*k<=cur.toList.length:=by
  have:=Aq hrr; rw[Wh] at this; exact this
 have hget: ∀ j t,l[j]? =some t->aJ E t ((cur.toList.drop (j*k)).take k)/\((cur.toList.drop (j*k)).take k).length=k/\ ∀ v∈(cur.toList.drop (j*k)).take k,v.oneCell'=true:=by
  intro j t hj
  obtain⟨hjl,rfl⟩:=List.getElem?_eq_some_iff.1 hj
  have:=sU hrr hjl
  rw[Wh] at this
  obtain⟨h1,h2,h3,h4⟩:=this
  have hle:j*k+k<=cur.toList.length:=by
   have:(j+1)*k<=l.length*k:=Nat.mul_le_mul_right _ hjl
   rw[Nat.add_mul,Nat.one_mul] at this; omega
  have hlen':((cur.toList.drop (j*k)).take k).length=k:=by rw[List.length_take,List.length_drop]; omega
  have e:l.getD j .any=l[j]:=by simp[hjl]
  rw[e] at h4
  exact⟨h4,hlen',h3⟩
 let abz:(j:Fin l.length)->El E l k:=fun j=>⟨(l[j],(cur.toList.drop (j*k)).take k),List.getElem_mem j.2,(hget j l[j] (List.getElem?_eq_getElem j.2)).1,(hget j l[j] (List.getElem?_eq_getElem j.2)).2.1,(hget j l[j] (List.getElem?_eq_getElem j.2)).2.2⟩
 haveI:Inhabited (El E l k):=⟨abz ⟨0,hlen0⟩⟩
 let d:Array (El E l k):=Array.ofFn abz
 have hd:d.size=l.length:=by simp[d]
 let enc:El E l k->List Value:=fun p=>p.1.2
 let cg:El E l k->El E l k->Int:=fun p q=>cf p.1.1 q.1.1
 have hO:Sort.SWO (ltOf cg):= {
  irrefl:=fun x=>by simp only[ltOf,cg]; exact decide_eq_false (aga _ x.2.1)
  trans:=fun x y z h1 h2=>by
   simp only[ltOf,cg,decide_eq_true_eq] at h1 h2 ⊢
   exact htr _ x.2.1 _ y.2.1 _ z.2.1 h1 h2
  ntrans:=fun x y z h1 h2=>by
   simp only[ltOf,cg,decide_eq_false_iff_not] at h1 h2 ⊢
   exact hnt _ x.2.1 _ y.2.1 _ z.2.1 h1 h2}
 have henc: ∀ x:El E l k,(enc x).length=k:=fun x=>x.2.2.2.1
 have hone: ∀ x:El E l k,∀ v∈enc x,v.oneCell'=true:=fun x=>x.2.2.2.2
 have hsw: ∀ (m:Nat) (os:Array Obj) (dk:Array (El E l k)) (q:Nat),q<E.w.heap.size->q≠b->(sortWorldK enc k E.w b 0 m dk os).heap[q]? =E.w.heap[q]? :=by
  intro m os dk q hq hqb
  unfold sortWorldK
  rw[Sort.heap_grow_old _ _ (by simpa [Sort.putRowK] using hq)]
  simp only[Sort.putRowK,Sort.putRow,Sort.mapBlock,Array.getElem?_modify]
  rw[if_neg (Ne.symm hqb)]; rfl
 have hsz': ∀ (m:Nat) (os:Array Obj) (dk:Array (El E l k)),E.w.heap.size<=(sortWorldK enc k E.w b 0 m dk os).heap.size:=by
  intro m os dk
  unfold sortWorldK
  rw[Sort.size_grow]; simp[Sort.putRowK]
 have hcmp:CmpLays P g #[] enc k cg b 0 d.size E.w:=by
  intro m os dk hdk x y
  generalize hW:sortWorldK enc k E.w b 0 m dk os=W
  have hWb: ∀ q,q<E.w.heap.size->q≠b->W.heap[q]? =E.w.heap[q]? :=fun q h1 h2=>by rw[<- hW]; exact hsw m os dk q h1 h2
  have hWs:E.w.heap.size<=W.heap.size:=by rw[<- hW]; exact hsz' m os dk
  let E1:Env:= {w:=W,S:=E.S,φ:=E.φ,κ:=E.κ,h:=no}
  let F1:Fr P:= {s:=fun q=>q<W.heap.size/\ ¬ E.S q}
  have hnS: ∀ q,E.S q->q<E.w.heap.size/\q≠b:=fun q hq=>⟨hk.slt q hq,fun e=>hbS (e▸hq)⟩
  have hk1:qI F1 E1:=by
   refine⟨(fun i ob hi=>by cases hi),(fun i ob g hi=>by cases hi),(fun i j oi oj g _ hi=>by cases hi),fun q hq=>Nat.lt_of_lt_of_le (hk.slt q hq) hWs,fun q hq=>hq.1,fun q hs hq=>hq.2 hs,fun q cs hq=>?_⟩
   obtain⟨h1,ty',m',h2⟩:=hk.gl q cs hq
   have hqb:q≠b:=fun e=>hbF (e▸h1)
   refine⟨⟨Nat.lt_of_lt_of_le (hk.flt q h1) hWs,fun hs=>hk.sf q hs h1⟩,ty',m',?_⟩
   show W.heap[q]? =_
   rw[hWb q (hk.flt q h1) hqb]; exact h2
  have hkeep:Keeps E E1 (fun _=>False):=⟨fun _ h=>h,fun q hq=>hWb q (hnS q hq).1 (hnS q hq).2,fun _ hf=>hf.elim⟩
  have hrep: ∀ z:El E l k,jV E1 z.1.1 (.agg (enc z).toArray):=fun z=>by
   have hzf:z.1.1.free=true:=gu.1 hfree _ z.2.1
   have hzk:=hkd _ z.2.1
   exact .inl ⟨by rw[hzk]; exact Nat.succ_ne_zero _,(enc z).toArray,rfl,by simpa using fO _ _ hkeep (eu hzf) _ z.2.2.1⟩
  obtain⟨_,_,hcall⟩:=(hc x.1.1 x.2.1 y.1.1 y.2.1).call 0
  have:=hcall F1 (fun _=>False) E1 [.agg (enc x).toArray,.agg (enc y).toArray] hk1 rfl (by
   simp only[bU]; exact⟨_,_,rfl,hrep x,_,_,rfl,hrep y,rfl⟩) (dw (hc x.1.1 x.2.1 y.1.1 y.2.1).free) (tY _) (fun h=>h)
  refine(this.mono ?_)
  rintro e w' ⟨v,t,E2,rfl,rfl,⟨rfl,_⟩,hv,_,hext,_⟩
  have hv':v= .int .i64 (cg x y):=aF.1 hv
  refine⟨by rw[hv'],?_⟩
  refine aby (fun q hq=>hext.w q ?_) hext.size hext.os hext.tape hext.output hext.dr
  by_cases hs:E.S q
  ·exact .inl hs
  ·exact .inr ⟨hq,hs⟩
 have hdj: ∀ j,j<l.length->enc d[j]! =(cur.toList.drop (j*k)).take k:=by
  intro j hj
  rw[getElem!_pos d j (by rw[hd]; exact hj)]
  show(((Array.ofFn abz)[j]'(by simpa using hj)).1.2)=_
  rw[Array.getElem_ofFn]
 have hH:Sort.HoldsK enc k E.w b 0 d:=by
  intro t ht
  rw[Sort.size_flatK,hd] at ht
  refine⟨?_,TV hcell _⟩
  have hq:t / k<l.length:=Nat.div_lt_of_lt_mul (by rw[Nat.mul_comm]; exact ht)
  have hr:t % k<k:=Nat.mod_lt _ hk0
  rw[Sort.get_flatK _ _ _ _ (by rw[hd]; exact ht),hdj _ hq,Nat.zero_add]
  have hdm:t / k*k+t % k=t:=by rw[Nat.mul_comm]; exact Nat.div_add_mod t k
  have htc:t<cur.size:=by simp at hcur; omega
  have hle:t / k*k+k<=cur.toList.length:=by
   have:(t / k+1)*k<=l.length*k:=Nat.mul_le_mul_right _ hq
   rw[Nat.add_mul,Nat.one_mul] at this; omega
  have hlt:t % k<((cur.toList.drop (t / k*k)).take k).length:=by rw[List.length_take,List.length_drop]; omega
  rw[getElem!_pos ((cur.toList.drop (t / k*k)).take k) (t % k) hlt]
  simp only[World.cell?,hcell]
  rw[List.getElem_take,List.getElem_drop]
  simp[hdm,htc]
 have hcon:=AnyQ.slices_SortFunc L k aE zE enc henc hone cg hO g #[] b 0 (c+1) d E.w hgc hcmp hH hblt (by rw[hd]; exact hlen)
 have hargs:([E.φ i,Value.func (.func g) #[] #[]]:List Value).toArray= #[.slice (some ⟨b,0,none⟩) d.size (c+1),.func (.func g) #[] #[]]:=by
  rw[hφ,hd]
 rw[hargs]
 refine hcon.mono ?_
 rintro e w' ⟨rfl,d',nn,os,hperm,hsort,hw⟩
 have hd':d'.size=l.length:=by rw[hperm.1,hd]
 let l':List T:=d'.toList.map fun p=>p.1.1
 have hl':l'.length=l.length:=by simp[l',hd']
 have hdl:d.toList.map (fun p=>p.1.1)=l:=by
  apply List.ext_getElem
  ·simp[hd]
  ·intro j h1 h2
   rw[List.getElem_map]
   have hj:j<l.length:=h2
   show((Array.ofFn abz).toList[j]'(by simpa using hj)).1.1=l[j]
   rw[Array.getElem_toList,Array.getElem_ofFn]; rfl
 have hp:l'.Perm l:=by
  have:=hperm.2.2
  have e1:(d'.extract 0 d.size)=d':=by rw[hd,<- hd']; simp
  have e2:(d.extract 0 d.size)=d:=by simp
  rw[e1,e2] at this
  have:=this.map (fun p:El E l k=>p.1.1)
  rw[hdl] at this; exact this
 have hpw:l'.Pairwise (fun a b=> ¬ cf b a<0):=by
  rw[List.pairwise_iff_getElem]
  intro x y hx hy hxy
  simp only[l',List.getElem_map,Array.getElem_toList]
  have hx':x<d'.size:=by simpa [l'] using hx
  have hy':y<d'.size:=by simpa [l'] using hy
  have:=hsort x y (Nat.zero_le _) hxy (by rw[hd,<- hd']; exact hy')
  rw[getElem!_pos d' x hx',getElem!_pos d' y hy'] at this
  simpa [ltOf,cg] using this
 let F':Array Value:=Sort.flatK enc k d'
 have hF':F'.size=l.length*k:=by simp[F',hd']
 let cs':Array Value:=Sort.putCells id 0 F' cur
 have TW:cs'.size=cur.size:=by simp[cs',Sort.putCells]
 have hcell':w'.heap[b]? =some (.cells cs' ty (0,0)):=by
  rw[hw]
  unfold sortWorldK
  rw[Sort.heap_grow_old _ _ (by simpa [Sort.putRowK] using hblt)]
  simp only[Sort.putRowK,Sort.putRow,Sort.mapBlock,Array.getElem?_modify]
  rw[if_pos trivial]
  show(E.w.heap[b]?).map _=_
  rw[hcell]; rfl
 have hold': ∀ q,q<E.w.heap.size->q≠b->w'.heap[q]? =E.w.heap[q]? :=fun q h1 h2=>by rw[hw]; exact hsw nn os d' q h1 h2
 have hsize':E.w.heap.size<=w'.heap.size:=by rw[hw]; exact hsz' nn os d'
 let E':Env:= {w:=w',S:=E.S,φ:=E.φ,κ:=E.κ,h:=upd E.h i (some ⟨ty,k+1,l'⟩)}
 have hlf:T.aY l'=true:=by
  rw[gu] at hfree ⊢
  exact fun t ht=>hfree t (hp.mem_iff.1 ht)
 have hext:Ext F E E':=by
  refine⟨fun _ h=>h,fun q hq=>hold' q ?_ ?_,hsize',by show w'.os=_; rw[hw]; rfl,by show w'.tape=_; rw[hw]; rfl,by show w'.output=_; rw[hw]; rfl,by show _<=w'.drawn; rw[hw]; exact Nat.le_add_right _ _⟩
  ·rcases hq with hq|hq
   ·exact hk.slt q hq
   ·exact hk.flt q hq
  ·rintro rfl
   rcases hq with hq|hq
   ·exact hbS hq
   ·exact hbF hq
 have hS:Same E E' M:=by
  intro j _ hj
  refine⟨?_,rfl,rfl⟩
  by_cases hji:j=i
  ·subst hji; rw[hi]; rfl
  ·simpa [E',upd,hji] using hj
 have hK:Keeps E E' M:=.of hext hS
 have agd:aB E' (k+1) l' cs'.toList:=by
  refine TU (by rw[Wh,hl']; simp only[Array.length_toList,TW]; simpa using hcur) fun j t hj=>?_
  rw[Wh]
  obtain⟨hjl,rfl⟩:=List.getElem?_eq_some_iff.1 hj
  have hjx:j<d'.size:=by simpa [l'] using hjl
  have ht:l'[j]=(d'[j]'(hjx)).1.1:=by simp[l']
  have hcells:(cs'.toList.drop (j*k)).take k=enc d'[j]:=by
   have hle:j*k+k<=l.length*k:=by
    have:(j+1)*k<=l.length*k:=Nat.mul_le_mul_right _ (by rw[<- hd']; exact hjx)
    rw[Nat.add_mul,Nat.one_mul] at this; exact this
   have agn:l.length*k<=cur.size:=by simpa using hcur
   apply List.ext_getElem
   ·rw[List.length_take,List.length_drop,henc]; simp only[Array.length_toList,TW]; omega
   ·intro x hx1 hx2
    rw[henc] at hx2
    rw[List.getElem_take,List.getElem_drop,Array.getElem_toList]
    have hin:j*k+x<F'.size:=by rw[hF']; omega
    show(Sort.putCells id 0 F' cur)[j*k+x]'_=_
    simp only[Sort.putCells,Array.getElem_mapIdx,Nat.zero_le,true_and,Nat.zero_add,Nat.sub_zero]
    rw[if_pos hin]
    show F'[j*k+x]! =_
    show(Sort.flatK enc k d')[j*k+x]! =_
    rw[Sort.get_flatK _ _ _ _ (by rw[hd']; omega)]
    have e1:(j*k+x) / k=j:=by rw[Nat.mul_comm,Nat.mul_add_div hk0,Nat.div_eq_of_lt hx2,Nat.add_zero]
    have e2:(j*k+x) % k=x:=by rw[Nat.mul_comm,Nat.mul_add_mod,Nat.mod_eq_of_lt hx2]
    rw[e1,e2,getElem!_pos d' j hjx,getElem!_pos _ x (by rw[henc]; exact hx2)]
  rw[hcells,ht]
  refine⟨hkd _ d'[j].2.1,hone _,?_⟩
  exact fO _ _ hK (T.aZ (fun _ h=>h.elim) _ (eu (gu.1 hfree _ d'[j].2.1))) _ d'[j].2.2.1
 have dY:rW E' ⟨ty,k+1,l'⟩ (E.φ i):=by
  refine .inl ⟨hkm,.inr ⟨b,c,cs',by rw[hφ]; simp only[hl'],by simp only[hl']; exact hlc,hcm,hcell',by rw[TW]; exact hcsz,agd⟩⟩
 have hhm:mG M E.h:=hm
 refine⟨.tuple #[],.fV [],E',rfl,rfl,⟨rfl,l',hp,hpw,rfl⟩,?_,?_,hext,hS,by simp[T.ids,T.aI],?_⟩
 ·rw[au rfl]; simp only[aJ]; exact⟨#[],rfl,rfl⟩
 ·have hsome: ∀ j oj,E'.h j=some oj-> ∃ YA,E.h j=some YA:=fun j oj hj=>by
   by_cases hji:j=i
   ·subst hji; exact⟨_,hi⟩
   ·exact⟨oj,by simpa [E',upd,hji] using hj⟩
  refine⟨fun j oj hj=>?_,fun j oj q hj hq=>?_,fun j j' oj YA q hjj hj hj' hq hq'=>?_,fun q hq=>Nat.lt_of_lt_of_le (hk.slt q hq) hsize',fun q hq=>Nat.lt_of_lt_of_le (hk.flt q hq) hsize',hk.sf,hext.gl hk⟩
  ·by_cases hji:j=i
   ·subst hji
    have:oj=⟨ty,k+1,l'⟩:=by simpa [E',upd] using hj.symm
    subst this
    exact⟨dY,Fv,hsz⟩
   ·have hj0:E.h j=some oj:=by simpa [E',upd,hji] using hj
    obtain⟨k1,k2,k3⟩:=hk.obs j oj hj0
    refine⟨k1.keep hK (hhm j oj hj0).2 fun q hq=>hold' q (k1.lt hq) ?_,k2,k3⟩
    rintro rfl
    exact hk.sep j i oj _ q hji hj0 hi hq hrb
  ·obtain⟨YA,hj0⟩:=hsome j oj hj
   exact hk.out j YA q hj0 hq
  ·obtain⟨o1,h1⟩:=hsome j oj hj
   obtain⟨o2,h2⟩:=hsome j' YA hj'
   exact hk.sep j j' o1 o2 q hjj h1 h2 hq hq'
 ·intro j oj hj
  by_cases hji:j=i
  ·subst hji
   have:oj=⟨ty,k+1,l'⟩:=by simpa [E',upd] using hj.symm
   subst this
   exact⟨.inl (hhm j _ hi).1,T.ay (fun _ h=>h.elim) _ (dw hlf)⟩
  ·have hj0:E.h j=some oj:=by simpa [E',upd,hji] using hj
   exact⟨.inl (hhm j oj hj0).1,T.ay (fun _ h=>.inl h) _ (hhm j oj hj0).2⟩
end
section
variable {P:Program}
structure TabAt(P:Program)(f:Nat)(o:Option FnX):Prop where
 use: ∀ {b},o=some b-> ∃ fn c,P.funcs[f]? =some fn/\fn.body=some c/\comp P c=some b.code/\lg P fn.results.toList=some b.rs/\callable P f/\fn.ntmps=b.nt
theorem TabAt.leaf{n f:Nat}{c:dZ}{rs:List RV}{nt:Nat}(B:Body P n c rs nt):TabAt P f (bif Nat.beq f n then some ⟨c,rs,nt⟩ else none):=⟨fun {b} h=>by
 cases hb:Nat.beq f n with
 |false=>rw[hb] at h; cases h
 |true =>
  rw[hb] at h; cases h
  have:=Gf hb; subst this
  obtain⟨fn,c,h1,h2,h3,h4,h5⟩:=B.ex
  exact⟨fn,c,h1,h2,h3,h4,B.cl,h5⟩⟩
theorem TabAt.node{f:Nat}{c:Bool}{x y:Option FnX}(hx:TabAt P f x)(hy:TabAt P f y):TabAt P f (bif c then x else y):=⟨fun {b} h=>by
 cases c with
 |true=>exact hx.use h
 |false=>exact hy.use h⟩
end
section
variable {P:Program} {H:Type} {enc:TypeId×Value->H}
inductive Sh where
 |int
 |u64
 |str
 |bool
 |sl (k:Nat) (s:Sh)
 |st (l:List Sh)
mutual
def Sh.cells:Sh->Nat
 | .st l=>Sh.xM l
 |_=>1
def Sh.xM:List Sh->Nat
 |[]=>0
 |s::l=>s.cells+Sh.xM l
end
def Sh.kd:Sh->Nat
 | .st l=>Sh.xM l+1
 |_=>0
mutual
def Sh.fits(P:Program):Sh->TypeId->Bool
 | .int,t=>match P.underlying t with|some (.int .i64)=>true|_=>false
 | .u64,t=>match P.underlying t with|some (.int .u64)=>true|_=>false
 | .str,t=>match P.underlying t with|some .string=>true|_=>false
 | .bool,t=>match P.underlying t with|some .bool=>true|_=>false
 | .sl k s,t=>match P.underlying t with
  |some (.slice e)=>s.fits P e&&Nat.beq s.kd k&&Nat.beq (P.cellsOf e) s.cells&&Nat.blt 0 s.cells
  |_=>false
 | .st l,t=>match P.underlying t with
  |some (.struct fs)=>Sh.MP P l fs.toList 0&&Nat.beq (P.cellsOf t) (Sh.xM l)
  |_=>false
def Sh.MP(P:Program):List Sh->List Field->Nat->Bool
 |[],[],_=>true
 |s::l,f::fs,off=>s.fits P f.type&&Nat.beq f.offset off&&Nat.beq (P.cellsOf f.type) s.cells&&Sh.MP P l fs (off+s.cells)
 |_,_,_=>false
end
mutual
def Sh.aH:Sh->DataW H->T
 | .int,.lit (.int _ n)=>.int n
 | .u64,.lit (.int _ n)=>.lit (.int .u64 n)
 | .str,.lit (.string l)=>.lit (.string ⟨l.toArray⟩)
 | .bool,.lit (.bool b)=>.bool b
 | .sl k s,.slice es _=>.sl k false (es.map s.aH)
 | .sl k _,.nil=>.sl k false []
 | .st l,.agg ds=>.agg (Sh.DF l ds)
 |_,_=>.any
def Sh.DF:List Sh->List (DataW H)->List T
 |s::l,d::ds=>(s.aH d).cells++Sh.DF l ds
 |_,_=>[]
end
def Vj(v:Value):Prop:= ∀ n,v≠ .int .u8 n
mutual
def Sh.wf:Sh->DataW H->Prop
 | .int,d=> ∃ n,d= .lit (.int .i64 n)/\(Lit.int .i64 n).wf=true
 | .u64,d=> ∃ n,d= .lit (.int .u64 n)/\(Lit.int .u64 n).wf=true
 | .str,d=> ∃ l,d= .lit (.string l)
 | .bool,d=> ∃ b,d= .lit (.bool b)
 | .sl _ s,d=>d= .nil\/ ∃ es sp,d= .slice es sp/\ ∀ x∈es,s.wf x
 | .st l,d=> ∃ ds,d= .agg ds/\Sh.KT l ds
def Sh.KT:List Sh->List (DataW H)->Prop
 |[],ds=>ds=[]
 |s::l,ds=> ∃ d r,ds=d::r/\s.wf d/\Sh.KT l r
end
structure Rd(E:Env)(s:Sh)(d:DataW H)(cs:List Value):Prop where
 rep:aJ E (s.aH d) cs
 len:cs.length=s.cells
 one: ∀ v∈cs,v.oneCell'=true
 u8: ∀ v∈cs,Vj v
 free:(s.aH d).free=true
 kd:(s.aH d).kd=s.kd
 wf:s.wf d
structure RdL(E:Env)(l:List Sh)(ds:List (DataW H))(cs:List Value):Prop where
 rep:aW E (Sh.DF l ds) cs
 len:cs.length=Sh.xM l
 one: ∀ v∈cs,v.oneCell'=true
 u8: ∀ v∈cs,Vj v
 free:T.aY (Sh.DF l ds)=true
 cnt:(Sh.DF l ds).length=Sh.xM l
 wf:Sh.KT l ds
theorem QL{E:Env}{k:Nat}: ∀ {l:List T} {vs:List Value},l.length*bn k<=vs.length->(∀ j t,l[j]? =some t->t.kd=k/\(∀ v∈(vs.drop (j*bn k)).take (bn k),v.oneCell'=true)/\aJ E t ((vs.drop (j*bn k)).take (bn k)))->aB E k l vs:=by
 intro l
 induction l with
 |nil=>intro vs _ _; trivial
 |cons t ts ih =>
  intro vs hl H
  simp only[List.length_cons,Nat.add_mul,Nat.one_mul] at hl
  obtain⟨h1,h2,h3⟩:=H 0 t rfl
  simp only[Nat.zero_mul,List.drop_zero] at h2 h3
  refine⟨h1,by omega,h2,h3,ih (by simp; omega) fun j u hj=>?_⟩
  have:=H (j+1) u (by simpa using hj)
  rw[List.drop_drop]
  rw[Nat.add_mul,Nat.one_mul,Nat.add_comm (j*bn k)] at this
  exact this
theorem WV{E:Env}: ∀ {a b:List T} {x y:List Value},aW E a x->aW E b y->aW E (a++b) (x++y):=by
 intro a
 induction a with
 |nil=>intro b x y h1 h2; simp only[aW] at h1; subst h1; exact h2
 |cons t a ih =>
  intro b x y h1 h2
  simp only[aW] at h1
  obtain⟨hk,v,r,rfl,h3,h4,h5⟩:=h1
  simp only[List.cons_append,aW]
  exact⟨hk,v,r++y,rfl,h3,h4,ih h5 h2⟩
theorem WW{a b:List T}(ha:T.aY a=true)(hb:T.aY b=true):T.aY (a++b)=true:=by
 rw[gu] at *
 intro t ht
 rcases List.mem_append.1 ht with h|h
 ·exact ha t h
 ·exact hb t h
theorem QM{E:Env}{t:T}{cs:List Value}(h:aJ E t cs)(hl:t.kd=0->cs.length=1)(h1: ∀ v∈cs,v.oneCell'=true):aW E t.cells cs:=by
 have other: ∀ t:T,t.cells=[t]->t.kd=0->aJ E t cs->(t.kd=0->cs.length=1)->aW E t.cells cs:=by
  intro t e k h hl
  rw[e]
  have:=hl k
  match cs,this with
  |[v],_=>simp only[aW]; exact⟨k,v,[],rfl,h1 v (by simp),h,rfl⟩
 cases t with
 |agg l=>simp only[aJ] at h; exact h
 |_=>exact other _ rfl rfl h hl
theorem TY{t:T}(h:t.free=true):T.aY t.cells=true:=by
 cases t with
 |agg l=>exact h
 |_=>simp only[T.cells,T.aY,Bool.and_true]; exact h
theorem WX{t:T}:t.cells.length=bn t.kd:=by
 cases t with
 |agg l=>rfl
 |_=>rfl
theorem Sh.nT(s:Sh):bn s.kd=s.cells:=by
 cases s<;>rfl
theorem cell?_at{w:World}{a:Addr}{v:Value}(h:w.cell? a=some v): ∃ cur ty m,w.heap[a.block]? =some (.cells cur ty m)/\a.spot=none/\cur.toList[a.off]? =some v:=by
 unfold World.cell? at h
 split at h
 ·rename_i c t f e
  split at h
  ·cases h
  ·rename_i hs
   exact⟨c,t,f,e,by simpa using hs,by simpa using h⟩
 ·cases h
theorem MQ{w:World}{base:Nat}{a:Addr}{n:Nat}{cs:List Value}(h:w.cells? base a n=some cs)(hn:0<n): ∃ cur ty m,w.heap[a.block]? =some (.cells cur ty m)/\a.spot=none/\cs=(cur.toList.drop a.off).take n:=by
 obtain⟨_,hl,hc⟩:=World.cells?_some h
 have h0:=hc 0 hn
 have e0:a.add 0=a:=by simp[Addr.add]
 rw[e0,List.getElem?_eq_getElem (by omega)] at h0
 obtain⟨cur,ty,m,h1,h2,_⟩:=cell?_at h0
 refine⟨cur,ty,m,h1,h2,?_⟩
 have key: ∀ j,j<n->cur.toList[a.off+j]? =cs[j]? :=by
  intro j hj
  have:=hc j hj
  rw[List.getElem?_eq_getElem (by omega)] at this
  obtain⟨cur',ty',m',g1,g2,g3⟩:=cell?_at this
  have eb:(a.add j).block=a.block:=by unfold Addr.add; split<;>rfl
  have eo:(a.add j).off=a.off+j:=by
   obtain⟨b,o,sp⟩:=a
   simp only at h2; subst h2
   rw[Go.WideShapes.add_plain]
  rw[eb,h1] at g1
  cases g1
  rw[eo] at g3
  rw[g3,List.getElem?_eq_getElem (by omega)]
 apply List.ext_getElem?
 intro j
 by_cases hj:j<n
 ·rw[List.getElem?_take,if_pos hj,List.getElem?_drop,key j hj]
 ·rw[List.getElem?_eq_none (by omega),List.getElem?_eq_none (by simp; omega)]
def ET(E:Env):Prop:= ∀ b cur ty m,E.w.heap[b]? =some (.cells cur ty m)->(∃ v∈cur.toList,Vj v)->E.S b
theorem Zv{E:Env}{s:Sh}{k:Nat}{base:Nat}{spare:Nat->Bool}{held:Bool}(hS:ET E){t e:TypeId}(ht:P.underlying t=some (.slice e))(hk:s.kd=k)(hce:P.cellsOf e=s.cells)(hpos:0<s.cells)
  (ih: ∀ (n:Nat) (cs:List Value) (d:DataW H) (ps:List MemPlace),DataW.trod enc P E.w base spare held n e cs=some (d,ps)->Rd E s d cs)
  {n:Nat} {cs:List Value} {d:DataW H} {ps:List MemPlace} (h:DataW.trod enc P E.w base spare held n t cs=some (d,ps)):Rd E (.sl k s) d cs:=by
 rcases DataW.trod_slice ht h with ⟨rfl,hx⟩|⟨a,len,cap,elems,rest,m,_,rfl,hx,hb,hl,hm,hlen,hel,_,_⟩
 ·cases hx
  refine⟨?_,rfl,(fun v hv=>by rw[List.mem_singleton] at hv; subst hv; rfl),(fun v hv=>by rw[List.mem_singleton] at hv; subst hv; intro n e; cases e),rfl,rfl,.inl rfl⟩
  simp only[Sh.aH,aJ]
  exact⟨none,0,rfl,Nat.le_refl _,nofun,.inl trivial⟩
 ·cases hx
  have hlen':(elems.map (·.1)).length=len:=by simpa using hlen
  refine⟨?_,rfl,(fun v hv=>by rw[List.mem_singleton] at hv; subst hv; rfl),(fun v hv=>by rw[List.mem_singleton] at hv; subst hv; intro n e; cases e),rfl,rfl,.inr ⟨_,_,rfl,fun x hx=>?_⟩⟩
  rotate_left
  ·obtain⟨y,hy,rfl⟩:=List.mem_map.1 hx
   obtain⟨i,hi,rfl⟩:=List.getElem_of_mem hy
   have:=hel i (by omega)
   rw[List.getElem?_eq_getElem hi] at this
   obtain⟨cs',_,h2⟩:=Option.bind_eq_some_iff.1 this
   exact(ih _ _ _ _ h2).wf
  simp only[Sh.aH,aJ,List.length_map]
  refine⟨some a,cap,by rw[hlen],by omega,nofun,?_⟩
  by_cases h0:len=0
  ·left
   have:elems=[]:=List.length_eq_zero_iff.1 (by omega)
   rw[this]; rfl
  ·right
   have get: ∀ i,i<len-> ∃ cs',E.w.cells? base (a.add (i*s.cells)) s.cells=some cs'/\ ∃ x,elems[i]? =some x/\Rd E s x.1 cs':=by
    intro i hi
    have:=hel i hi
    rw[hce,List.getElem?_eq_getElem (by omega)] at this
    obtain⟨cs',h1,h2⟩:=Option.bind_eq_some_iff.1 this
    exact⟨cs',h1,elems[i],List.getElem?_eq_getElem (by omega),ih _ _ _ _ h2⟩
   obtain⟨cs0,c1,x0,_,r0⟩:=get 0 (by omega)
   obtain⟨cur,ty,mm,g1,g2,g3⟩:=MQ c1 hpos
   have ea:a.add (0*s.cells)=a:=by simp[Addr.add]
   rw[ea] at g1 g2 g3
   obtain⟨b,off,sp⟩:=a
   simp only at g1 g2 g3
   subst g2
   have hsub: ∀ i,i<len-> ∃ x,elems[i]? =some x/\Rd E s x.1 ((cur.toList.drop (off+i*s.cells)).take s.cells):=by
    intro i hi
    obtain⟨cs',q1,x,q2,q3⟩:=get i hi
    obtain⟨cur',ty',m',k1,k2,k3⟩:=MQ q1 hpos
    rw[Go.WideShapes.add_plain] at k1 k3
    simp only at k1 k3
    rw[g1] at k1; cases k1
    rw[k3] at q3
    exact⟨x,q2,q3⟩
   have hcur:len*s.cells<=(cur.toList.drop off).length:=by
    obtain⟨x,_,q⟩:=hsub (len-1) (by omega)
    have:=q.len
    rw[List.length_take,List.length_drop] at this
    rw[List.length_drop]
    have e:len*s.cells=(len-1)*s.cells+s.cells:=by
     conv=>lhs; rw[show len=(len-1)+1 by omega,Nat.add_mul,Nat.one_mul]
    omega
   refine⟨b,off,cur,ty,mm,rfl,hS b cur ty mm g1 ?_,g1,?_,?_⟩
   ·have hl0:=r0.len
    match hcs:cs0,hl0 with
    |[],hl0=>simp at hl0; omega
    |v::r,_ =>
     refine⟨v,?_,r0.u8 v (by simp)⟩
     have:v∈(cur.toList.drop off).take s.cells:=by rw[<- g3]; simp
     exact List.mem_of_mem_drop (List.mem_of_mem_take this)
   ·rw[bZ]
    intro t ht
    rw[List.mem_map] at ht
    obtain⟨d,hd,rfl⟩:=ht
    rw[List.mem_map] at hd
    obtain⟨x,hx,rfl⟩:=hd
    obtain⟨i,hi,rfl⟩:=List.getElem_of_mem hx
    obtain⟨x',q1,q2⟩:=hsub i (by omega)
    rw[List.getElem?_eq_getElem hi] at q1
    cases q1
    exact eu q2.free
   ·refine QL (by rw[List.length_map,List.length_map,hlen,<- hk,Sh.nT]; exact hcur) fun j t hj=>?_
    rw[<- hk,Sh.nT]
    have hjl:j<len:=by
     rcases Nat.lt_or_ge j len with h|h
     ·exact h
     ·rw[List.getElem?_eq_none (by simp; omega)] at hj; cases hj
    obtain⟨x,q1,q2⟩:=hsub j hjl
    rw[List.getElem?_map,List.getElem?_map,q1] at hj
    simp only[Option.map_some,Option.some.injEq] at hj
    subst hj
    rw[List.drop_drop]
    exact⟨q2.kd,q2.one,q2.rep⟩
mutual
theorem Sh.read{E:Env}{base:Nat}{spare:Nat->Bool}{held:Bool}(hS:ET E):(s:Sh)->(t:TypeId)->s.fits P t=true->(n:Nat)->(cs:List Value)->(d:DataW H)->(ps:List MemPlace) ->
  DataW.trod enc P E.w base spare held n t cs=some (d,ps)->Rd E s d cs
 | .int,t,hf,n,cs,d,ps,h=>by
  simp only[Sh.fits] at hf
  split at hf
  ·rename_i e
   obtain⟨z,rfl,hx,hwf⟩:=DataW.trod_int e h
   cases hx
   refine⟨by simp[Sh.aH,aJ],rfl,(fun v hv=>by rw[List.mem_singleton] at hv; subst hv; rfl),(fun v hv=>by rw[List.mem_singleton] at hv; subst hv; intro n e; cases e),rfl,rfl,⟨z,rfl,hwf⟩⟩
  ·cases hf
 | .u64,t,hf,n,cs,d,ps,h=>by
  simp only[Sh.fits] at hf
  split at hf
  ·rename_i e
   obtain⟨z,rfl,hx,hwf⟩:=DataW.trod_int e h
   cases hx
   refine⟨by simp[Sh.aH,aJ],rfl,(fun v hv=>by rw[List.mem_singleton] at hv; subst hv; rfl),(fun v hv=>by rw[List.mem_singleton] at hv; subst hv; intro n e; cases e),rfl,rfl,⟨z,rfl,hwf⟩⟩
  ·cases hf
 | .str,t,hf,n,cs,d,ps,h=>by
  simp only[Sh.fits] at hf
  split at hf
  ·rename_i e
   obtain⟨z,rfl,hx,_⟩:=DataW.trod_string e h
   cases hx
   refine⟨by simp[Sh.aH,aJ],rfl,(fun v hv=>by rw[List.mem_singleton] at hv; subst hv; rfl),(fun v hv=>by rw[List.mem_singleton] at hv; subst hv; intro n e; cases e),rfl,rfl,⟨_,rfl⟩⟩
  ·cases hf
 | .bool,t,hf,n,cs,d,ps,h=>by
  simp only[Sh.fits] at hf
  split at hf
  ·rename_i e
   obtain⟨z,rfl,hx⟩:=DataW.trod_bool e h
   cases hx
   refine⟨by simp[Sh.aH,aJ],rfl,(fun v hv=>by rw[List.mem_singleton] at hv; subst hv; rfl),(fun v hv=>by rw[List.mem_singleton] at hv; subst hv; intro n e; cases e),rfl,rfl,⟨_,rfl⟩⟩
  ·cases hf
 | .sl k s,t,hf,n,cs,d,ps,h=>by
  simp only[Sh.fits] at hf
  split at hf
  ·rename_i e he
   simp only[Bool.and_eq_true] at hf
   obtain⟨⟨⟨f1,f2⟩,f3⟩,f4⟩:=hf
   exact Zv hS he (Nat.eq_of_beq_eq_true f2) (Nat.eq_of_beq_eq_true f3) (Nat.blt_eq.mp f4) (Sh.read hS s e f1) h
  ·cases hf
 | .st l,t,hf,n,cs,d,ps,h=>by
  simp only[Sh.fits] at hf
  split at hf
  ·rename_i fs he
   simp only[Bool.and_eq_true] at hf
   obtain⟨xs,m,_,hx,hlen,hxl,hg⟩:=DataW.trod_struct he h
   cases hx
   have hct:=Nat.eq_of_beq_eq_true hf.2
   have R:=Sh.acv hS l fs.toList 0 hf.1 m cs xs (by simpa using hxl) (fun i f hi=>by
    have:=hg i f (by simpa using hi)
    rw[<- this]) (by rw[hlen,hct]; simp)
   simp only[List.drop_zero] at R
   refine⟨by simp only[Sh.aH,aJ]; exact R.rep,by rw[hlen,hct]; rfl,R.one,R.u8,R.free,?_,⟨_,rfl,R.wf⟩⟩
   show(Sh.DF l _).length+1=Sh.xM l+1
   rw[R.cnt]
  ·cases hf
theorem Sh.acv{E:Env}{base:Nat}{spare:Nat->Bool}{held:Bool}(hS:ET E):(l:List Sh)->(fs:List Field)->(off:Nat)->Sh.MP P l fs off=true->(n:Nat)->(cs:List Value)->(xs:List (DataW H×List MemPlace))->xs.length=fs.length ->
  (∀ (i:Nat) (f:Field),fs[i]? =some f->DataW.trod enc P E.w base spare held n f.type ((cs.drop f.offset).take (P.cellsOf f.type))=xs[i]?)->cs.length=off+Sh.xM l->RdL E l (xs.map (·.1)) (cs.drop off)
 |[],[],off,hf,n,cs,xs,hl,hx,hc=>by
  have:xs=[]:=List.length_eq_zero_iff.1 (by simpa using hl)
  subst this
  have:cs.drop off=[]:=List.drop_eq_nil_of_le (by rw[hc]; simp[Sh.xM])
  rw[this]
  exact⟨rfl,rfl,(fun v hv=>by cases hv),(fun v hv=>by cases hv),rfl,rfl,rfl⟩
 |s::l,f::fs,off,hf,n,cs,xs,hl,hx,hc=>by
  simp only[Sh.MP,Bool.and_eq_true] at hf
  obtain⟨⟨⟨f1,f2⟩,f3⟩,f4⟩:=hf
  have e2:=Nat.eq_of_beq_eq_true f2
  have e3:=Nat.eq_of_beq_eq_true f3
  match xs,hl with
  |x::xs,hl =>
   have h0:=hx 0 f rfl
   rw[e2,e3] at h0
   have R0:=Sh.read hS s f.type f1 n _ x.1 x.2 h0
   simp only[Sh.xM] at hc
   have R1:=Sh.acv hS l fs (off+s.cells) f4 n cs xs (by simpa using hl) (fun i g hi=>by
    have:=hx (i+1) g (by simpa using hi)
    simpa using this) (by omega)
   have e:cs.drop off=(cs.drop off).take s.cells++cs.drop (off+s.cells):=by
    rw[<- List.drop_drop,List.take_append_drop]
   rw[e]
   have h1:(s.aH x.1).kd=0->((cs.drop off).take s.cells).length=1:=by
    intro hk
    rw[R0.len,<- Sh.nT,<- R0.kd,hk]; rfl
   refine⟨?_,?_,?_,?_,?_,?_,⟨_,_,rfl,R0.wf,R1.wf⟩⟩
   ·simp only[List.map_cons,Sh.DF]
    exact WV (QM R0.rep h1 R0.one) R1.rep
   ·rw[List.length_append,R0.len,R1.len]; rfl
   ·intro v hv
    rcases List.mem_append.1 hv with h|h
    ·exact R0.one v h
    ·exact R1.one v h
   ·intro v hv
    rcases List.mem_append.1 hv with h|h
    ·exact R0.u8 v h
    ·exact R1.u8 v h
   ·simp only[List.map_cons,Sh.DF]
    exact WW (TY R0.free) R1.free
   ·simp only[List.map_cons,Sh.DF,List.length_append,WX,R0.kd,Sh.nT,R1.cnt]; rfl
 |[],_::_,_,hf,_,_,_,_,_,_=>by simp[Sh.MP] at hf
 |_::_,[],_,hf,_,_,_,_,_,_=>by simp[Sh.MP] at hf
end
end
open Go.ChangeShapes Go.WideShapes Go.RowKit
section
variable {P:Program} {H:Type} {enc:TypeId×Value->H}
theorem BP{W:World}(h:Lib.TabIs P W "strings.asciiSpace" .u8 Lib.asciiSpaceTab): ∀ g cs,xG P g=some cs-> ∃ ty m,W.heap[g]? =some (.cells cs ty m):=by
 intro g cs hg
 unfold xG at hg
 split at hg
 ·rename_i e
  cases hg
  unfold Lib.TabIs World.var? at h
  rw[e] at h
  simp only[Option.bind_some] at h
  split at h
  ·rename_i c ty m hc
   cases h
   exact⟨ty,m,hc⟩
  ·cases h
 ·cases hg
def Zw(P:Program)(W:World):Env:=⟨W,fun g=>g<W.heap.size/\xG P g=none,fun _=>.nilFunc,fun _=>0,no⟩
def ad2(P:Program):Fr P:= {s:=fun g=>(xG P g).isSome=true}
theorem Zx{g:Nat}{cs:Array Value}(h:xG P g=some cs): ∀ v∈cs.toList,¬ Vj v:=by
 unfold xG at h
 split at h
 ·cases h
  intro v hv hn
  simp only[List.mem_map] at hv
  obtain⟨z,_,rfl⟩:=hv
  exact hn z rfl
 ·cases h
theorem abA{W:World}(hgl: ∀ g cs,xG P g=some cs-> ∃ ty m,W.heap[g]? =some (.cells cs ty m)):ET (Zw P W):=by
 intro b cur ty m hb hv
 refine⟨(Array.getElem?_eq_some_iff.1 hb).1,?_⟩
 cases hg:xG P b with
 |none=>rfl
 |some cs =>
  obtain⟨ty',m',h⟩:=hgl b cs hg
  rw[show W.heap[b]? =_ from hb] at h
  cases h
  obtain⟨v,hv1,hv2⟩:=hv
  exact absurd hv2 (Zx hg v hv1)
theorem Zy{W:World}(hgl: ∀ g cs,xG P g=some cs-> ∃ ty m,W.heap[g]? =some (.cells cs ty m)):qI (ad2 P) (Zw P W):=by
 refine⟨(fun i ob hi=>by cases hi),(fun i ob g hi=>by cases hi),(fun i j oi oj g _ hi=>by cases hi),fun g hg=>hg.1,fun g hg=>?_,fun g hs hg=>?_,fun g cs hg=>⟨?_,hgl g cs hg⟩⟩
 ·obtain⟨cs,hc⟩:=Option.isSome_iff_exists.1 hg
  obtain⟨ty,m,h⟩:=hgl g cs hc
  exact(Array.getElem?_eq_some_iff.1 h).1
 ·have h1:=hs.2
  have h2:(xG P g).isSome=true:=hg
  rw[h1] at h2; cases h2
 ·show(xG P g).isSome=true
  rw[hg]; rfl
def Sh.args:List Sh->List (DataW H)->List T
 |s::l,d::ds=>s.aH d::Sh.args l ds
 |_,_=>[]
def Sh.QN(P:Program):List Sh->List TypeId->Bool
 |[],[]=>true
 |s::l,t::ts=>s.fits P t&&Sh.QN P l ts
 |_,_=>false
theorem abB{E:Env}{s:Sh}{t:TypeId}{d:DataW H}{v:Value}{W:World}{base:Nat}(hf:s.fits P t=true)(R:Rd E s d v.cells.toList)(hok:Value.okWide P W .any base t v):jV E (s.aH d) v:=by
 cases s with
 |st l =>
  simp only[Sh.fits] at hf
  split at hf
  ·rename_i fs he
   obtain⟨cs,rfl,_⟩:=okWide_struct he hok
   refine .inl ⟨by rw[R.kd]; exact Nat.succ_ne_zero _,cs,rfl,R.rep⟩
  ·cases hf
 |int =>
  simp only[Sh.fits] at hf
  split at hf
  ·rename_i he
   obtain⟨n,rfl⟩:=okWide_int he hok
   exact .inr ⟨R.kd,R.rep⟩
  ·cases hf
 |u64 =>
  simp only[Sh.fits] at hf
  split at hf
  ·rename_i he
   obtain⟨n,rfl⟩:=okWide_int he hok
   exact .inr ⟨R.kd,R.rep⟩
  ·cases hf
 |str =>
  simp only[Sh.fits] at hf
  split at hf
  ·rename_i he
   obtain⟨n,rfl⟩:=okWide_string he hok
   exact .inr ⟨R.kd,R.rep⟩
  ·cases hf
 |bool =>
  simp only[Sh.fits] at hf
  split at hf
  ·rename_i he
   obtain⟨n,rfl⟩:=okWide_bool he hok
   exact .inr ⟨R.kd,R.rep⟩
  ·cases hf
 |sl k s =>
  simp only[Sh.fits] at hf
  split at hf
  ·rename_i e he
   obtain⟨a,len,cap,rfl⟩:=okWide_slice he hok
   exact .inr ⟨R.kd,R.rep⟩
  ·cases hf
theorem Zz{E:Env}{base:Nat}{spare:Nat->Bool}{held:Bool}{b2:Nat}(hS:ET E): ∀ {Oy:List Sh} {ts:List TypeId} {vs:List Value} {ds:List (DataW H)} {ps:List MemPlace},Sh.QN P Oy ts=true->DataW.TrodAll enc P E.w base spare held ts vs ds ps ->
  (∀ (j:Nat) (t:TypeId) (v:Value),ts[j]? =some t->vs[j]? =some v->Value.okWide P E.w .any b2 t v)->bT E (Sh.args Oy ds) vs/\T.aY (Sh.args Oy ds)=true/\Sh.KT Oy ds:=by
 intro Oy
 induction Oy with
 |nil =>
  intro ts vs ds ps hf hA hok
  cases ts with
  |nil =>
   match vs,ds,hA with
   |[],[],_=>exact⟨rfl,rfl,rfl⟩
  |cons t ts=>cases hf
 |cons s Oy ih =>
  intro ts vs ds ps hf hA hok
  cases ts with
  |nil=>cases hf
  |cons t ts =>
   match vs,ds,hA with
   |v::vs,d::ds,⟨p,q,⟨n,h1⟩,h2,_⟩ =>
    simp only[Sh.QN,Bool.and_eq_true] at hf
    have R:=Sh.read hS s t hf.1 n _ d p h1
    obtain⟨i1,i2,i3⟩:=ih hf.2 h2 fun j t' v' a b=>hok (j+1) t' v' (by simpa using a) (by simpa using b)
    refine⟨?_,?_,⟨d,ds,rfl,R.wf,i3⟩⟩
    ·simp only[Sh.args,bU]
     exact⟨v,vs,rfl,abB hf.1 R (hok 0 t v rfl rfl),i1⟩
    ·simp only[Sh.args,T.aY,Bool.and_eq_true]
     exact⟨R.free,i2⟩
theorem WY{W:World}(hgl: ∀ g cs,xG P g=some cs-> ∃ ty m,W.heap[g]? =some (.cells cs ty m)){f:FuncId}{Oy:List Sh}{ts:List TypeId}{args:Array Value}{ds:List (DataW H)}{ps:List MemPlace}{b2:Nat}{u:Value}
  (hf:Sh.QN P Oy ts=true) (hA:DataW.TrodAll enc P W 0 (fun _=>true) true ts args.toList ds ps) (hok: ∀ (j:Nat) (t:TypeId) (v:Value),ts[j]? =some t->args[j]? =some v->Value.okWide P W .any b2 t v)
  (S:Sh.KT Oy ds->oH P f (Sh.args Oy ds) (.lit u)):Calls P f args W fun e W'=>e= .returned u/\Below W.heap.size W W':=by
 obtain⟨hr,hfr,hwf⟩:=Zz (E:=Zw P W) (abA hgl) hf hA (fun j t v a b=>hok j t v a (by simpa using b))
 obtain⟨_,_,hcall⟩:=(S hwf).call 0
 have:=hcall (ad2 P) (fun _=>False) (Zw P W) args.toList (Zy hgl) rfl hr (dw hfr) (tY _) (fun h=>h)
 refine this.mono ?_
 rintro e w' ⟨v,t,E2,rfl,rfl,⟨rfl,_⟩,hv,_,hext,_⟩
 refine⟨by rw[aF.1 hv],hext.os,hext.tape,hext.output,hext.size,fun g hg=>hext.w g ?_⟩
 cases hq:xG P g with
 |none=>exact .inl ⟨hg,hq⟩
 |some cs=>right; show(xG P g).isSome=true; rw[hq]; rfl
theorem KU(hl:laidOutB P=true){W W':World}(hb:Below W.heap.size W W'){sp:Nat->Bool}: ∀ {ts:List TypeId} {vs:List Value} {ds:List (DataW H)} {ps:List MemPlace},(∀ t∈ts,P.readableRec t=true/\t<P.types.size) ->
  DataW.TrodAll enc P W 0 (fun _=>true) true ts vs ds ps->(∀ x∈ps,x.block<W.heap.size)->(∀ x∈ps,sp x.block=true)->DataW.TrodAll enc P W' 0 sp true ts vs ds ps:=by
 intro ts
 induction ts with
 |nil =>
  intro vs ds ps _ h _ _
  match vs,ds,h with
  |[],[],h=>exact h
 |cons t ts ih =>
  intro vs ds ps hr h hlt hsp
  match vs,ds,h with
  |v::vs,d::ds,⟨p,q,h1,h2,e⟩ =>
   subst e
   refine⟨p,q,?_,ih (fun t ht=>hr t (by simp[ht])) h2 (fun x hx=>hlt x (by simp[hx])) (fun x hx=>hsp x (by simp[hx])),rfl⟩
   obtain⟨r1,r2⟩:=hr t (by simp)
   exact WideElems.Trod_stays hl r1 r2 h1 (fun x hx=>hb.same (hlt x (by simp[hx]))) (fun x hx=>hsp x (by simp[hx]))
theorem EU{W:World}(hgl: ∀ g cs,xG P g=some cs-> ∃ ty m,W.heap[g]? =some (.cells cs ty m)){f:FuncId}{fn:Func}{s:ChangeSpec}{Oy:List Sh}{args:Array Value}{ds gs:List (DataW H)}{before:List MemPlace}{b2:Nat}{tb:TypeId}
  (hl:laidOutB P=true) (hrd: ∀ t∈fn.params.toList,P.readableRec t=true/\t<P.types.size) (hvars:s.vars=[]) (hres:fn.resultTypes= #[tb]) (htb:P.underlying tb=some .bool)
  (hspec:s.fn H ds= {results:=[.lit (.bool true)],args:=ds})
  (hf:Sh.QN P Oy fn.params.toList=true) (hval: ∀ (j:Nat) (t:TypeId) (v:Value),fn.params[j]? =some t->args[j]? =some v->Value.okWide P W .any b2 t v)
  (hW:DataW.Whole enc P fn.params.toList s.vars false W args.toList ds gs before) (S:Sh.KT Oy ds->oH P f (Sh.args Oy ds) (.bool true)) :
  Calls P f args W fun e W'=> ∃ v,e= .returned v/\s.post enc P fn false true false false W args v W':=by
 have hW':=hW
 obtain⟨p,q,hA,hV,hpq,hfz,hnd⟩:=hW
 have hV0:gs=[]/\q=[]:=by
  rw[hvars] at hV
  cases gs with
  |nil=>exact⟨rfl,hV⟩
  |cons _ _=>exact hV.elim
 obtain⟨rfl,rfl⟩:=hV0
 subst hpq
 refine(WY hgl hf hA (fun j t v a b=>hval j t v (by simpa using a) b) S).mono ?_
 rintro e W' ⟨rfl,hb⟩
 have hlt: ∀ x∈p,x.block<W.heap.size:=fun x hx=>by simpa using hW'.lt x (by simp[hx])
 refine⟨_,rfl,?_⟩
 have hold: ∀ x∈p,(fun b=>decide (b<W.heap.size)) x.block=true:=fun x hx=>by simpa using hlt x hx
 refine⟨ds,[],p++[],[],p,[],hW',?_,?_,?_,World.keptBut_mono (fun x hx=>⟨by simpa using hx,?_⟩) (hb.frame (· ∈p)),fun h=>by cases h⟩
 ·rw[List.append_nil,hspec,hres]
  exact trodAll_mk1 (shut_bool htb true)
 ·rw[List.append_nil,hspec]
  exact KU hl hb hrd hA hlt hold
 ·rw[List.append_nil,hspec,hvars]; rfl
 ·right; simpa using hx
end
noncomputable def Tr.ZA(t:Tr):Nat->T :=
 Tr.rec (motive:=fun _=>Nat->T) (fun _=>T.un) (fun v _ _ gl gr n=>bif Nat.beq n 0 then v else bif Nat.beq (Nat.mod n 2) 1 then gl (Nat.div n 2) else gr (Nat.div (Nat.sub n 1) 2)) t
noncomputable def Tr.ZB(t:Tr):Nat->T->Tr :=
 Tr.rec (motive:=fun _=>Nat->T->Tr) (fun _ _=>.lf) (fun v l r gl gr n u=>bif Nat.beq n 0 then .nd u l r else bif Nat.beq (Nat.mod n 2) 1 then .nd v (gl (Nat.div n 2) u) r else .nd v l (gr (Nat.div (Nat.sub n 1) 2) u)) t
theorem Tr.Vk: ∀ (t:Tr) (n:Nat),t.ZA n=t.get n:=by
 intro t
 induction t with
 |lf=>intro n; rfl
 |nd v l r hl hr =>
  intro n
  show(bif Nat.beq n 0 then v else bif Nat.beq (Nat.mod n 2) 1 then l.ZA (Nat.div n 2) else r.ZA (Nat.div (Nat.sub n 1) 2))=_
  rw[hl,hr]; rfl
theorem Tr.Vl: ∀ (t:Tr) (n:Nat) (u:T),t.ZB n u=t.set n u:=by
 intro t
 induction t with
 |lf=>intro n u; rfl
 |nd v l r hl hr =>
  intro n u
  show(bif Nat.beq n 0 then Tr.nd u l r else bif Nat.beq (Nat.mod n 2) 1 then .nd v (l.ZB (Nat.div n 2) u) r else .nd v l (r.ZB (Nat.div (Nat.sub n 1) 2) u))=_
  rw[hl,hr]; rfl
noncomputable def XS.Oz(s:XS)(x:X):T:=X.rec (motive:=fun _=>T) (fun n=>s.fr.ZA n) (fun v=>v) x
theorem XS.ZC(s:XS):s.Oz=s.ev:=by
 funext x
 cases x with
 |t n=>exact Tr.Vk _ _
 |c v=>rfl
def afm(ev:X->T)(c a b:X):Option T :=
 match ev c with
 | .lit (.bool true)=>some (ev a)
 | .lit (.bool false)=>some (ev b)
 |_=>none
def bbX(ne:Bool)(x y:T):Option T :=
 match x,y with
 | .lit (.bool a),.lit (.bool b)=>some (.lit (.bool (bif ne then !(a==b) else a==b)))
 |_,_=>none
def agf:T->Option T
 | .lit (.bool b)=>some (.lit (.bool !b))
 |_=>none
def faX(hp:Hp)(off k:Nat):T->Option T
 | .ptr i j o=>xI (hp i).isSome (.ptr i j (Nat.add o off))
 | .ref kt t=>xI (!(Nat.beq kt 0)&&jH (bn kt) off k) (.ref k (t.part off k))
 |_=>none
def fvX(off k:Nat)(t:T):Option T:=xI (!(Nat.beq t.kd 0)&&jH (bn t.kd) off k) (t.part off k)
def iaX(hp:Hp)(k:Nat)(x i:T):Option T :=
 match x,i with
 | .sl k' _ l,.lit (.int _ n)=>xI (Nat.beq k' k&&N9 n l.length) (.ref k (l.getD n.toNat .any))
 | .own o,.lit (.int _ n)=>match hp o with|some ob=>xI (Nat.beq ob.k k&&N9 n ob.l.length) (.ptr o n.toNat 0)|none=>none
 | .lD o lo hi,.lit (.int _ n)=>match hp o with|some ob=>xI (Nat.beq ob.k k&&N9 n (Nat.sub hi lo)) (.ptr o (Nat.add lo n.toNat) 0)|none=>none
 |_,_=>none
def ldX(hp:Hp)(k:Nat)(x:T):Option T :=
 match x with
 | .ref k' t=>xI (Nat.beq k' k&&Nat.blt 0 (bn k)) t
 | .ptr i j off =>
  match hp i with
  |some ob =>
   bif Nat.blt j ob.l.length then
    bif Nat.beq off 0&&Nat.beq ob.k k then some (ob.l.getD j .any)
    else xI (!(Nat.beq ob.k 0)&&jH (bn ob.k) off k) ((ob.l.getD j .any).part off k)
   else none
  |none=>none
 |_=>none
def ncX(hp:Hp):T->Option T
 | .ptr i a b=>xI (hp i).isSome (.ptr i a b)
 | .ref a b=>some (.ref a b)
 | .fn a b=>some (.fn a b)
 |_=>none
def agh(hp:Hp)(str:Bool)(x:T):Option T :=
 match x with
 | .sl _ _ l=>xI (!str) (.lit (.int .i64 (.ofNat l.length)))
 | .own o=>match hp o with|some ob=>xI (!str&& !(Nat.beq ob.k 1000000007)) (.lit (.int .i64 (.ofNat ob.l.length)))|none=>none
 | .lD i lo hi=>xI (!str&&(hp i).isSome) (.lit (.int .i64 (.ofNat (Nat.sub hi lo))))
 | .lit (.string b)=>xI str (.lit (.int .i64 (.ofNat b.size)))
 |_=>none
def exX(x:T)(i:Nat):Option T:=match x with| .fV l=>xI (Nat.blt i l.length) (l.getD i .any)|_=>none
def fin1(s:XS)(d:Option Nat):Option T->Option XS
 |some t=>N8 t fun t=>s.put d t
 |none=>none
noncomputable def XS.abC(s:XS)(d:Option Nat)(t:T):Option XS :=
 match d with
 |some i=>bif Nat.blt i s.n then some ⟨s.fr.ZB i t,s.n,s.hp,s.nx,s.pin⟩ else none
 |none=>some s
noncomputable def xk(s:XS)(d:Option Nat):Option T->Option XS
 |some t=>N8 t fun t=>s.abC d t
 |none=>none
noncomputable def ZE(s:XS)(d:Option Nat):Option (T×XH)->Option XS
 |some (t,h)=>N8 t fun t=>match d with
  |some i=>bif Nat.blt i s.n then some ⟨s.fr.ZB i t,s.n,h,s.nx,s.pin⟩ else none
  |none=>some ⟨s.fr,s.n,h,s.nx,s.pin⟩
 |none=>none
noncomputable def yOp(cf:CF)(dr:Bool)(n:Nat)(d:Option Nat)(op:lI)(s:XS):Option XS :=
 match op with
 | .mv x=>xk s d (some (s.Oz x))
 | .pick c a b=>xk s d (afm s.Oz c a b)
 | .bin op x y=>xk s d (aaZ op (s.Oz x) (s.Oz y))
 | .bb ne x y=>xk s d (bbX ne (s.Oz x) (s.Oz y))
 | .not x=>xk s d (agf (s.Oz x))
 | .fa off k x=>xk s d (faX (lk s.hp) off k (s.Oz x))
 | .fv off k x=>xk s d (fvX off k (s.Oz x))
 | .ia k x i=>xk s d (iaX (lk s.hp) k (s.Oz x) (s.Oz i))
 | .ld k x=>xk s d (ldX (lk s.hp) k (s.Oz x))
 | .nc x=>xk s d (ncX (lk s.hp) (s.Oz x))
 | .len str x=>xk s d (agh (lk s.hp) str (s.Oz x))
 | .ex x i=>xk s d (exX (s.Oz x) i)
 | .call f xs=>ZE s d (cf dr n f (xs.map s.Oz) s.hp)
 |op=>Kt cf dr n d op s
theorem Vm{α:Type}(t:T)(k:T->α):N8 t k=k t:=by
 have hN: ∀ (n:Nat) (k:Nat->α),KQ n k=k n:=by intro n k; cases n<;>rfl
 unfold N8
 split<;>simp only[hN]
theorem Vo(s:XS)(d:Option Nat)(t:T):s.abC d t=s.put d t:=by
 cases d with
 |none=>rfl
 |some i=>simp only[XS.abC,XS.put,Tr.Vl]
theorem ZF(s:XS)(d:Option Nat)(t:Option T):xk s d t=fin1 s d t:=by
 cases t with
 |none=>rfl
 |some t=>simp only[xk,fin1,Vm,Vo]
theorem ZG(cf:CF)(dr:Bool)(n:Nat)(d:Option Nat)(f:FuncId)(ts:List T)(s:XS):ZE s d (cf dr n f ts s.hp)=CS cf dr n d f ts s:=by
 unfold CS
 cases cf dr n f ts s.hp with
 |none=>rfl
 |some p =>
  obtain⟨t,h⟩:=p
  simp only[ZE,Vm,XS.sF]
  cases d with
  |none=>rfl
  |some i=>simp only[Tr.Vl]
theorem ad3(cf:CF)(dr:Bool)(n:Nat)(d:Option Nat)(op:lI)(s:XS):yOp cf dr n d op s=Kt cf dr n d op s:=by
 cases op<;>first|rfl|(simp only[yOp,ZF,XS.ZC,ZG]; rfl)
def afn{α:Type}:List α->Bool
 |[]=>true
 |_=>false
noncomputable def yGo(cf:CF)(dr:Bool)(_m:Nat)(o:aC)(i:Nat)(s:XS)(k:Nat->XS->Option XS):Option XS :=
 bif bif o.fl||(o.ad||o.ar) then um dr o s else(match o.ne with|[]=>true|l=>neX s o.op.xs l) then
  match yOp cf (drX dr o) (Nat.add s.nx i) o.d o.op s with
  |some s'=>k (Nat.succ i) s'
  |none=>none
 else none
noncomputable def Vp(o:aC)(i:Nat)(s:XS)(k:Nat->XS->Option XS):Option XS :=
 match s.abC o.d T.un with
 |some s'=>k (Nat.succ i) s'
 |none=>none
noncomputable def ad4(cf:CF)(dr:Bool)(m:Nat)(o:aC)(d:Nat)(want:Bool)(i:Nat)(s:XS)(k:Nat->XS->Option XS):T->Option XS
 | .lit (.bool b)=>bif Nat.blt d s.n then(bif b==want then yGo cf dr m o i s k else Vp o i s k) else none
 | .lit (.tuple _)=>bif Nat.blt d s.n then Vp o i s k else none
 |_=>none
noncomputable def ZH(cf:CF)(dr:Bool)(m:Nat)(o:aC)(k:Nat->XS->Option XS)(i:Nat)(s:XS):Option XS :=
 match o.g with
 |none=>yGo cf dr m o i s k
 |some (d,want)=>ad4 cf dr m o d want i s k (s.fr.ZA d)
noncomputable def ZI(cf:CF)(dr:Bool)(m:Nat)(l:List aC):Nat->XS->Option XS :=
 List.rec (motive:=fun _=>Nat->XS->Option XS) (fun _ s=>KQ (Nat.add s.nx m) fun k=>some ⟨s.fr,s.n,s.hp,k,s.pin⟩) (fun o _ k=>ZH cf dr m o k) l
theorem Ua(cf:CF)(dr:Bool)(m:Nat)(o:aC)(i:Nat)(s:XS)(k:Nat->XS->Option XS) :
  yGo cf dr m o i s k=(bif um dr o s then match Kt cf (drX dr o) (Nat.add s.nx i) o.d o.op s with
    |some s'=>k (Nat.succ i) s'
    |none=>none
   else none):=by
 have e:(bif o.fl||(o.ad||o.ar) then um dr o s else(match o.ne with|[]=>true|l=>neX s o.op.xs l))=um dr o s:=by
  cases h:o.fl with
  |true=>rfl
  |false =>
   cases h2:o.ad with
   |true=>rfl
   |false =>
    cases h3:o.ar with
    |true=>rfl
    |false=>simp only[um,h,h2,h3,cond_false]; cases o.ne<;>rfl
 unfold yGo
 rw[e,ad3]
theorem abD(cf:CF)(dr:Bool)(m:Nat): ∀ (l:List aC) (i:Nat) (s:XS),ZI cf dr m l i s=Dw cf dr m l i s:=by
 intro l
 induction l with
 |nil=>intro i s; rfl
 |cons o r ih =>
  intro i s
  have hk:(fun i s=>ZI cf dr m r i s)=Dw cf dr m r:=funext fun i=>funext fun s=>ih i s
  show ZH cf dr m o (fun i s=>ZI cf dr m r i s) i s=_
  rw[hk]
  have hs: ∀ i s,Vp o i s (Dw cf dr m r)=(match s.put o.d T.un with|some s'=>Dw cf dr m r (Nat.succ i) s'|none=>none):=by
   intro i s; unfold Vp; rw[Vo]
  unfold ZH Dw
  cases o.g with
  |none=>exact Ua ..
  |some p =>
   obtain⟨d,want⟩:=p
   simp only[]
   rw[Tr.Vk]
   generalize s.fr.get d=t
   cases t with
   |lit v =>
    cases v<;>first|rfl|(simp only[ad4,Ua,hs]; done)|(simp only[ad4,Ua,hs]; rfl)
   |_=>rfl
def WZ(k:XS->Out):Out->Out
 | .go s=>k s
 |o=>o
def ZJ(a b:XS->Out)(s:XS):T->Out
 | .lit (.bool true)=>a s
 | .lit (.bool false)=>b s
 |_=>.bad
def ad5(id:Nat):Out->Out
 | .ex j s'=>bif Nat.beq j id then .go s' else .ex j s'
 |o=>o
def afo:Option XS->Out
 |some s=>.go s
 |none=>.bad
noncomputable def QO(m:Mlt)(body:XS->Out)(n:Nat):XS->Out :=
 Nat.rec (motive:=fun _=>XS->Out) (fun _=>.bad) (fun _ k s=>WZ k (body (s.KR m))) n
noncomputable def yr(cf:CF)(big:Nat)(c:dZ):XS->Out :=
 dZ.rec (motive:=fun _=>XS->Out) (fun s=>.go s) (fun dr ops s=>afo (ZI cf dr ops.length ops 0 s)) (fun _ _ fa fb s=>WZ fb (fa s))
  (fun c _ _ fa fb s=>ZJ fa fb s (s.Oz c)) (fun id _ fb s=>ad5 id (fb s)) (fun id s=>.ex id s) (fun b fb s=>QO (GV b) fb big s) (fun s=>.rt s) c
theorem ZK(m:Mlt)(body:XS->Out): ∀ (n:Nat) (s:XS),QO m body n s=iter m body n s:=by
 intro n
 induction n with
 |zero=>intro s; rfl
 |succ n ih =>
  intro s
  have hk:QO m body n=iter m body n:=funext fun s=>ih s
  show WZ (QO m body n) (body (s.KR m))=_
  rw[hk]
  unfold WZ
  simp only[iter]
  split<;>rename_i h<;>simp[h]
theorem acw(cf:CF)(big:Nat): ∀ (c:dZ) (s:XS),yr cf big c s=xr cf big c s:=by
 intro c
 induction c with
 |skip=>intro s; rfl
 |reg dr ops =>
  intro s
  show afo (ZI cf dr ops.length ops 0 s)=_
  rw[abD]
  simp only[xr]
  cases Dw cf dr ops.length ops 0 s<;>rfl
 |seq a b ha hb =>
  intro s
  show WZ (yr cf big b) (yr cf big a s)=_
  rw[ha,show yr cf big b=xr cf big b from funext hb]
  simp only[xr]
  unfold WZ
  split<;>rename_i h<;>simp[h]
 |cond x a b ha hb =>
  intro s
  show ZJ (yr cf big a) (yr cf big b) s (s.Oz x)=_
  rw[XS.ZC,show yr cf big b=xr cf big b from funext hb,show yr cf big a=xr cf big a from funext ha]
  simp only[xr]
  unfold ZJ
  split<;>rename_i h<;>simp[h]
 |blk id b hb =>
  intro s
  show ad5 id (yr cf big b s)=_
  rw[hb]
  simp only[xr]
  unfold ad5
  split<;>rename_i h<;>simp[h]
 |exit id=>intro s; rfl
 |loop b hb =>
  intro s
  show QO (GV b) (yr cf big b) big s=_
  rw[ZK,show yr cf big b=xr cf big b from funext hb]
  simp only[xr]
 |ret=>intro s; rfl
noncomputable def yP(K:Know)(cf:CF)(dr:Bool)(n:Nat)(f:FuncId)(ts:List T):Option (T×Option Ob) :=
 match K.UW n f ts with
 |some r=>bif dr&&r.2.isSome then none else some r
 |none =>
  match K.tab f with
  |none=>none
  |some b =>
   bif Nat.ble ts.length b.nt then
    match yr cf K.big b.code (zH b ts [] 0) with
    | .go s=>TG n dr b.rs s
    | .rt s=>TG n dr b.rs s
    |_=>none
   else none
noncomputable def yI(K:Know)(cf:CF)(n:Nat)(f:FuncId)(ts:List T)(h:XH):Option (T×XH) :=
 match K.YO n f ts h with
 |some r=>some r
 |none =>
  match K.tab f with
  |none=>none
  |some b =>
   bif T.Kv n ts&&hLt n h&&Nat.ble ts.length b.nt then
    match yr cf K.big b.code (zH b ts h n) with
    | .go s=>TI n h b.rs s
    | .rt s=>TI n h b.rs s
    |_=>none
   else none
noncomputable def yf(K:Know):Nat->CF
 |0=>fun _ _ _ _ _=>none
 |d+1=>fun dr n f ts h =>
  bif T.aY ts then
   match yP K (yf K d) dr n f ts with
   |some (t,o)=>some (t,YP n h o)
   |none=>none
  else bif K.wr f then(bif dr then none else yI K (yf K d) n f ts h)
  else bif T.aY (T.AU h ts) then
   match yP K (yf K d) dr n f (T.AU h ts) with
   |some (t,o)=>bif t.hard&&YQ o then some (t,YP n h o) else(bif dr then none else yI K (yf K d) n f ts h)
   |none=>bif dr then none else yI K (yf K d) n f ts h
  else bif dr then none else yI K (yf K d) n f ts h
theorem ZL(K:Know)(cf:CF)(dr:Bool)(n:Nat)(f:FuncId)(ts:List T):yP K cf dr n f ts=WJ K cf dr n f ts:=by
 unfold yP WJ; simp only[acw]; rfl
theorem afp(K:Know)(cf:CF)(n:Nat)(f:FuncId)(ts:List T)(h:XH):yI K cf n f ts h=Oc K cf n f ts h:=by
 unfold yI Oc; simp only[acw]; rfl
theorem acy(K:Know): ∀ d,yf K d=xf K d:=by
 intro d
 induction d with
 |zero=>rfl
 |succ d ih =>
  funext dr n f ts h
  simp only[yf,xf,ih,ZL,afp]; rfl
end Go.Ab
