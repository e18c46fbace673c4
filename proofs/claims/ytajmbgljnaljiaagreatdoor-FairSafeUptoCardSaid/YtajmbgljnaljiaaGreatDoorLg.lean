/-
 The typed layer, part 9: contracts of functions; loops.
-/
import Derived.Defers
import Derived.Shelf.SlSortCmp.WholeK
import Derived.Deep.Slices
import Derived.Carry
import Derived.RowKit
import Derived.Stop.LaidErr
import Derived.Deep.DeepHandedRow
import Derived.Deep.DeepWitnessRowRef
import Derived.Lib.LaidTab
import Derived.Test.YtajmbgljnaljiaaGreatDoorLf
import Derived.Test.YtajmbgljnaljiaaGreatDoorLd
import Derived.Test.YtajmbgljnaljiaaGreatDoorLe
namespace Go.Ab
section
variable {P:Program}
structure Body(P:Program)(f:FuncId)(ac:eu)(rs:List RV)(nt:Nat):Prop where
 ex: ∃ fn c,P.funcs[f]? =some fn/\fn.body=some c/\comp P c=some ac/\kM P fn.results.toList=some rs/\fn.ntmps=nt
 cl:callable P f
 dst:rC nt ac=true
def ZN(m:Fm)(h:Hz):RV->Option V
 | .slot t=>m.get t
 | .cell a k=>match m.get a with
  |some v=>match ldZ h k v with|some (u,.no)=>some u|_=>none
  |none=>none
def U7(m:Fm)(h:Hz):List RV->Option (List V)
 |[]=>some []
 |r::rs=>match ZN m h r,U7 m h rs with
  |some v,some l=>some (v::l)
  |_,_=>none
def resV(m:Fm)(h:Hz)(rs:List RV):Option V :=
 match U7 m h rs with
 |some [v]=>some v
 |some l=>some (.fP l)
 |none=>none
theorem ZO{m:Fm}{h:Hz}{s:AS}(R:Rp m s.fr)(hh:s.hp=h.ay){r:RV}{v:V}(q:ZN m h r=some v):r.ok s/\r.val s=v.aG:=by
 cases r with
 |slot t=>exact⟨trivial,R.getD q⟩
 |cell a k =>
  simp only[ZN] at q
  split at q
  ·rename_i u hu
   split at q
   ·rename_i w hw
    cases q
    have:=TI (x:=.t a) hh hw trivial (R.ev (x:=.t a) hu)
    exact this
   ·cases q
  ·cases q
theorem QD{m:Fm}{h:Hz}{s:AS}(R:Rp m s.fr)(hh:s.hp=h.ay): ∀ {rs:List RV} {l:List V},U7 m h rs=some l->BU s rs/\rs.map (RV.val s)=V.bn l:=by
 intro rs
 induction rs with
 |nil=>intro l q; cases q; exact⟨trivial,rfl⟩
 |cons r rs ih =>
  intro l q
  simp only[U7] at q
  split at q
  ·rename_i v l' h1 h2
   cases q
   obtain⟨a1,a2⟩:=ZO R hh h1
   obtain⟨b1,b2⟩:=ih h2
   exact⟨⟨a1,b1⟩,by simp only[List.map_cons,V.bn]; rw[a2,b2]⟩
  ·cases q
theorem U8{m:Fm}{h:Hz}{s:AS}(R:Rp m s.fr)(hh:s.hp=h.ay){rs:List RV}{v:V}(q:resV m h rs=some v):BU s rs/\resT s rs=v.aG:=by
 unfold resV at q
 split at q
 ·rename_i u e
  cases q
  obtain⟨a,b⟩:=QD R hh e
  refine⟨a,?_⟩
  cases rs with
  |nil=>simp[V.bn] at b
  |cons r rs =>
   cases rs with
   |nil=>simp only[List.map_cons,List.map_nil,V.bn,List.cons.injEq,and_true] at b; exact b
   |cons r' rs=>simp[V.bn] at b
 ·rename_i l hne e
  cases q
  obtain⟨a,b⟩:=QD R hh e
  refine⟨a,?_⟩
  match rs,b,e with
  |[],b,_=>simp only[resT,V.aG]; rw[b]
  |[r],b,e =>
   cases l with
   |nil=>simp[V.bn] at b
   |cons u l =>
    cases l with
    |nil=>exact absurd rfl (hne u)
    |cons w l=>simp[V.bn] at b
  |r::r'::rs,b,_=>simp only[resT,V.aG]; rw[b]
 ·cases q
structure ak(res v:V)(h:Hz):Prop where
 ok:T.sub (fun _=>True) h.ay res.aG v.aG
def afT(rs:List RV)(res:V):Qz
 | .exit _,_,_,_=>False
 |_,m,h,_=>match resV m h rs with
  |some v=>v.seq fun v=>ak res v h
  |none=>False
def FW:Nat->List V->Fm
 |_,[]=>[]
 |i,v::r=>(i,v)::FW (i+1) r
theorem TM: ∀ {l:List V} {i j:Nat} {v:V},(FW i l).get j=some v-> ∃ k,j=i+k/\l[k]? =some v:=by
 intro l
 induction l with
 |nil=>intro i j v q; cases q
 |cons u r ih =>
  intro i j v q
  simp only[FW,Fm.get] at q
  cases hb:Nat.beq i j with
  |true=>rw[hb] at q; cases q; exact⟨0,(iL hb).symm,rfl⟩
  |false =>
   rw[hb] at q
   obtain⟨k,e1,e2⟩:=ih q
   exact⟨k+1,by omega,by simpa using e2⟩
theorem JJ{l:List V}{n:Nat}:Rp (FW 0 l) (V.bn l++List.replicate n T.un):=by
 intro i v q
 obtain⟨k,e1,e2⟩:=TM q
 have e:i=k:=by omega
 subst e
 have hk:i<l.length:=(List.getElem?_eq_some_iff.1 e2).1
 rw[List.getElem?_append_left (by rw[fB]; exact hk),je,List.getElem?_map,e2]
 rfl
theorem acd:(no:Hp)=Hz.ay []:=rfl
@[reducible] def aj(P:Program)(f:FuncId)(args:List V)(res:V):Prop:=qL P f (V.bn args) res.aG
theorem aj.of{f:FuncId}{ac:eu}{rs:List RV}{nt:Nat}{args:List V}{res:V}(B:Body P f ac rs nt)(hn:args.length<=nt)(hf:V.bC args=true)(hr:res.free=true)(H:az P nt 0 ac (afT rs res) (FW 0 args) [] 0):aj P f args res:=by
 obtain⟨fn,c,h1,h2,h3,h4,h5⟩:=B.ex
 have GU:res.aG.ids (fun _=>False):=dU (V.qK res hr)
 refine qY.Hq (o:=none) h1 h2 h3 h4 B.cl h5 (V.kZ args hf) (fun _ _=>Tc _ GU) (fun _=>T.bD (fun _ h=>h.elim) _ GU) (fun _ h=>by cases h) ?_
 have:=vW (P:=P) (N:=nt) (pn:=0) (s:=⟨V.bn args++List.replicate (nt-(V.bn args).length) T.un,no,0,0⟩) B.dst (by simp[fB]; omega) JJ acd rfl H
 refine oV ?_ this
 rintro e s ⟨m,h,a1,a2,a3,a4,a5⟩
 have key: ∀ {m h},Rp m s.fr->s.hp=Hz.ay h->(match resV m h rs with|some v=>v.seq fun v=>ak res v h|none=>False)->BU s rs/\T.sub (fun _=>True) s.hp res.aG (resT s rs):=by
  intro m h a2 a3 q
  split at q
  ·rename_i v hv
   rw[V.seq_eq] at q
   obtain⟨b1,b2⟩:=U8 a2 a3 hv
   exact⟨b1,by rw[b2,a3]; exact q.ok⟩
  ·exact q.elim
 cases e with
 |exit j=>exact a5.elim
 |normal=>exact key a2 a3 a5
 |ret=>exact key a2 a3 a5
theorem ak.int{a b:Int}{h:Hz}(e:a=b):ak (.int a) (.int b) h:=⟨by subst e; exact dP _⟩
theorem ak.bool{a b:Bool}{h:Hz}(e:a=b):ak (.bool a) (.bool b) h:=⟨by subst e; exact dP _⟩
theorem ak.row{a b:Rw}{k:Nat}{f:Bool}{h:Hz}(e:a=b):ak (.row k false a) (.row k f b) h:=⟨by
 subst e; simp only[V.aG,T.sub]; exact⟨.inl trivial,.inl trivial,fun h=>by cases h⟩⟩
theorem ah.pure{dr:Bool}{f:FuncId}{args:List V}{res:V}{h:Hz}{n:Nat}{K:V->Hz->Prop}{KW:Nat->V->Hz->Prop}(S:aj P f args res)(hr:res.free=true)(hK:K res h):ah P dr none f args h n K KW :=
 ⟨.inl (qY.use S (dS _) ⟨res,h,rfl,rfl,fun _=>⟨rfl,V.qK res hr⟩,hK⟩)⟩
theorem ah.iD{dr:Bool}{b:Bool}{f:FuncId}{args:List V}{res:V}{h:Hz}{n:Nat}{K:V->Hz->Prop}{KW:Nat->V->Hz->Prop}(S:b=true->aj P f args res)(hr:res.free=true)(hK:K res h):ah P dr (some b) f args h n K KW :=
 ⟨.inl (.inl ⟨res,fun e=>qY.use (S e) (dS _) ⟨rfl,rfl⟩,hr,hK⟩)⟩
theorem Ii.pure{f:FuncId}{args:List V}{res:V}{h:Hz}{n:Nat}{K:V->Hz->Prop}(S:aj P f args res)(hr:res.free=true)(hK:K res h):Ii P f args h n K :=
 ⟨res,none,T.bD (fun _ h=>h.elim) _ (dU (V.qK res hr)),(fun _ h=>by cases h),fun hp _=>(qY.frame S hp n),hK⟩
theorem Ii.row{f:FuncId}{args:List V}{h:Hz}{n ty k:Nat}{r:Rw}{K:V->Hz->Prop}(S:qY P f (V.bn args) (fun n=>.own n) (some ⟨ty,k,r.bn⟩))(hK:K (.own n) ((n,some (.row ty k r []))::h)):Ii P f args h n K :=
 ⟨.own n,some (.row ty k r []),rfl,(fun ob e=>by cases e; simp only[OV.aF,V.bn,List.append_nil]; exact S.ob _ rfl),fun hp _=>by
  have:=qY.frame S hp n
  simpa [OV.aF,V.bn,V.aG] using this,hK⟩
def JK(m:Fm):List Nat->Fm->(Fm->Prop)->Prop
 |[],acc,K=>K acc
 |d::r,acc,K=>match m.get d with
  |some v=>v.seq fun v=>JK m r ((d,v)::acc) K
  |none=>False
theorem Bq{m:Fm}: ∀ {l:List Nat} {acc:Fm} {K:Fm->Prop},JK m l acc K->(∀ i v,acc.get i=some v->m.get i=some v)-> ∃ b,K b/\ ∀ i v,Fm.get i b=some v->m.get i=some v:=by
 intro l
 induction l with
 |nil=>intro acc K q ha; exact⟨acc,q,ha⟩
 |cons d r ih =>
  intro acc K q ha
  simp only[JK] at q
  split at q
  ·rename_i v hv
   rw[V.seq_eq] at q
   refine ih q ?_
   intro i u hu
   simp only[Fm.get] at hu
   cases hb:Nat.beq d i with
   |true=>rw[hb] at hu; cases hu; rw[<- iL hb]; exact hv
   |false=>rw[hb] at hu; exact ha i u hu
  ·exact q.elim
def MB(m':Fm):Fm->Prop
 |[]=>True
 |p::r=>(∃ v,m'.get p.1=some v/\p.2.aG=v.aG)/\MB m' r
theorem MC{m':Fm}: ∀ {m0:Fm},MB m' m0-> ∀ {i:Nat} {v:V},m0.get i=some v-> ∃ u,m'.get i=some u/\v.aG=u.aG:=by
 intro m0
 induction m0 with
 |nil=>intro _ i v q; cases q
 |cons p r ih =>
  intro hs i v q
  simp only[Fm.get] at q
  cases hb:Nat.beq p.1 i with
  |true=>rw[hb] at q; cases q; rw[<- iL hb]; exact hs.1
  |false=>rw[hb] at q; exact ih hs.2 q
def ZP(nx N:Nat):Fm->Bool
 |[]=>true
 |p::r=>T.lt nx p.2.aG&&Nat.blt p.1 N&&ZP nx N r
theorem wP{nx N:Nat}: ∀ {m:Fm},ZP nx N m=true-> ∀ {i:Nat} {v:V},m.get i=some v->T.lt nx v.aG=true/\i<N:=by
 intro m
 induction m with
 |nil=>intro _ i v q; cases q
 |cons p r ih =>
  intro hs i v q
  simp only[ZP,Bool.and_eq_true] at hs
  simp only[Fm.get] at q
  cases hb:Nat.beq p.1 i with
  |true=>rw[hb] at q; cases q; exact⟨hs.1.1,by rw[<- iL hb]; simpa using hs.1.2⟩
  |false=>rw[hb] at q; exact ih hs.2 q
def wB(N:Nat)(m:Fm):List T:=(List.range N).map fun i=>match m.get i with|some v=>v.aG|none=>.any
theorem yF{N:Nat}{m:Fm}:(wB N m).length=N:=by simp[wB]
theorem EC{N:Nat}{m:Fm}(hN: ∀ i v,m.get i=some v->i<N):Rp m (wB N m):=by
 intro i v q
 simp only[wB,List.getElem?_map,List.getElem?_range (hN i v q),Option.map_some,q]
theorem U9{Z:Nat->Prop}{h:Hp}: ∀ {a b:List T},a.length=b.length->(∀ (i:Nat) (t u:T),a[i]? =some t->b[i]? =some u->T.sub Z h t u)->T.dM Z h a b:=by
 intro a
 induction a with
 |nil=>intro b hl _; cases b with|nil=>trivial|cons _ _=>simp at hl
 |cons t a ih =>
  intro b hl H
  cases b with
  |nil=>simp at hl
  |cons u b=>exact⟨H 0 t u rfl rfl,ih (by simpa using hl) fun i t u h1 h2=>H (i+1) t u (by simpa using h1) (by simpa using h2)⟩
theorem Va{Z:Nat->Prop}{h:Hp}{t:T}:T.sub Z h .any t:=by cases t<;>simp[T.sub]
theorem ZQ{N:Nat}{m0 m:Fm}{fr:List T}{Z:Nat->Prop}{h:Hp}(hl:fr.length=N)(R:Rp m fr)(hs: ∀ i v,m0.get i=some v-> ∃ u,m.get i=some u/\v.aG=u.aG):T.dM Z h (wB N m0) fr:=by
 refine U9 (by rw[yF,hl]) fun i t u h1 h2=>?_
 simp only[wB,List.getElem?_map] at h1
 have hi:i<N:=by
  rcases Nat.lt_or_ge i N with h|h
  ·exact h
  ·rw[List.getElem?_eq_none (by simpa using h)] at h1; cases h1
 rw[List.getElem?_range hi] at h1
 simp only[Option.map_some,Option.some.injEq] at h1
 split at h1
 ·rename_i v hv
  obtain⟨w,hw,e⟩:=hs i v hv
  have:=R i w hw
  rw[h2] at this
  simp only[Option.some.injEq] at this
  subst h1; rw[this,e]; exact dP _
 ·subst h1; exact Va
theorem ED{N nx:Nat}{m:Fm}(hg: ∀ i v,m.get i=some v->T.lt nx v.aG=true):T.aJ (· <nx) (wB N m):=by
 rw[cO]
 intro t ht
 simp only[wB,List.mem_map] at ht
 obtain⟨i,_,e⟩:=ht
 split at e
 ·rename_i v hv; subst e; exact Jj (hg i v hv)
 ·subst e; simp[T.ids]
def OV.good(nx:Nat):OV->Bool
 | .row _ k r x=>(match r with| .nil=>true|r=>Nat.beq r.kd k)&&Gf k x&&T.JX nx (V.bn x)&& !(Nat.beq k dI)
 | .box _ k v=>Gf k [v]&&T.lt nx v.aG&& !(Nat.beq k dI)
 | .map _ _ x=>x.all fun e=>T.lt nx e.2.aG
 | .gen _ k x=>Gf k x&&T.JX nx (V.bn x)&& !(Nat.beq k dI)
def Gx(nx:Nat):Hz->Bool
 |[]=>true
 |(i,some o)::r=>Nat.blt i nx&&o.good nx&&Gx nx r
 |(_,none)::r=>Gx nx r
theorem EF{n:Nat}: ∀ {l:List T},T.JX n l=true->T.aJ (· <n) l:=by
 intro l
 induction l with
 |nil=>intro _; trivial
 |cons t l ih =>
  intro q
  simp only[T.JX,Bool.and_eq_true] at q
  exact⟨Jj q.1,ih q.2⟩
theorem Rw.ids{M:Nat->Prop}(r:Rw):T.aJ M r.bn:=by
 rw[cO]
 intro t ht
 cases r<;>simp only[Rw.bn,List.mem_map,List.not_mem_nil] at ht<;>obtain⟨x,_,rfl⟩:=ht<;>simp[eS,T.ids,T.aJ,Td,Ql,LY,Tf,Hr,eG]
theorem Rw.kds{r:Rw}: ∀ t∈r.bn,t.kd=r.kd:=by
 intro t ht
 cases r<;>simp only[Rw.bn,List.mem_map,List.not_mem_nil] at ht<;>obtain⟨x,_,rfl⟩:=ht<;>rfl
theorem Vb{k:Nat}{l:List V}(q:Gf k l=true): ∀ t∈V.bn l,t.kd=k:=by
 intro t ht
 rw[je,List.mem_map] at ht
 obtain⟨v,hv,rfl⟩:=ht
 exact V.Oe (HY q v hv)
theorem Oj{k:Nat}{l:List T}(hk:k≠dI)(h: ∀ t∈l,t.kd=k):XC k l=true:=by
 unfold XC
 have:(k==1000000007)=false:=by simpa using hk
 rw[this]; simp only[cond_false,List.all_eq_true,beq_iff_eq]; exact h
theorem OV.EG{nx:Nat}{o:OV}(q:o.good nx=true):T.aJ (· <nx) o.aF.l/\XC o.aF.k o.aF.l=true:=by
 cases o with
 |row ty k r x =>
  simp only[OV.good,Bool.and_eq_true,Bool.not_eq_true'] at q
  obtain⟨⟨⟨q1,q2⟩,q3⟩,q4⟩:=q
  simp only[OV.aF]
  refine⟨eU.2 ⟨r.ids,EF q3⟩,Oj (Nat.ne_of_beq_eq_false q4) fun t ht=>?_⟩
  rcases List.mem_append.1 ht with ht|ht
  ·split at q1
   ·cases ht
   ·rw[<- iL q1]; exact Rw.kds t ht
  ·exact Vb q2 t ht
 |box ty k v =>
  simp only[OV.good,Bool.and_eq_true,Bool.not_eq_true'] at q
  obtain⟨⟨q1,q2⟩,q3⟩:=q
  simp only[OV.aF]
  refine⟨⟨Jj q2,trivial⟩,Oj (Nat.ne_of_beq_eq_false q3) fun t ht=>?_⟩
  rw[List.mem_singleton] at ht; subst ht; exact Oi q1
 |gen ty k x =>
  simp only[OV.good,Bool.and_eq_true,Bool.not_eq_true'] at q
  obtain⟨⟨q2,q3⟩,q4⟩:=q
  simp only[OV.aF]
  exact⟨EF q3,Oj (Nat.ne_of_beq_eq_false q4) (Vb q2)⟩
 |map ty es x =>
  simp only[OV.good,List.all_eq_true] at q
  simp only[OV.aF]
  refine⟨?_,?_⟩
  ·rw[cO]
   intro t ht
   rcases List.mem_append.1 ht with ht|ht
   ·rw[List.mem_map] at ht
    obtain⟨e,_,rfl⟩:=ht
    simp[N9,T.ids,T.aJ]
   ·rw[List.mem_map] at ht
    obtain⟨e,he,rfl⟩:=ht
    simp only[abV,T.ids,T.aJ]; exact⟨trivial,Jj (q e he),trivial⟩
  ·unfold XC
   simp[dI,fV,N9,abV]
theorem EH{nx:Nat}: ∀ {h:Hz},Gx nx h=true->HpG nx h.ay:=by
 intro h
 induction h with
 |nil=>intro _ i ob e; simp[Hz.ay,Hz.get] at e
 |cons p r ih =>
  obtain⟨j,o⟩:=p
  intro q
  rw[bQ]
  cases o with
  |none=>exact abG (ih q)
  |some o =>
   simp only[Gx,Bool.and_eq_true] at q
   obtain⟨g1,g2⟩:=OV.EG q.1.2
   exact abE (ih q.2) (by simpa using q.1.1) g1 g2
def Au(nx:Nat):Hz->Hz
 |[]=>[]
 |(i,o)::r=>bif Nat.blt i nx then(i,o)::Au nx r else Au nx r
theorem JL{nx i:Nat}(hi:i<nx): ∀ {h:Hz},(Au nx h).get i=h.get i:=by
 intro h
 induction h with
 |nil=>rfl
 |cons p r ih =>
  obtain⟨j,o⟩:=p
  simp only[Au]
  cases hb:Nat.blt j nx with
  |true=>simp only[cond_true,Hz.get]; cases Nat.beq j i<;>simp[ih]
  |false =>
   simp only[cond_false,Hz.get]
   have hne:Nat.beq j i=false:=by
    cases e:Nat.beq j i with
    |false=>rfl
    |true =>
     have:=iL e; subst this
     have:Nat.blt j nx=true:=by simpa using hi
     rw[this] at hb; cases hb
   rw[hne]; exact ih
structure afU{ι:Type}(inv:ι->Prop)(μ:ι->Nat)(vars:ι->Fm)(base:Fm)(hs:Hz)(nx:Nat)(i:ι)(m:Fm)(h:Hz):Prop where
 ok: ∃ j,inv j/\μ j<μ i/\MB m (vars j)/\MB m base/\Au nx h=hs
theorem get_append{a b:Fm}{i:Nat}{v:V}(q:Fm.get i (a++b)=some v):a.get i=some v\/Fm.get i b=some v:=by
 induction a with
 |nil=>exact .inr q
 |cons p r ih =>
  simp only[List.cons_append,Fm.get] at q ⊢
  cases hb:Nat.beq p.1 i with
  |true=>rw[hb] at q; exact .inl q
  |false=>rw[hb] at q; exact ih q
theorem aI.same{N pn nx:Nat}{b:eu}{Q:Qz}{m:Fm}{h:Hz}{ι:Type}(live:List Nat)(vars:ι->Fm)(inv:ι->Prop)(μ:ι->Nat)(i0:ι)(hd:rC N b=true)(hp:pn<=nx)(hg:Gx nx h=true)(hv: ∀ i,ZP nx N (vars i)=true)(h0:inv i0)(he:MB m (vars i0))
  (H:JK m live [] fun base=>ZP nx N base=true/\ ∀ i,inv i->az P N pn b (fun e m' h' n'=>match e with
   | .normal=>afU inv μ vars base (Au nx h) nx i m' h'
   |e=>Q e m' h' n') (vars i++base) h nx):aI P N pn b Q m h nx:=by
 obtain⟨base,⟨hb,H⟩,hbm⟩:=Bq H (fun i v q=>by cases q)
 refine⟨fun fr hl R=>?_⟩
 have hall: ∀ i j v,Fm.get j (vars i++base)=some v->T.lt nx v.aG=true/\j<N:=fun i j v q=>by
  rcases get_append q with q|q
  ·exact wP (hv i) q
  ·exact wP hb q
 have wk: ∀ (i:ι) (m':Fm) (h':Hz) (s':AS),s'.fr.length=N->Rp m' s'.fr->s'.hp=h'.ay->s'.pin=pn->MB m' (vars i)->(∀ j v,Fm.get j base=some v-> ∃ u,m'.get j=some u/\v.aG=u.aG)->Au nx h'=Au nx h ->
   Wk ⟨wB N (vars i++base),h.ay,nx,pn⟩ s':=by
  intro i m' h' s' a1 a2 a3 a4 a5 a6 a7
  obtain⟨fr',hp',nx',pn'⟩:=s'
  simp only at a1 a2 a3 a4
  subst a3; subst a4
  refine Wk.same (ZQ a1 a2 fun j v q=>?_) (ED fun j v q=>(hall i j v q).1) (EH hg) (fun j hj=>?_) hp
  ·rcases get_append q with q|q
   ·exact MC a5 q
   ·exact a6 j v q
  ·simp only[Hz.ay]; rw[<- JL hj,a7,JL hj]
 refine xW.rule (fun i=>⟨wB N (vars i++base),h.ay,nx,pn⟩) inv μ i0 h0 (wk i0 m h _ hl R rfl rfl he (fun j v q=>⟨v,hbm j v q,rfl⟩) rfl) ?_
 intro i hi
 have:=vW (P:=P) (N:=N) (pn:=pn) (s:=⟨wB N (vars i++base),h.ay,nx,pn⟩) hd yF (EC fun j v q=>(hall i j v q).2) rfl rfl (H i hi)
 refine oV ?_ this
 rintro e s' ⟨m',h',a1,a2,a3,a4,a5⟩
 cases e with
 |normal =>
  obtain⟨j,b1,b2,b3,b4,b5⟩:=a5.ok
  exact⟨j,⟨b1,b2⟩,wk j m' h' s' a1 a2 a3 a4 b3 (fun j v q=>MC b4 q) b5⟩
 |exit j=>exact⟨m',h',a1,a2,a3,a4,a5⟩
 |ret=>exact⟨m',h',a1,a2,a3,a4,a5⟩
end
def sq(l:List aC)(c:eu):eu:=.seq (.reg false l) c
def qm(d x:Nat):aC:=o d (.mv (.t x))
def aW(d:Nat)(n:Int):aC:=o d (.mv (.c (.int n)))
def qv(d:Nat)(b:Bool):aC:=o d (.mv (.c (.bool b)))
def qb(op:BinOp)(d x y:Nat):aC:=o d (.bin op (.t x) (.t y))
def qk(op:BinOp)(d x:Nat)(n:Int):aC:=o d (.bin op (.t x) (.c (.int n)))
def ql(d k x:Nat):aC:=o d (.ld k (.t x))
def qf(d a k x:Nat):aC:=o d (.fa a k (.t x))
def qi(d k x y:Nat):aC:=o d (.ia k (.t x) (.t y))
def qn(d x:Nat):aC:=o d (.len false (.t x))
def qo(d a b:Nat):aC:=o d (.pick (.t a) (.c (.bool true)) (.t b))
def qa(d a b:Nat):aC:=o d (.pick (.t a) (.t b) (.c (.bool false)))
def qx(d x:Nat):aC:=o d (.not (.t x))
def qe(d x i:Nat):aC:=o d (.ex (.t x) i)
def qB(d:Nat)(ty:TypeId)(k x:Nat):aC:=o d (.box ty k (.t x))
def qs(k x y:Nat):aC:=ov (.st k (.t x) (.t y))
def qC(d:Nat)(f:FuncId)(l:List Nat):aC:=o d (.call f (l.map .t))
def aC.w(q:aC)(g:Nat):aC:=⟨q.d,q.op,some (g,true),q.fl,q.ne,q.ad,q.ar⟩
def aC.n(q:aC)(g:Nat):aC:=⟨q.d,q.op,some (g,false),q.fl,q.ne,q.ad,q.ar⟩
theorem Body.of{P:Program}{f:FuncId}{fn:Func}{ac:eu}{rs:List RV}{nt:Nat}(h1:P.funcs[f]? =some fn)(h2:(fn.body.isSome,comp P (fn.body.getD .skip),kM P fn.results.toList,fn.ntmps,rC nt ac)=(true,some ac,some rs,nt,true))(h3:callable P f):Body P f ac rs nt:=by
 simp only[Prod.mk.injEq] at h2
 obtain⟨a,b,c,d,e⟩:=h2
 obtain⟨cd,hc⟩:=Option.isSome_iff_exists.1 a
 rw[hc] at b
 exact⟨⟨fn,cd,h1,hc,b,c,d⟩,h3,e⟩
section
variable {P:Program}
def dN(a b:List T):Prop:= ∀ (Z:Nat->Prop) (h:Hp),T.dM Z h a b
theorem dN.refl(a:List T):dN a a:=fun _ _=>dS a
def OV.Rj:OV->Bool
 | .row _ _ _ x=>V.bC x
 | .box _ _ v=>v.free
 | .map _ _ x=>V.bC (x.map (·.2))
 | .gen _ _ x=>V.bC x
theorem OV.H6{o:OV}(q:o.Rj=true):T.aJ (fun _=>False) o.aF.l:=by
 cases o with
 |row ty k r x=>exact eU.2 ⟨r.ids,dB (V.kZ x q)⟩
 |box ty k v=>exact⟨dU (V.qK v q),trivial⟩
 |gen ty k x=>exact dB (V.kZ x q)
 |map ty es x =>
  simp only[OV.Rj] at q
  refine eU.2 ⟨cO.2 fun t ht=>?_,cO.2 fun t ht=>?_⟩
  ·obtain⟨e,_,rfl⟩:=List.mem_map.1 ht
   simp[N9,T.ids,T.aJ]
  ·obtain⟨e,he,rfl⟩:=List.mem_map.1 ht
   simp only[abV,T.ids,T.aJ]
   refine⟨trivial,?_,trivial⟩
   have:=dB (V.kZ _ q)
   rw[cO] at this
   exact this _ (by rw[je,List.map_map]; exact List.mem_map.2 ⟨e,he,rfl⟩)
theorem OV.DL{o:OV}(q:o.Rj=true)(ρ:Nat->Nat):T.dQ ρ o.aF.l=o.aF.l:=uz _ (OV.H6 q)
def nD:List (Nat×OV)->List Nat->Nat->Nat
 |(c,_)::r,n::s,i=>bif Nat.beq i c then n else nD r s i
 |_,_,i=>i
def DK(n:Nat):List Nat->Bool
 |[]=>true
 |m::r=> !(Nat.beq n m)&&DK n r
def W9(nx pn:Nat)(h:Hz):List (Nat×OV)->List Nat->Prop
 |[],[]=>True
 |(c,o)::r,n::s=>(Nat.blt c nx=true/\(Nat.blt c pn=true->n=c)/\DK n s=true/\o.good nx=true/\o.Rj=true /\
   ∃ o',h.get n=some o'/\o'.aF.ty=o.aF.ty/\o'.aF.k=o.aF.k/\dN o.aF.l o'.aF.l)/\W9 nx pn h r s
 |_,_=>False
def xJ:List (Nat×OV)->List Nat->List (Nat×Nat×Ob)
 |(c,o)::r,n::s=>(c,n,o.aF)::xJ r s
 |_,_=>[]
def Iq(l:List (Nat×OV)):Hz:=l.map fun p=>(p.1,some p.2)
theorem DX: ∀ {l:List (Nat×OV)} {s:List Nat} {i:Nat},BD (xJ l s) i=nD l s i:=by
 intro l
 induction l with
 |nil=>intro s i; cases s<;>rfl
 |cons p r ih =>
  obtain⟨c,o⟩:=p
  intro s i
  cases s with
  |nil=>rfl
  |cons n s =>
   simp only[xJ,BD,nD]
   rw[ih]
   cases hb:Nat.beq i c with
   |true=>rw[if_pos (iL hb)]; rfl
   |false=>rw[if_neg (Nat.ne_of_beq_eq_false hb)]; rfl
theorem ace{nx pn:Nat}{h:Hz}: ∀ {l:List (Nat×OV)} {s:List Nat},W9 nx pn h l s->hpL (xJ l s)=(Iq l).ay:=by
 intro l
 induction l with
 |nil=>intro s q; cases s with
  |nil=>rfl
  |cons _ _=>exact q.elim
 |cons p r ih =>
  obtain⟨c,o⟩:=p
  intro s q
  cases s with
  |nil=>exact q.elim
  |cons n s =>
   simp only[xJ,hpL]
   have e:Iq ((c,o)::r)=(c,some o)::Iq r:=rfl
   rw[e,bQ,ih q.2]; rfl
theorem QE{n:Nat}: ∀ {l:List (Nat×OV)} {s:List Nat},DK n s=true-> ¬ Iu (xJ l s) n:=by
 intro l
 induction l with
 |nil=>intro s _ q; cases s<;>exact q
 |cons p r ih =>
  obtain⟨c,o⟩:=p
  intro s hs q
  cases s with
  |nil=>exact q
  |cons m s =>
   simp only[DK,Bool.and_eq_true] at hs
   simp only[xJ,Iu] at q
   rcases q with q|q
   ·rw[q,Nat.beq_refl] at hs; cases hs.1
   ·exact ih hs.2 q
theorem acf{nx pn:Nat}{h:Hz}{Z:Nat->Prop}{ρ:Nat->Nat}: ∀ {l:List (Nat×OV)} {s:List Nat},W9 nx pn h l s->okL Z ρ h.ay nx pn (xJ l s):=by
 intro l
 induction l with
 |nil=>intro s _; cases s<;>trivial
 |cons p r ih =>
  obtain⟨c,o⟩:=p
  intro s q
  cases s with
  |nil=>exact q.elim
  |cons n s =>
   obtain⟨⟨q1,q2,q3,q4,q5,o',q6,q7,q8,q9⟩,q⟩:=q
   obtain⟨g1,g2⟩:=OV.EG q4
   refine⟨⟨Nat.blt_eq.mp q1,fun hc=>q2 (Nat.blt_eq.mpr hc),QE q3,g1,g2,o'.aF.l,?_,?_⟩,ih q⟩
   ·have:=aZ q6
    show h.ay n=some ⟨o.aF.ty,o.aF.k,o'.aF.l⟩
    rw[this,<- q7,<- q8]
   ·show T.dM Z h.ay (T.dQ ρ o.aF.l) o'.aF.l
    rw[OV.DL q5]; exact q9 _ _
def ou(ρ:Nat->Nat)(m':Fm):Fm->Prop
 |[]=>True
 |(i,v)::r=>(∃ u,m'.get i=some u/\dN [v.aG.ren ρ] [u.aG])/\ou ρ m' r
theorem uT{ρ:Nat->Nat}{m':Fm}: ∀ {m0:Fm},ou ρ m' m0-> ∀ {i:Nat} {v:V},m0.get i=some v-> ∃ u,m'.get i=some u/\dN [v.aG.ren ρ] [u.aG]:=by
 intro m0
 induction m0 with
 |nil=>intro _ i v q; cases q
 |cons p r ih =>
  obtain⟨j,w⟩:=p
  intro hs i v q
  simp only[Fm.get] at q
  cases hb:Nat.beq j i with
  |true=>rw[hb] at q; cases q; rw[<- iL hb]; exact hs.1
  |false=>rw[hb] at q; exact ih hs.2 q
theorem dN.eq{a b:T}(h:a=b):dN [a] [b]:=by subst h; exact .refl _
theorem FX{N:Nat}{m0 m:Fm}{fr:List T}{Z:Nat->Prop}{h:Hp}{ρ:Nat->Nat}(hl:fr.length=N)(R:Rp m fr)(hs: ∀ i v,m0.get i=some v-> ∃ u,m.get i=some u/\dN [v.aG.ren ρ] [u.aG]):T.dM Z h (T.dQ ρ (wB N m0)) fr:=by
 refine U9 (by rw[tH,yF,hl]) fun i t u h1 h2=>?_
 have e: ∀ l:List T,T.dQ ρ l=l.map (T.ren ρ):=by
  intro l
  induction l with
  |nil=>rfl
  |cons a l ih=>simp only[T.dQ,List.map_cons,ih]
 rw[e] at h1
 simp only[wB,List.getElem?_map] at h1
 have hi:i<N:=by
  rcases Nat.lt_or_ge i N with h|h
  ·exact h
  ·rw[List.getElem?_eq_none (by simpa using h)] at h1; cases h1
 rw[List.getElem?_range hi] at h1
 simp only[Option.map_some,Option.some.injEq] at h1
 split at h1
 ·rename_i v hv
  obtain⟨w,hw,e⟩:=hs i v hv
  have:=R i w hw
  rw[h2] at this
  simp only[Option.some.injEq] at this
  subst h1; rw[this]; exact(e Z h).1
 ·subst h1; exact Va
structure afV{ι:Type}(inv:ι->Prop)(μ:ι->Nat)(vars:ι->Fm)(objs:ι->List (Nat×OV))(base:Fm)(nx pn:Nat)(i:ι)(m:Fm)(h:Hz):Prop where
 ok: ∃ j nw,inv j/\μ j<μ i/\ou (nD (objs j) nw) m (vars j)/\ou (nD (objs j) nw) m base/\W9 nx pn h (objs j) nw
theorem aI.objs{N pn nx0:Nat}(nx:Nat){b:eu}{Q:Qz}{m:Fm}{h:Hz}{ι:Type}(live:List Nat)(vars:ι->Fm)(objs:ι->List (Nat×OV))(inv:ι->Prop)(μ:ι->Nat)(i0:ι)(Ro:List Nat)(hd:rC N b=true)(hp:pn<=nx)(hv: ∀ i,ZP nx N (vars i)=true)(h0:inv i0)
  (he:ou (nD (objs i0) Ro) m (vars i0)) (ho:W9 nx pn h (objs i0) Ro)
  (H:JK m live [] fun base=>ou (nD (objs i0) Ro) m base/\ZP nx N base=true/\ ∀ i,inv i->az P N pn b (fun e m' h' n'=>match e with
   | .normal=>afV inv μ vars objs base nx pn i m' h'
   |e=>Q e m' h' n') (vars i++base) (Iq (objs i)) nx):aI P N pn b Q m h nx0:=by
 obtain⟨base,⟨hbs,hb,H⟩,hbm⟩:=Bq H (fun i v q=>by cases q)
 refine⟨fun fr hl R=>?_⟩
 have hall: ∀ i j v,Fm.get j (vars i++base)=some v->T.lt nx v.aG=true/\j<N:=fun i j v q=>by
  rcases get_append q with q|q
  ·exact wP (hv i) q
  ·exact wP hb q
 have wk: ∀ (i:ι) (nw:List Nat) (m':Fm) (h':Hz) (s':AS),s'.fr.length=N->Rp m' s'.fr->s'.hp=h'.ay->s'.pin=pn->ou (nD (objs i) nw) m' (vars i)->ou (nD (objs i) nw) m' base->W9 nx pn h' (objs i) nw ->
   Wk ⟨wB N (vars i++base),(Iq (objs i)).ay,nx,pn⟩ s':=by
  intro i nw m' h' s' a1 a2 a3 a4 a5 a6 a7
  obtain⟨fr',hp',nx',pn'⟩:=s'
  simp only at a1 a2 a3 a4
  subst a3; subst a4
  rw[<- ace a7]
  refine Wk.objs (xJ (objs i) nw) (FX a1 a2 fun j v q=>?_) (ED fun j v q=>(hall i j v q).1) hp (acf a7)
  have e:BD (xJ (objs i) nw)=nD (objs i) nw:=funext fun _=>DX
  rw[e]
  rcases get_append q with q|q
  ·exact uT a5 q
  ·exact uT a6 q
 refine xW.rule (fun i=>⟨wB N (vars i++base),(Iq (objs i)).ay,nx,pn⟩) inv μ i0 h0 (wk i0 Ro m h _ hl R rfl rfl he hbs ho) ?_
 intro i hi
 have:=vW (P:=P) (N:=N) (pn:=pn) (s:=⟨wB N (vars i++base),(Iq (objs i)).ay,nx,pn⟩) hd yF (EC fun j v q=>(hall i j v q).2) rfl rfl (H i hi)
 refine oV ?_ this
 rintro e s' ⟨m',h',a1,a2,a3,a4,a5⟩
 cases e with
 |normal =>
  obtain⟨j,nw,b1,b2,b3,b4,b5⟩:=a5.ok
  exact⟨j,⟨b1,b2⟩,wk j nw m' h' s' a1 a2 a3 a4 b3 b4 b5⟩
 |exit j=>exact⟨m',h',a1,a2,a3,a4,a5⟩
 |ret=>exact⟨m',h',a1,a2,a3,a4,a5⟩
theorem aI.nil{N pn nx:Nat}{b:eu}{Q:Qz}{m:Fm}{h:Hz}(d ty k:Nat){k':Nat}{r:Rw}(hd:m.get d=some (.row k' true r))(hr:r.bn=[])(hk:sW k=true)(hN:Nat.blt d N=true)
  (H:aI P N pn b Q ((d,.own nx)::m) ((nx,some (.row ty k .nil []))::h) (nx+1)):aI P N pn b Q m h nx:=by
 refine⟨fun fr hl R=>?_⟩
 have hdl:d<fr.length:=by rw[hl]; exact Nat.blt_eq.mp hN
 have hget:fr.getD d .any= .sl k' true []:=by
  rw[R.getD hd]; simp only[V.aG,hr]
 have H':=H.ok (fr.set d (.own nx)) (by simpa using hl) (fun i v q=>by
  simp only[Fm.get] at q
  cases hb:Nat.beq d i with
  |true=>rw[hb] at q; cases q; rw[<- iL hb]; simp[hdl,V.aG]
  |false =>
   rw[hb] at q
   rw[List.getElem?_set_ne (Nat.ne_of_beq_eq_false hb)]; exact R i v q)
 have e:Hz.ay ((nx,some (.row ty k .nil []))::h)=upd h.ay nx (some ⟨ty,k,[]⟩):=by rw[bQ]; rfl
 rw[e] at H'
 obtain⟨I,μ,⟨s0,w0,i0⟩,round⟩:=H'
 exact⟨I,μ,⟨s0,Wk.abD d ty k hget hk w0,i0⟩,round⟩
structure ny(h0:Hz)(n:Nat)(post:T->Hp->Prop)(v:V)(h:Hz):Prop where
 ok: ∃ (Z:Nat->Prop) (ρ:Nat->Nat) (t:T) (h':Hp),post t h'/\T.sub Z h.ay (t.ren ρ) v.aG/\(∀ i ob,h' i=some ob-> ∃ ob',h.ay (ρ i)=some ob'/\ ¬ Z (ρ i)/\Ls Z h.ay ρ ob ob') /\
  (∀ i j,(h' i).isSome=true->(h' j).isSome=true->ρ i=ρ j->i=j)/\t.ids (fun i=>(h0.ay i).isSome=true\/i=n)/\lT (fun i=>(h0.ay i).isSome=true\/i=n) h' /\
  ∀ i,(h0.ay i).isSome=true->(h' i).isSome=true->ρ i=i
def afW(h0:Hz)(n:Nat)(post:T->Hp->Prop)(rs:List RV):Qz
 | .exit _,_,_,_=>False
 |_,m,h,_=>match resV m h rs with
  |some v=>v.seq fun v=>ny h0 n post v h
  |none=>False
theorem oI.of{f:FuncId}{ac:eu}{rs:List RV}{nt nx n:Nat}{args:List V}{h0:Hz}{post:T->Hp->Prop}(B:Body P f ac rs nt)(hn:args.length<=nt)(hin: ∃ t h',post t h')(ha:T.JX nx (V.bn args)=true)(hg:Gx nx h0=true)
  (H:az P nt nx ac (afW h0 n post rs) (FW 0 args) h0 nx):aN P f (V.bn args) h0.ay n post:=by
 obtain⟨fn,c,h1,h2,h3,h4,h5⟩:=B.ex
 have hG:=EH hg
 refine aN.Hq (nx:=nx) h1 h2 h3 h4 B.cl h5 hin (EF ha) (fun i ob hi=>⟨(hG i ob hi).1,(hG i ob hi).2.1⟩) ?_
 have:=vW (P:=P) (N:=nt) (pn:=nx) (s:=⟨V.bn args++List.replicate (nt-(V.bn args).length) T.un,h0.ay,nx,nx⟩) B.dst (by simp[fB]; omega) JJ rfl rfl H
 refine oV ?_ this
 rintro e s ⟨m,h,a1,a2,a3,a4,a5⟩
 have key: ∀ {m h},Rp m s.fr->s.hp=Hz.ay h->(match resV m h rs with|some v=>v.seq fun v=>ny h0 n post v h|none=>False)-> ∃ s1,Dw s1 s/\Ret h0.ay n post rs s1:=by
  intro m h a2 a3 q
  split at q
  ·rename_i v hv
   rw[V.seq_eq] at q
   obtain⟨b1,b2⟩:=U8 a2 a3 hv
   obtain⟨Z,ρ,t,h',c1,c2,c3,c4,c5,c6,c7⟩:=q.ok
   exact⟨s,.refl _,b1,Z,ρ,t,h',c1,by rw[b2,a3]; exact c2,by rw[a3]; exact c3,c4,c5,c6,c7⟩
  ·exact q.elim
 cases e with
 |exit j=>exact a5.elim
 |normal=>exact key a2 a3 a5
 |ret=>exact key a2 a3 a5
theorem ny.one{h0 h:Hz}{n c j:Nat}{post:T->Hp->Prop}{v:V}{o:OV}{t:T}(hj:h.get j=some o)(hg:o.good (j+1)=true)(hf:o.Rj=true)(hc:(h0.get c).isSome=true->j=c)(hc':(h0.get c).isSome=true\/c=n)
  (ht:t.ids (fun i=>i=c)) (hv:dN [t.ren fun _=>j] [v.aG]) (hp:post t (Hz.ay [(c,some o)])):ny h0 n post v h:=by
 have hgood:=(OV.EG hg).2
 have hM: ∀ i,i=c->(h0.ay i).isSome=true\/i=n:=by
  rintro i rfl
  rcases hc' with h|h
  ·left; simpa [Hz.ay] using h
  ·exact .inr h
 have hx: ∀ i ob,Hz.ay [(c,some o)] i=some ob->i=c/\ob=o.aF:=fun i ob hi=>by
  simp only[Hz.ay,Hz.get] at hi
  cases hb:Nat.beq c i with
  |true=>rw[hb] at hi; simp only[cond_true,Option.map_some,Option.some.injEq] at hi; exact⟨(iL hb).symm,hi.symm⟩
  |false=>rw[hb] at hi; simp at hi
 refine⟨fun i=>i≠j,fun _=>j,t,Hz.ay [(c,some o)],hp,(hv _ _).1,fun i ob hi=>?_,fun i i' hi hi' _=>?_,T.bD hM _ ht,fun i ob hi=>?_,fun i hi hi'=>?_⟩
 ·obtain⟨rfl,rfl⟩:=hx i ob hi
  refine⟨o.aF,aZ hj,by simp,rfl,rfl,?_,Fa hgood⟩
  rw[OV.DL hf]; exact dS _
 ·obtain⟨oi,hi⟩:=Option.isSome_iff_exists.1 hi
  obtain⟨oj,hi'⟩:=Option.isSome_iff_exists.1 hi'
  rw[(hx _ _ hi).1,(hx _ _ hi').1]
 ·obtain⟨rfl,rfl⟩:=hx i ob hi
  exact⟨hM _ rfl,T.aA (fun _ h=>h.elim) _ (OV.H6 hf)⟩
 ·obtain⟨oi,hi'⟩:=Option.isSome_iff_exists.1 hi'
  obtain⟨rfl,_⟩:=hx _ _ hi'
  exact hc (by simpa [Hz.ay] using hi)
theorem ah.heap{f:FuncId}{args:List V}{h:Hz}{n:Nat}{K:V->Hz->Prop}{KW:Nat->V->Hz->Prop}{post:T->Hp->Prop}(S:aN P f (V.bn args) h.ay n post)(hK: ∀ t hp,post t hp-> ∃ v h',t=v.aG/\hp=Hz.ay h'/\K v h'):ah P false none f args h n K KW :=
 ⟨.inl (S.mono fun t hp q=>by
  obtain⟨v,h',h1,h2,h3⟩:=hK t hp q
  exact⟨v,h',h1,h2,(fun e=>by cases e),h3⟩)⟩
end
section
variable {P:Program}
def LoopN(body:(oz->AS->Prop)->AS->Prop)(Q:oz->AS->Prop):Nat->AS->Prop
 |0,_=>False
 |k+1,s=>body (fun e s'=>match e with| .normal=>LoopN body Q k s'|e=>Q e s') s
open Classical in
theorem xW.ofN{b:eu}{Q:oz->AS->Prop}{k:Nat}{s:AS}(h:LoopN (aw P b) Q k s):xW (aw P b) Q s:=by
 let I:AS->Nat->Prop:=fun s n=>LoopN (aw P b) Q n s
 let μ:AS->Nat:=fun s=>if hh: ∃ n,I s n then Classical.choose (FN _ (Classical.choose_spec hh)) else 0
 have hμ: ∀ s,(∃ n,I s n)->I s (μ s)/\ ∀ k,I s k->μ s<=k:=by
  intro s hh
  have e:μ s=Classical.choose (FN _ (Classical.choose_spec hh)):=dif_pos hh
  rw[e]
  exact Classical.choose_spec (FN _ (Classical.choose_spec hh))
 refine⟨fun s=> ∃ n,I s n,μ,⟨s,⟨s,.refl _,.inl rfl⟩,k,h⟩,fun s hI=>?_⟩
 have h2:=(hμ s hI).1
 generalize hm:μ s=m at h2
 cases m with
 |zero=>exact h2.elim
 |succ m =>
  have h3:aw P b (fun e s'=>match e with| .normal=>LoopN (aw P b) Q m s'|e=>Q e s') s:=h2
  refine oV ?_ h3
  intro e s' q
  cases e with
  |normal=>exact⟨s',⟨s',.refl _,.inl rfl⟩,⟨m,q⟩,by have:=(hμ s' ⟨m,q⟩).2 m q; omega⟩
  |exit j=>exact q
  |ret=>exact q
def azN(P:Program)(N pn:Nat)(b:eu)(Q:Qz):Nat->Fm->Hz->Nat->Prop
 |0,_,_,_=>False
 |k+1,m,h,nx=>az P N pn b (fun e m' h' nx'=>match e with| .normal=>azN P N pn b Q k m' h' nx'|e=>Q e m' h' nx') m h nx
theorem aI.times{N pn nx:Nat}{b:eu}{Q:Qz}{m:Fm}{h:Hz}(k:Nat)(hd:rC N b=true)(H:azN P N pn b Q k m h nx):aI P N pn b Q m h nx:=by
 refine⟨fun fr hl R=>xW.ofN (k:=k) ?_⟩
 have key: ∀ (k:Nat) {m:Fm} {h:Hz} {nx:Nat} {s:AS},s.fr.length=N->Rp m s.fr->s.hp=h.ay->s.pin=pn->s.nx=nx->azN P N pn b Q k m h nx->LoopN (aw P b) (Lift N pn Q) k s:=by
  intro k
  induction k with
  |zero=>intro m h nx s _ _ _ _ _ H; exact H.elim
  |succ k ih =>
   intro m h nx s a1 a2 a3 a4 a5 H
   subst a5
   have:=vW (P:=P) (N:=N) (pn:=pn) (s:=s) hd a1 a2 a3 a4 H
   show aw P b _ s
   refine oV ?_ this
   rintro e s' ⟨m',h',b1,b2,b3,b4,b5⟩
   cases e with
   |normal=>exact ih b1 b2 b3 b4 rfl b5
   |exit j=>exact⟨m',h',b1,b2,b3,b4,b5⟩
   |ret=>exact⟨m',h',b1,b2,b3,b4,b5⟩
 exact key k hl R rfl rfl rfl H
end
section
variable {P:Program}
theorem MF{Z:Nat->Prop}{h:Hp}{t u:T}: ∀ {fr:List T} {j:Nat},fr[j]? =some u->T.sub Z h t u->T.dM Z h (fr.set j t) fr
 |[],_,e,_=>by simp at e
 |a::r,0,e,q=>by
  simp only[List.getElem?_cons_zero,Option.some.injEq] at e; subst e
  exact⟨q,dS _⟩
 |a::r,j+1,e,q=>by
  simp only[List.getElem?_cons_succ] at e
  exact⟨dP _,MF e q⟩
theorem aI.fzV{N pn nx:Nat}{b:eu}{Q:Qz}{m:Fm}{h:Hz}(d i:Nat)(u v:V)(hd:m.get d=some v)(hN:Nat.blt d N=true)(hs:T.sub (fun j=>j=i) h.ay u.aG v.aG)
  (H:aI P N pn b Q ((d,u)::m) ((i,none)::h) nx):aI P N pn b Q m h nx:=by
 refine⟨fun fr hl R=>?_⟩
 have hdl:d<fr.length:=by rw[hl]; exact Nat.blt_eq.mp hN
 have hget:fr[d]? =some v.aG:=R d _ hd
 have H':=H.ok (fr.set d u.aG) (by simpa using hl) (fun j v q=>by
  simp only[Fm.get] at q
  cases hb:Nat.beq d j with
  |true=>rw[hb] at q; cases q; rw[<- iL hb]; simp[hdl]
  |false =>
   rw[hb] at q
   rw[List.getElem?_set_ne (Nat.ne_of_beq_eq_false hb)]; exact R j v q)
 obtain⟨I,μ,⟨s0,⟨s1,w1,w2⟩,i0⟩,round⟩:=H'
 have F:V9 (fun j=>j=i) ⟨fr.set d u.aG,Hz.ay ((i,none)::h),nx,pn⟩ ⟨fr,h.ay,nx,pn⟩:=by
  refine⟨MF hget hs,fun j ob hj=>?_,rfl,rfl⟩
  have hne:j≠i:=by
   rintro rfl
   simp[Hz.ay,Hz.get] at hj
  have hj':h.ay j=some ob:=by
   have hb:Nat.beq i j=false:=by
    cases hb:Nat.beq i j with
    |false=>rfl
    |true=>exact absurd (Nat.eq_of_beq_eq_true hb).symm hne
   simp only[Hz.ay,Hz.get,hb] at hj ⊢; exact hj
  exact⟨ob,hj',hne,rfl,rfl,dS _,rfl,rfl⟩
 exact⟨I,μ,⟨s0,⟨s1,w1.trans (.fz F (.refl _)),w2⟩,i0⟩,round⟩
theorem aI.fz{N pn nx:Nat}{b:eu}{Q:Qz}{m:Fm}{h:Hz}(d i k:Nat)(r:Rw)(hd:m.get d=some (.own i))(hN:Nat.blt d N=true)(hs:T.sub (fun j=>j=i) h.ay (V.row k false r).aG (V.own i).aG)
  (H:aI P N pn b Q ((d,.row k false r)::m) ((i,none)::h) nx):aI P N pn b Q m h nx:=aI.fzV d i _ _ hd hN hs H
theorem aI.ae1{N pn nx:Nat}{b:eu}{Q:Qz}{m:Fm}{h:Hz}(d i k:Nat)(u:V){ty:Nat}(hd:m.get d=some (.ptr i 0 0))(hN:Nat.blt d N=true)(ho:h.get i=some (.box ty k u))(hu:u.aG.free=true)(hk:k≠dI)
  (H:aI P N pn b Q ((d,.ref k u)::m) ((i,none)::h) nx):aI P N pn b Q m h nx :=
 aI.fzV d i _ _ hd hN (by
  simp only[V.aG,T.sub]
  exact⟨trivial,trivial,hu,hk,ty,[u.aG],by simp only[Hz.ay,ho]; rfl,rfl⟩) H
end
section
variable {P:Program}
theorem jg{o:OV}(q:o.Rj=true)(ρ:Nat->Nat):o.aF.ren ρ=o.aF:=by
 have:=OV.DL q ρ
 unfold Ob.ren
 rw[this]
theorem Ol{j:Nat}{o:OV}{i:Nat}:Hz.ay [(j,some o)] i=if i=j then some o.aF else none:=by
 simp only[Hz.ay,Hz.get]
 cases hb:Nat.beq j i with
 |true=>rw[if_pos (iL hb).symm]; rfl
 |false=>rw[if_neg (fun e=>Nat.ne_of_beq_eq_false hb e.symm)]; rfl
theorem yG{j i:Nat}{o:Option OV}{h:Hz}:Hz.ay ((j,o)::h) i=if i=j then o.map OV.aF else h.ay i:=by
 simp only[Hz.ay,Hz.get]
 cases hb:Nat.beq j i with
 |true=>rw[if_pos (iL hb).symm]; rfl
 |false=>rw[if_neg (fun e=>Nat.ne_of_beq_eq_false hb e.symm)]; rfl
theorem ah.XU{f:FuncId}{ts args:List V}{h:Hz}{i n:Nat}{o0:OV}{K:V->Hz->Prop}{KW:Nat->V->Hz->Prop}{post:T->Hp->Prop}(H:aN P f (V.bn ts) (Hz.ay [(0,some o0)]) 1 post)
  (ha:T.dQ (fun _=>i) (V.bn ts)=V.bn args) (hid:T.JX 1 (V.bn ts)=true) (hg:o0.good 1=true) (hf:o0.Rj=true) (hi:h.get i=some o0) (hn:h.get n=none)
  (hK: ∀ t hp,post t hp->(∃ v o,hp=Hz.ay [(0,some o)]/\o.Rj=true/\t.ren (nameAt (fun _=>i) 1 n)=v.aG/\K v ((i,some o)::h)) \/
   (∃ v o,hp=Hz.ay [(1,some o)]/\o.Rj=true/\t.ren (nameAt (fun _=>i) 1 n)=v.aG/\K v ((n,some o)::(i,none)::h))):ah P false none f args h n K KW:=by
 have hin:i≠n:=by rintro rfl; rw[hi] at hn; cases hn
 have hl0: ∀ j:Nat,j<1->(Hz.ay [(0,some o0)] j).isSome=true:=fun j hj=>by rw[Ol,if_pos (by omega)]; rfl
 have hsome: ∀ j,(Hz.ay [(0,some o0)] j).isSome=true->j=0:=fun j hj=>by
  rw[Ol] at hj; split at hj
  ·assumption
  ·cases hj
 refine ah.heap (post:=fun t' h'=> ∃ t h1,post t h1/\t'=t.ren (nameAt (fun _=>i) 1 n)/\h'=placed (fun _=>i) 1 n (Hz.ay [(0,some o0)]) h.ay h1) ?_ ?_
 ·rw[<- ha]
  refine aN.place H (T.aA hl0 _ (EF hid)) (fun j ob hj=>?_) (by rw[Ol]; rfl) (fun j ob hj=>?_) (fun a b h1 h2 _=>by rw[hsome a h1,hsome b h2])
  ·rw[Ol] at hj; split at hj
   ·cases hj
    have hz:T.aJ (fun _=>False) o0.aF.l:=OV.H6 hf
    exact⟨T.aA (fun _ h=>h.elim) _ hz,(OV.EG hg).2⟩
   ·cases hj
  ·rw[Ol] at hj; split at hj
   ·cases hj
    rw[jg hf]; exact aZ hi
   ·cases hj
 ·rintro t' h' ⟨t,h1,hp,rfl,rfl⟩
  have inj: ∀ a b,((Hz.ay [(0,some o0)] a).isSome=true\/a=1)->((Hz.ay [(0,some o0)] b).isSome=true\/b=1)->nameAt (fun _=>i) 1 n a=nameAt (fun _=>i) 1 n b->a=b:=by
   intro a b ha hb e
   rcases ha with ha|rfl<;>rcases hb with hb|rfl
   ·rw[hsome a ha,hsome b hb]
   ·rw[hsome a ha] at e; exact absurd e hin
   ·rw[hsome b hb] at e; exact absurd e.symm hin
   ·rfl
  have at0: ∀ h1,placed (fun _=>i) 1 n (Hz.ay [(0,some o0)]) h.ay h1 i=(h1 0).map (Ob.ren (nameAt (fun _=>i) 1 n)):=fun h1=>FH (h:=h.ay) (h1:=h1) inj (i:=0) (.inl (hl0 0 (by decide)))
  have at1: ∀ h1,placed (fun _=>i) 1 n (Hz.ay [(0,some o0)]) h.ay h1 n=(h1 1).map (Ob.ren (nameAt (fun _=>i) 1 n)):=fun h1=>FH (h:=h.ay) (h1:=h1) inj (i:=1) (.inr rfl)
  have atO: ∀ h1 j,j≠i->j≠n->placed (fun _=>i) 1 n (Hz.ay [(0,some o0)]) h.ay h1 j=h.ay j:=fun h1 j g1 g2=>Jv (by
   rintro⟨a,ha,e⟩
   rcases ha with ha|rfl
   ·rw[hsome a ha] at e; exact g1 e.symm
   ·exact g2 e.symm)
  rcases hK t h1 hp with ⟨v,o,rfl,ho,hv,hk⟩|⟨v,o,rfl,ho,hv,hk⟩
  ·refine⟨v,_,hv,?_,hk⟩
   funext j
   rw[yG]
   by_cases e1:j=i
   ·subst e1; rw[if_pos rfl,at0,Ol,if_pos rfl,Option.map_some,jg ho]; rfl
   ·rw[if_neg e1]
    by_cases e2:j=n
    ·subst e2; rw[at1,Ol,if_neg (by decide)]; simp only[Hz.ay,hn]; rfl
    ·exact atO _ j e1 e2
  ·refine⟨v,_,hv,?_,hk⟩
   funext j
   rw[yG,yG]
   by_cases e2:j=n
   ·subst e2; rw[if_pos rfl,at1,Ol,if_pos rfl,Option.map_some,jg ho]; rfl
   ·rw[if_neg e2]
    by_cases e1:j=i
    ·subst e1; rw[if_pos rfl,at0,Ol,if_neg (by decide)]; rfl
    ·rw[if_neg e1]; exact atO _ j e1 e2
end
section
variable {P:Program}
def okR(ρ:Nat->Nat)(nx pn:Nat)(h:Hz):List (Nat×OV)->List Nat->Prop
 |[],[]=>True
 |(c,o)::r,n::s=>(Nat.blt c nx=true/\(Nat.blt c pn=true->n=c)/\DK n s=true/\o.good nx=true /\
   ∃ o',h.get n=some o'/\o'.aF.ty=o.aF.ty/\o'.aF.k=o.aF.k/\dN (T.dQ ρ o.aF.l) o'.aF.l)/\okR ρ nx pn h r s
 |_,_=>False
theorem xK{ρ:Nat->Nat}{nx pn:Nat}{h:Hz}: ∀ {l:List (Nat×OV)} {s:List Nat},okR ρ nx pn h l s->hpL (xJ l s)=(Iq l).ay:=by
 intro l
 induction l with
 |nil=>intro s q; cases s with
  |nil=>rfl
  |cons _ _=>exact q.elim
 |cons p r ih =>
  obtain⟨c,o⟩:=p
  intro s q
  cases s with
  |nil=>exact q.elim
  |cons n s =>
   simp only[xJ,hpL]
   have e:Iq ((c,o)::r)=(c,some o)::Iq r:=rfl
   rw[e,bQ,ih q.2]; rfl
theorem Ir{nx pn:Nat}{h:Hz}{Z:Nat->Prop}{ρ:Nat->Nat}: ∀ {l:List (Nat×OV)} {s:List Nat},okR ρ nx pn h l s->okL Z ρ h.ay nx pn (xJ l s):=by
 intro l
 induction l with
 |nil=>intro s _; cases s<;>trivial
 |cons p r ih =>
  obtain⟨c,o⟩:=p
  intro s q
  cases s with
  |nil=>exact q.elim
  |cons n s =>
   obtain⟨⟨q1,q2,q3,q4,o',q6,q7,q8,q9⟩,q⟩:=q
   obtain⟨g1,g2⟩:=OV.EG q4
   refine⟨⟨Nat.blt_eq.mp q1,fun hc=>q2 (Nat.blt_eq.mpr hc),QE q3,g1,g2,o'.aF.l,?_,?_⟩,ih q⟩
   ·have:=aZ q6
    show h.ay n=some ⟨o.aF.ty,o.aF.k,o'.aF.l⟩
    rw[this,<- q7,<- q8]
   ·exact q9 _ _
structure IC{ι:Type}(inv:ι->Prop)(μ:ι->Nat)(vars:ι->Fm)(objs:ι->List (Nat×OV))(base:Fm)(nx pn:Nat)(i:ι)(m:Fm)(h:Hz):Prop where
 ok: ∃ j nw,inv j/\μ j<μ i/\ou (nD (objs j) nw) m (vars j)/\ou (nD (objs j) nw) m base/\okR (nD (objs j) nw) nx pn h (objs j) nw
theorem aI.nZ{N pn nx0:Nat}(nx:Nat){b:eu}{Q:Qz}{m:Fm}{h:Hz}{ι:Type}(live:List Nat)(vars:ι->Fm)(objs:ι->List (Nat×OV))(inv:ι->Prop)(μ:ι->Nat)(i0:ι)(Ro:List Nat)(hd:rC N b=true)(hp:pn<=nx)(hv: ∀ i,ZP nx N (vars i)=true)(h0:inv i0)
  (he:ou (nD (objs i0) Ro) m (vars i0)) (ho:okR (nD (objs i0) Ro) nx pn h (objs i0) Ro)
  (H:JK m live [] fun base=>ou (nD (objs i0) Ro) m base/\ZP nx N base=true/\ ∀ i,inv i->az P N pn b (fun e m' h' n'=>match e with
   | .normal=>IC inv μ vars objs base nx pn i m' h'
   |e=>Q e m' h' n') (vars i++base) (Iq (objs i)) nx):aI P N pn b Q m h nx0:=by
 obtain⟨base,⟨hbs,hb,H⟩,hbm⟩:=Bq H (fun i v q=>by cases q)
 refine⟨fun fr hl R=>?_⟩
 have hall: ∀ i j v,Fm.get j (vars i++base)=some v->T.lt nx v.aG=true/\j<N:=fun i j v q=>by
  rcases get_append q with q|q
  ·exact wP (hv i) q
  ·exact wP hb q
 have wk: ∀ (i:ι) (nw:List Nat) (m':Fm) (h':Hz) (s':AS),s'.fr.length=N->Rp m' s'.fr->s'.hp=h'.ay->s'.pin=pn->ou (nD (objs i) nw) m' (vars i)->ou (nD (objs i) nw) m' base->okR (nD (objs i) nw) nx pn h' (objs i) nw ->
   Wk ⟨wB N (vars i++base),(Iq (objs i)).ay,nx,pn⟩ s':=by
  intro i nw m' h' s' a1 a2 a3 a4 a5 a6 a7
  obtain⟨fr',hp',nx',pn'⟩:=s'
  simp only at a1 a2 a3 a4
  subst a3; subst a4
  rw[<- xK a7]
  have e:BD (xJ (objs i) nw)=nD (objs i) nw:=funext fun _=>DX
  refine Wk.objs (xJ (objs i) nw) (FX a1 a2 fun j v q=>?_) (ED fun j v q=>(hall i j v q).1) hp (by rw[e]; exact Ir a7)
  rw[e]
  rcases get_append q with q|q
  ·exact uT a5 q
  ·exact uT a6 q
 refine xW.rule (fun i=>⟨wB N (vars i++base),(Iq (objs i)).ay,nx,pn⟩) inv μ i0 h0 (wk i0 Ro m h _ hl R rfl rfl he hbs ho) ?_
 intro i hi
 have:=vW (P:=P) (N:=N) (pn:=pn) (s:=⟨wB N (vars i++base),(Iq (objs i)).ay,nx,pn⟩) hd yF (EC fun j v q=>(hall i j v q).2) rfl rfl (H i hi)
 refine oV ?_ this
 rintro e s' ⟨m',h',a1,a2,a3,a4,a5⟩
 cases e with
 |normal =>
  obtain⟨j,nw,b1,b2,b3,b4,b5⟩:=a5.ok
  exact⟨j,⟨b1,b2⟩,wk j nw m' h' s' a1 a2 a3 a4 b3 b4 b5⟩
 |exit j=>exact⟨m',h',a1,a2,a3,a4,a5⟩
 |ret=>exact⟨m',h',a1,a2,a3,a4,a5⟩
end
section
variable {P:Program}
def XW(Z:Nat->Prop)(h:Hz):Hz->Prop
 |[]=>True
 |(_,none)::r=>XW Z h r
 |(i,some o)::r=>(∃ o',h.get i=some o'/\ ¬ Z i/\o'.aF.ty=o.aF.ty/\o'.aF.k=o.aF.k/\T.dM Z h.ay o.aF.l o'.aF.l/\o.aF.l.map T.kd=o'.aF.l.map T.kd/\o.aF.l.map fV=o'.aF.l.map fV)/\XW Z h r
def Frz(h h2:Hz):Prop:= ∃ Z,XW Z h h2
theorem OY{Z:Nat->Prop}{h:Hz}: ∀ {h2:Hz},XW Z h h2-> ∀ {i:Nat} {o:OV},h2.get i=some o-> ∃ o',h.get i=some o'/\ ¬ Z i/\o'.aF.ty=o.aF.ty/\o'.aF.k=o.aF.k/\T.dM Z h.ay o.aF.l o'.aF.l/\o.aF.l.map T.kd=o'.aF.l.map T.kd/\o.aF.l.map fV=o'.aF.l.map fV:=by
 intro h2
 induction h2 with
 |nil=>intro _ i o e; cases e
 |cons p r ih =>
  obtain⟨j,u⟩:=p
  intro hf i o e
  simp only[Hz.get] at e
  cases u with
  |none =>
   cases hb:Nat.beq j i with
   |true=>rw[hb] at e; cases e
   |false=>rw[hb] at e; exact ih hf e
  |some u =>
   cases hb:Nat.beq j i with
   |true=>rw[hb] at e; cases e; rw[<- iL hb]; exact hf.1
   |false=>rw[hb] at e; exact ih hf.2 e
theorem Frz.wk{s _s1:AS}{fr:List T}{h h2:Hz}{nx pn:Nat}(f:Frz h h2)(w:Wk s ⟨fr,h2.ay,nx,pn⟩):Wk s ⟨fr,h.ay,nx,pn⟩:=by
 obtain⟨Z,f⟩:=f
 obtain⟨s1,w1,w2⟩:=w
 have F:V9 Z ⟨fr,h2.ay,nx,pn⟩ ⟨fr,h.ay,nx,pn⟩:=by
  refine⟨dS _,fun i ob hi=>?_,rfl,rfl⟩
  simp only[Hz.ay,Option.map_eq_some_iff] at hi
  obtain⟨o,e1,rfl⟩:=hi
  obtain⟨o',a1,a2,a3,a4,a5,a6,a7⟩:=OY f e1
  exact⟨o'.aF,aZ a1,a2,a3,a4,a5,a6,a7⟩
 exact⟨s1,w1.trans (.fz F (.refl _)),w2⟩
structure afX{ι:Type}(inv:ι->Prop)(μ:ι->Nat)(vars:ι->Fm)(objs:ι->List (Nat×OV))(base:Fm)(nx pn:Nat)(i:ι)(m:Fm)(h:Hz):Prop where
 ok: ∃ h2 j nw,Frz h h2/\inv j/\μ j<μ i/\ou (nD (objs j) nw) m (vars j)/\ou (nD (objs j) nw) m base/\okR (nD (objs j) nw) nx pn h2 (objs j) nw
theorem aI.Uh{N pn nx0:Nat}(nx:Nat){b:eu}{Q:Qz}{m:Fm}{h:Hz}{ι:Type}(live:List Nat)(vars:ι->Fm)(objs:ι->List (Nat×OV))(inv:ι->Prop)(μ:ι->Nat)(i0:ι)(Ro:List Nat)(h2:Hz)(hd:rC N b=true)(hp:pn<=nx)(hv: ∀ i,ZP nx N (vars i)=true)(h0:inv i0)
  (he:ou (nD (objs i0) Ro) m (vars i0)) (hf:Frz h h2) (ho:okR (nD (objs i0) Ro) nx pn h2 (objs i0) Ro)
  (H:JK m live [] fun base=>ou (nD (objs i0) Ro) m base/\ZP nx N base=true/\ ∀ i,inv i->az P N pn b (fun e m' h' n'=>match e with
   | .normal=>afX inv μ vars objs base nx pn i m' h'
   |e=>Q e m' h' n') (vars i++base) (Iq (objs i)) nx):aI P N pn b Q m h nx0:=by
 obtain⟨base,⟨hbs,hb,H⟩,hbm⟩:=Bq H (fun i v q=>by cases q)
 refine⟨fun fr hl R=>?_⟩
 have hall: ∀ i j v,Fm.get j (vars i++base)=some v->T.lt nx v.aG=true/\j<N:=fun i j v q=>by
  rcases get_append q with q|q
  ·exact wP (hv i) q
  ·exact wP hb q
 have wk: ∀ (i:ι) (nw:List Nat) (m':Fm) (h' h2':Hz) (s':AS),s'.fr.length=N->Rp m' s'.fr->s'.hp=h'.ay->s'.pin=pn->Frz h' h2'->ou (nD (objs i) nw) m' (vars i)->ou (nD (objs i) nw) m' base->okR (nD (objs i) nw) nx pn h2' (objs i) nw ->
   Wk ⟨wB N (vars i++base),(Iq (objs i)).ay,nx,pn⟩ s':=by
  intro i nw m' h' h2' s' a1 a2 a3 a4 af a5 a6 a7
  obtain⟨fr',hp',nx',pn'⟩:=s'
  simp only at a1 a2 a3 a4
  subst a3; subst a4
  refine af.wk (_s1:=⟨fr',h2'.ay,nx',pn'⟩) ?_
  rw[<- xK a7]
  have e:BD (xJ (objs i) nw)=nD (objs i) nw:=funext fun _=>DX
  refine Wk.objs (xJ (objs i) nw) (FX a1 a2 fun j v q=>?_) (ED fun j v q=>(hall i j v q).1) hp (by rw[e]; exact Ir a7)
  rw[e]
  rcases get_append q with q|q
  ·exact uT a5 q
  ·exact uT a6 q
 refine xW.rule (fun i=>⟨wB N (vars i++base),(Iq (objs i)).ay,nx,pn⟩) inv μ i0 h0 (wk i0 Ro m h h2 _ hl R rfl rfl hf he hbs ho) ?_
 intro i hi
 have:=vW (P:=P) (N:=N) (pn:=pn) (s:=⟨wB N (vars i++base),(Iq (objs i)).ay,nx,pn⟩) hd yF (EC fun j v q=>(hall i j v q).2) rfl rfl (H i hi)
 refine oV ?_ this
 rintro e s' ⟨m',h',a1,a2,a3,a4,a5⟩
 cases e with
 |normal =>
  obtain⟨h2',j,nw,bf,b1,b2,b3,b4,b5⟩:=a5.ok
  exact⟨j,⟨b1,b2⟩,wk j nw m' h' h2' s' a1 a2 a3 a4 bf b3 b4 b5⟩
 |exit j=>exact⟨m',h',a1,a2,a3,a4,a5⟩
 |ret=>exact⟨m',h',a1,a2,a3,a4,a5⟩
theorem mF{Z:Nat->Prop}{h:Hz}{i:Nat}{o:OV}(e:h.get i=some o)(hz: ¬ Z i): ∃ o',h.get i=some o'/\ ¬ Z i/\o'.aF.ty=o.aF.ty/\o'.aF.k=o.aF.k/\T.dM Z h.ay o.aF.l o'.aF.l/\o.aF.l.map T.kd=o'.aF.l.map T.kd/\o.aF.l.map fV=o'.aF.l.map fV :=
 ⟨o,e,hz,rfl,rfl,dS _,rfl,rfl⟩
end
section
variable {P:Program}
theorem Pq{t:T}(q:t.free=true)(ρ:Nat->Nat):t.ren ρ=t:=by
 have:T.dQ ρ [t]=[t]:=uz _ ⟨dU q,trivial⟩
 simpa [T.dQ] using this
structure ag3(o0 o1:OV)(v:V)(h:Hz):Prop where
 ok: ∃ a b o0',v= .ptr a 0 0/\a≠b/\h.get a=some o0'/\o0.aF.ren (fun i=>bif Nat.beq i 0 then a else b)=o0'.aF/\h.get b=some o1
end
section
variable {P:Program}
def Vd(ρ:Nat->Nat)(h:Hz):Hz->Prop
 |[]=>True
 |(_,none)::r=>Vd ρ h r
 |(i,some o)::r=>(∃ o',h.get (ρ i)=some o'/\o.aF.ren ρ=o'.aF)/\Vd ρ h r
theorem Xa{ρ:Nat->Nat}{h:Hz}: ∀ {pre:Hz},Vd ρ h pre-> ∀ {i:Nat} {o:OV},pre.get i=some o-> ∃ o',h.get (ρ i)=some o'/\o.aF.ren ρ=o'.aF:=by
 intro pre
 induction pre with
 |nil=>intro _ i o e; cases e
 |cons p r ih =>
  obtain⟨j,u⟩:=p
  intro hf i o e
  simp only[Hz.get] at e
  cases u with
  |none =>
   cases hb:Nat.beq j i with
   |true=>rw[hb] at e; cases e
   |false=>rw[hb] at e; exact ih hf e
  |some u =>
   cases hb:Nat.beq j i with
   |true=>rw[hb] at e; cases e; rw[<- iL hb]; exact hf.1
   |false=>rw[hb] at e; exact ih hf.2 e
def ZR(σ:Nat->Nat)(hp:Hp):Nat->List (Option OV)->Prop
 |_,[]=>True
 |i,r::rs=>r.map OV.aF=(hp i).map (Ob.ren σ)/\ZR σ hp (i+1) rs
theorem Xb{σ:Nat->Nat}{hp:Hp}: ∀ {rs:List (Option OV)} {i k:Nat},ZR σ hp i rs->k<rs.length->(rs.getD k none).map OV.aF=(hp (i+k)).map (Ob.ren σ):=by
 intro rs
 induction rs with
 |nil=>intro i k _ hk; cases hk
 |cons r rs ih =>
  intro i k ha hk
  cases k with
  |zero=>exact ha.1
  |succ k =>
   have:=@ih (i+1) k ha.2 (Nat.lt_of_succ_lt_succ hk)
   rw[List.getD_cons_succ,this,Nat.succ_add_eq_add_succ]
def TN:List Nat->List (Option OV)->Hz->Hz
 |k::ks,r::rs,h=>(k,r)::TN ks rs h
 |_,_,h=>h
theorem ZT{h:Hz}{a:Nat}: ∀ {ks:List Nat} {rs:List (Option OV)},a ∉ ks->(TN ks rs h).ay a=h.ay a:=by
 intro ks
 induction ks with
 |nil=>intro rs _; rfl
 |cons k ks ih =>
  intro rs ha
  cases rs with
  |nil=>rfl
  |cons r rs =>
   simp only[List.mem_cons,not_or] at ha
   show Hz.ay ((k,r)::TN ks rs h) a=_
   rw[yG,if_neg ha.1,ih ha.2]
theorem acg{h:Hz}: ∀ {ks:List Nat} {rs:List (Option OV)} {i:Nat},ks.length=rs.length->ks.Nodup->i<ks.length->(TN ks rs h).ay (ks.getD i 0)=(rs.getD i none).map OV.aF:=by
 intro ks
 induction ks with
 |nil=>intro rs i _ _ hi; cases hi
 |cons k ks ih =>
  intro rs i hl hn hi
  cases rs with
  |nil=>cases hl
  |cons r rs =>
   cases i with
   |zero=>show Hz.ay ((k,r)::TN ks rs h) k=_; rw[yG,if_pos rfl]; rfl
   |succ i =>
    have hi':i<ks.length:=Nat.lt_of_succ_lt_succ hi
    rw[List.nodup_cons] at hn
    have hne:ks.getD i 0≠k:=fun e=>hn.1 (by rw[<- e,show ks.getD i 0=ks[i] by simp[hi']]; exact List.getElem_mem hi')
    show Hz.ay ((k,r)::TN ks rs h) (ks.getD i 0)=_
    rw[yG,if_neg hne]
    exact ih (Nat.succ.inj hl) hn.2 hi'
theorem Xc{is:List Nat}{n i:Nat}:(is++[n]).getD i 0=if i=is.length then n else if i<is.length then is.getD i 0 else 0:=by
 by_cases h:i<is.length
 ·rw[if_neg (by omega),if_pos h]; simp[List.getD_eq_getElem?_getD,List.getElem?_append_left h]
 ·by_cases e:i=is.length
  ·subst e; simp
  ·rw[if_neg e,if_neg h]; simp[List.getD_eq_getElem?_getD,List.getElem?_eq_none (by simp; omega:(is++[n]).length<=i)]
theorem ah.Nc{f:FuncId}{ts args:List V}{h pre:Hz}{m n:Nat}{K:V->Hz->Prop}{KW:Nat->V->Hz->Prop}{post:T->Hp->Prop}(is:List Nat)(H:aN P f (V.bn ts) pre.ay m post)(hm:is.length=m)
  (ha:T.dQ (is.getD · 0) (V.bn ts)=V.bn args) (hid:T.JX m (V.bn ts)=true) (hg:Gx m pre=true) (hall:((List.range m).all fun i=>(pre.get i).isSome)=true) (hpl:Vd (is.getD · 0) h pre) (_hn:h.get n=none) (nd:(is++[n]).Nodup)
  (hK: ∀ t hp,post t hp-> ∃ v rs,rs.length=m+1/\t.ren (nameAt (is.getD · 0) m n)=v.aG/\ZR (nameAt (is.getD · 0) m n) hp 0 rs/\K v (TN (is++[n]) rs h)):ah P false none f args h n K KW:=by
 have hG:=EH hg
 have hlt: ∀ i,i<m->(pre.ay i).isSome=true:=fun i hi=>by
  rw[List.all_eq_true] at hall
  have:=hall i (List.mem_range.2 hi)
  simpa [Hz.ay] using this
 have hsome: ∀ i,(pre.ay i).isSome=true->i<m:=fun i hi=>by
  obtain⟨ob,hob⟩:=Option.isSome_iff_exists.1 hi
  exact(hG i ob hob).1
 have hnm: ∀ i,i<=m->nameAt (is.getD · 0) m n i=(is++[n]).getD i 0:=fun i hi=>by
  rw[Xc,hm]
  unfold nameAt
  by_cases e:i=m
  ·rw[if_pos e,if_pos e]
  ·rw[if_neg e,if_neg e,if_pos (by omega)]
 have hlen:(is++[n]).length=m+1:=by rw[List.length_append,hm]; rfl
 have hinj: ∀ i j,i<=m->j<=m->nameAt (is.getD · 0) m n i=nameAt (is.getD · 0) m n j->i=j:=fun i j hi hj e=>by
  rw[hnm i hi,hnm j hj] at e
  have hi':i<(is++[n]).length:=by omega
  have hj':j<(is++[n]).length:=by omega
  rw[show(is++[n]).getD i 0=(is++[n])[i] from by rw[List.getD_eq_getElem?_getD,List.getElem?_eq_getElem hi']; rfl,show(is++[n]).getD j 0=(is++[n])[j] from by rw[List.getD_eq_getElem?_getD,List.getElem?_eq_getElem hj']; rfl] at e
  have hpw:=List.pairwise_iff_getElem.1 nd
  rcases Nat.lt_trichotomy i j with q|q|q
  ·exact absurd e (hpw i j hi' hj' q)
  ·exact q
  ·exact absurd e.symm (hpw j i hj' hi' q)
 have hD: ∀ i,((pre.ay i).isSome=true\/i=m)->i<=m:=fun i hi=>hi.elim (fun q=>Nat.le_of_lt (hsome i q)) (fun q=>by omega)
 have inj: ∀ i j,((pre.ay i).isSome=true\/i=m)->((pre.ay j).isSome=true\/j=m)->nameAt (is.getD · 0) m n i=nameAt (is.getD · 0) m n j->i=j:=fun i j hi hj e=>hinj i j (hD i hi) (hD j hj) e
 have hne: ∀ i,i<m->nameAt (is.getD · 0) m n i=is.getD i 0:=fun i hi=>if_neg (by omega)
 refine ah.heap (post:=fun t' h'=> ∃ t h1,post t h1/\t'=t.ren (nameAt (is.getD · 0) m n)/\h'=placed (is.getD · 0) m n pre.ay h.ay h1) ?_ ?_
 ·rw[<- ha]
  refine aN.place H (T.aA hlt _ (EF hid)) (fun a ob hob=>⟨T.aA hlt _ (hG a ob hob).2.1,(hG a ob hob).2.2⟩) ?_ (fun a ob hob=>?_) (fun i j hi hj e=>hinj i j (Nat.le_of_lt (hsome i hi)) (Nat.le_of_lt (hsome j hj)) (by rw[hne i (hsome i hi),hne j (hsome j hj)]; exact e))
  ·cases e:pre.ay m with
   |none=>rfl
   |some ob=>have:=(hG m ob e).1; omega
  ·simp only[Hz.ay,Option.map_eq_some_iff] at hob
   obtain⟨o,e1,rfl⟩:=hob
   obtain⟨o',a1,a2⟩:=Xa hpl e1
   rw[aZ a1,<- a2]
 ·rintro t' h' ⟨t,h1,hp,rfl,rfl⟩
  obtain⟨v,rs,hr,hv,hat,hk⟩:=hK t h1 hp
  refine⟨v,_,hv,?_,hk⟩
  funext a
  by_cases he: ∃ i,i<=m/\(is++[n]).getD i 0=a
  ·obtain⟨i,hi,rfl⟩:=he
   rw[acg (by omega) nd (by omega),Xb hat (by omega),Nat.zero_add,<- hnm i hi]
   have hin:(pre.ay i).isSome=true\/i=m:=by
    by_cases e:i=m
    ·exact .inr e
    ·exact .inl (hlt i (by omega))
   exact FH (h:=h.ay) (h1:=h1) inj hin
  ·have hoff:a ∉ is++[n]:=fun hmem=>by
    obtain⟨i,hi,e⟩:=List.getElem_of_mem hmem
    exact he ⟨i,by omega,by rw[List.getD_eq_getElem?_getD,List.getElem?_eq_getElem hi]; exact e⟩
   rw[ZT hoff]
   exact Jv (fun⟨i,hi,e⟩=>he ⟨i,hD i hi,by rw[<- hnm i (hD i hi)]; exact e⟩)
end
section
variable {P:Program}
structure Dfr where
 d:Nat
 g:FuncId
 x:Nat
 y:Nat
def afY:List Oper->Option Dfr
 |[o1,o2]=>match o1.op,o1.dst,o1.guard,o2.op,o2.dst,o2.guard with
  | .makeFunc (.func g) ⟨[]⟩ ⟨[.tmp x,.tmp y]⟩,some d,none,.defer ⟨.value (.tmp e),⟨[]⟩,⟨[]⟩⟩,none,none=>bif Nat.beq d e then some ⟨d,g,x,y⟩ else none
  |_,_,_,_,_,_=>none
 |_=>none
def ZU(P:Program):Code->Option (eu×Dfr×eu)
 | .seq (.region id ops false) c=>match afY ops.toList with
  |some i=>(comp P c).map fun b=>(.skip,i,b)
  |none=>match comp P (.region id ops false),ZU P c with
   |some a,some (a',i,b)=>some (.seq a a',i,b)
   |_,_=>none
 | .seq a c=>match comp P a,ZU P c with
  |some a,some (a',i,b)=>some (.seq a a',i,b)
  |_,_=>none
 |_=>none
def ach(P:Program)(f:FuncId)(ts:List T)(h:Hp)(n:Nat)(post:Hp->Prop):Prop :=
 ∀ (F:Fr P) (M:Nat->Prop) (E:Env) (vs:List Value),qy F E->E.h=h->bW E ts vs->T.aJ M ts->lT M h-> ¬ M n ->
  CallsD P f vs.toArray .returning E.w fun e u w'=>u= .returning/\Ends F M E n (fun _ h'=>post h') e w'
structure ag4(P:Program)(f:FuncId)(a b:eu)(i:Dfr)(rs:List RV)(nt:Nat):Prop where
 ex: ∃ fn c,P.funcs[f]? =some fn/\fn.body=some c/\ZU P c=some (a,i,b)/\kM P fn.results.toList=some rs/\fn.ntmps=nt
 cl:callable P f
 dst:(rC nt a&&rC nt b&&Nat.blt i.d nt)=true
structure ahd(P:Program)(g:FuncId)(us:List V)(h:Hz)(nx pn:Nat)(K:Hz->Prop):Prop where
 ok:T.JX pn (V.bn us)=true/\ach P g (V.bn us) h.ay nx fun hp=> ∃ h':Hz,hp=h'.ay/\K h'
theorem aN.frz{f:FuncId}{ts ts2:List T}{h h2:Hp}{n:Nat}{post:T->Hp->Prop}(Z:Nat->Prop)(H:aN P f ts2 h2 n post)(hs:T.dM Z h ts2 ts)
  (ho: ∀ i ob,h2 i=some ob-> ∃ ob',h i=some ob'/\ ¬ Z i/\ob'.ty=ob.ty/\ob'.k=ob.k/\T.dM Z h ob.l ob'.l/\ob.l.map T.kd=ob'.l.map T.kd/\ob.l.map fV=ob'.l.map fV):aN P f ts h n post:=by
 obtain⟨h1,hcl,hcall⟩:=H
 refine⟨h1,hcl,fun F M E vs hk he hrep hid hm hn=>?_⟩
 subst he
 have Kv: ∀ i ob,h2 i=some ob-> ∃ ob',E.h (id i)=some ob'/\ ¬ Z (id i)/\Ls Z E.h id ob ob':=fun i ob hi=>by
  obtain⟨ob',a1,a2,a3,a4,a5,a6,a7⟩:=ho i ob hi
  refine⟨ob',a1,a2,a3,a4,by rw[Ag]; exact a5,?_⟩
  have hkd:=(hk.obs i ob' a1).1.kinds
  rw[<- a4]
  rcases hkd with ⟨g1,g2⟩|⟨g1,g2⟩
  ·exact .inl ⟨g1,Qh a7 g2⟩
  ·exact .inr ⟨g1,LV a6 g2⟩
 let E2:Env:=(E.shut Z).ren id h2
 have hk2:qy F E2:=hk.ren Kv fun i j _ _ e=>e
 have hl: ∀ i,(h2 i).isSome=true->((E.shut Z).h (id i)).isSome=true:=fun i hi=>by
  obtain⟨ob,hob⟩:=Option.isSome_iff_exists.1 hi
  obtain⟨ob',b1,b2,_⟩:=Kv i ob hob
  rw[wK b2,b1]; rfl
 have afZ:bW E2 ts2 vs:=by
  have e:T.dQ id ts2=ts2:=Ag ts2
  have:=sG hk _ _ hs _ hrep
  rw[<- e] at this
  exact yh hl _ _ this
 refine(hcall F M E2 vs hk2 rfl afZ (tC _ _ hs hid) (fun i ob hi=>?_) hn).mono ?_
 ·obtain⟨ob',a1,_,_,_,a5,_⟩:=ho i ob hi
  exact⟨(hm i ob' a1).1,tC _ _ a5 (hm i ob' a1).2⟩
 ·rintro e w' ⟨v,t,E',rfl,rfl,r3,r4,r5,r6,r7,r8,r9⟩
  refine⟨v,t,E',rfl,rfl,r3,r4,r5,⟨fun g hg=>r6.s g (.inl hg),fun g hg=>r6.w g (hg.imp .inl id),r6.size,r6.os,r6.tape,r6.output,r6.dr⟩,fun i hi hsome=>?_,r8,r9⟩
  obtain⟨q1,q2,q3⟩:=r7 i hi hsome
  obtain⟨ob,hob⟩:=Option.isSome_iff_exists.1 q1
  obtain⟨ob',a1,_⟩:=ho i ob hob
  exact⟨by rw[a1]; rfl,q2,q3⟩
end
section
variable {P:Program}
theorem aci{w w':World}(hh: ∀ g,g<w.heap.size->w'.heap[g]? =w.heap[g]?)(hs:w.heap.size<=w'.heap.size)(ho:w'.os=w.os)(ht:w'.tape=w.tape)(hp:w'.output=w.output)(hd:w.drawn<=w'.drawn) :
  ∃ q os,w'=Sort.grow (w.drewN q) os:=by
 refine⟨w'.drawn-w.drawn,w'.heap.extract w.heap.size w'.heap.size,?_⟩
 obtain⟨h1,t1,d1,o1,p1⟩:=w
 obtain⟨h2,t2,d2,o2,p2⟩:=w'
 simp only at hh hs ho ht hp hd
 subst ho ht hp
 simp only[Sort.grow,World.drewN]
 congr 1
 ·apply Array.ext_getElem?
  intro i
  rw[Array.getElem?_append]
  split
  ·rename_i hi; rw[hh i hi]
  ·rename_i hi
   simp only[Array.getElem?_extract]
   by_cases hi2:i<h2.size
   ·rw[if_pos (by omega)]
    congr 1; omega
   ·rw[Array.getElem?_eq_none (by omega),if_neg (by omega)]
 ·omega
def El(E:Env)(l:List T)(k:Nat):Type:= {p:T×List Value // p.1∈l/\aK E p.1 p.2/\p.2.length=k/\ ∀ v∈p.2,v.oneCell'=true}
theorem TP{E:Env}{k:Nat}: ∀ {l:List T} {vs:List Value},l.length*bG k<=vs.length->(∀ j t,l[j]? =some t->t.kd=k/\(∀ v∈(vs.drop (j*bG k)).take (bG k),v.oneCell'=true)/\aK E t ((vs.drop (j*bG k)).take (bG k)))->aB E k l vs:=by
 intro l
 induction l with
 |nil=>intro vs _ _; trivial
 |cons t ts ih =>
  intro vs hl H
  simp only[List.length_cons,Nat.add_mul,Nat.one_mul] at hl
  obtain⟨h1,h2,h3⟩:=H 0 t rfl
  simp only[Nat.zero_mul,List.drop_zero] at h2 h3
  refine⟨h1,by omega,h2,h3,ih (by simp; omega) fun j u hj=>?_⟩
  have:=H (j+1) u (by simpa using hj)
  rw[List.drop_drop]
  rw[Nat.add_mul,Nat.one_mul,Nat.add_comm (j*bG k)] at this
  exact this
theorem TQ{w:World}{g:Nat}{cur:Array Value}{ty:TypeId}(h:w.heap[g]? =some (.cells cur ty (0,0)))(off:Nat):w.frozen? ⟨g,off,none⟩=false:=by
 simp[World.frozen?,h]
open Go.Proofs in
set_option maxHeartbeats 1000000 in
theorem aN.sort{ρ:Shelf.Ren}(L:SlLaysF0.n6 P ρ)(k:Nat)(hk0:0<k)(aE: ∀ w,(isAgg (ρ.t 24)).run P w= .ok true w)(zE: ∀ w,(Go.sizeOf (ρ.t 24)).run P w= .ok k w)(hcl:callable P (ρ.f 6))
  {g:Nat} (hg:g<4096) (hgc:callable P g) {l:List T} (hne:l≠[]) (hkd: ∀ t∈l,t.kd=k+1) (hfree:T.bC l=true) (hlen:l.length<4611686018427387904) (cf:T->T->Int)
  (agS: ∀ x∈l,¬ cf x x<0) (htr: ∀ x∈l,∀ y∈l,∀ z∈l,cf x y<0->cf y z<0->cf x z<0) (hnt: ∀ x∈l,∀ y∈l,∀ z∈l,¬ cf x y<0-> ¬ cf y z<0-> ¬ cf x z<0)
  (hc: ∀ x∈l,∀ y∈l,qL P g [x,y] (.int (cf x y))) (hkm:k+1≠dI) (hex: ∃ l':List T,l'.Perm l/\l'.Pairwise (fun a b=> ¬ cf b a<0)) {h:Hp} {i ty n:Nat} (hi:h i=some ⟨ty,k+1,l⟩) :
  aN P (ρ.f 6) [.own i,.fn g []] h n fun t h'=>t= .fP []/\ ∃ l',l'.Perm l/\l'.Pairwise (fun a b=> ¬ cf b a<0)/\h'=upd h i (some ⟨ty,k+1,l'⟩):=by
 refine⟨?_,hcl,fun F M E vs hk he hts hid hm hn=>?_⟩
 ·obtain⟨l',h1,h2⟩:=hex
  exact⟨_,_,rfl,l',h1,h2,rfl⟩
 subst he
 simp only[bY] at hts
 obtain⟨v0,r0,rfl,hv0,v1,r1,rfl,hv1,hnil⟩:=hts
 simp only[bW] at hnil
 subst hnil
 rw[au rfl] at hv0 hv1
 simp only[aK] at hv0 hv1
 obtain⟨u0,hu0,hlive⟩:=hv0
 obtain⟨cs,hu1,hcs⟩:=hv1
 simp only[aY] at hcs
 have agT:v0=E.φ i:=by have:=hlive (by rw[hi]; rfl); simp only[List.cons.injEq,and_true] at hu0; rw[hu0,this]
 have hcs':cs= #[]:=Array.eq_empty_of_size_eq_zero (by simpa using congrArg List.length hcs)
 have agU:v1= .func (.func g) #[] #[]:=by simp only[List.cons.injEq,and_true] at hu1; rw[hu1,hcs',Nv hg]
 obtain⟨hob,EU,hsz⟩:=hk.obs i _ hi
 have hrow:=hob.row hkm
 rcases hrow with ⟨a,_,hl0⟩|⟨b,c,cur,hφ,hlc,hcm,hcell,hcsz,hrr⟩
 ·exact absurd hl0 hne
 simp only at hφ hlc hcell hcsz hrr
 have Ws:bG (k+1)=k:=rfl
 rw[Ws] at hcsz
 have hrb:rowB (E.φ i)=some b:=by rw[hφ]; rfl
 obtain⟨hbS,hbF⟩:=hk.out i _ b hi hrb
 have hblt:b<E.w.heap.size:=hob.lt hrb
 subst agT agU
 have hlen0:0<l.length:=List.length_pos_iff.2 hne
 have hcur:l.length*k<=cur.toList.length:=by
  have:=zW hrr; rw[Ws] at this; exact this
 have hget: ∀ j t,l[j]? =some t->aK E t ((cur.toList.drop (j*k)).take k)/\((cur.toList.drop (j*k)).take k).length=k/\ ∀ v∈(cur.toList.drop (j*k)).take k,v.oneCell'=true:=by
  intro j t hj
  obtain⟨hjl,rfl⟩:=List.getElem?_eq_some_iff.1 hj
  have:=sV hrr hjl
  rw[Ws] at this
  obtain⟨h1,h2,h3,h4⟩:=this
  have hle:j*k+k<=cur.toList.length:=by
   have:(j+1)*k<=l.length*k:=Nat.mul_le_mul_right _ hjl
   rw[Nat.add_mul,Nat.one_mul] at this; omega
  have hlen':((cur.toList.drop (j*k)).take k).length=k:=by rw[List.length_take,List.length_drop]; omega
  have e:l.getD j .any=l[j]:=by simp[hjl]
  rw[e] at h4
  exact⟨h4,hlen',h3⟩
 let acj:(j:Fin l.length)->El E l k:=fun j=>⟨(l[j],(cur.toList.drop (j*k)).take k),List.getElem_mem j.2,(hget j l[j] (List.getElem?_eq_getElem j.2)).1,(hget j l[j] (List.getElem?_eq_getElem j.2)).2.1,(hget j l[j] (List.getElem?_eq_getElem j.2)).2.2⟩
 haveI:Inhabited (El E l k):=⟨acj ⟨0,hlen0⟩⟩
 let d:Array (El E l k):=Array.ofFn acj
 have hd:d.size=l.length:=by simp[d]
 let enc:El E l k->List Value:=fun p=>p.1.2
 let cg:El E l k->El E l k->Int:=fun p q=>cf p.1.1 q.1.1
 have hO:Sort.SWO (ltOf cg):= {
  irrefl:=fun x=>by simp only[ltOf,cg]; exact decide_eq_false (agS _ x.2.1)
  trans:=fun x y z h1 h2=>by
   simp only[ltOf,cg,decide_eq_true_eq] at h1 h2 ⊢
   exact htr _ x.2.1 _ y.2.1 _ z.2.1 h1 h2
  ntrans:=fun x y z h1 h2=>by
   simp only[ltOf,cg,decide_eq_false_iff_not] at h1 h2 ⊢
   exact hnt _ x.2.1 _ y.2.1 _ z.2.1 h1 h2}
 have henc: ∀ x:El E l k,(enc x).length=k:=fun x=>x.2.2.2.1
 have hone: ∀ x:El E l k,∀ v∈enc x,v.oneCell'=true:=fun x=>x.2.2.2.2
 have hsw: ∀ (m:Nat) (os:Array Obj) (dk:Array (El E l k)) (q:Nat),q<E.w.heap.size->q≠b->(sortWorldK enc k E.w b 0 m dk os).heap[q]? =E.w.heap[q]? :=by
  intro m os dk q hq hqb
  unfold sortWorldK
  rw[Sort.heap_grow_old _ _ (by simpa [Sort.putRowK] using hq)]
  simp only[Sort.putRowK,Sort.putRow,Sort.mapBlock,Array.getElem?_modify]
  rw[if_neg (Ne.symm hqb)]; rfl
 have hsz': ∀ (m:Nat) (os:Array Obj) (dk:Array (El E l k)),E.w.heap.size<=(sortWorldK enc k E.w b 0 m dk os).heap.size:=by
  intro m os dk
  unfold sortWorldK
  rw[Sort.size_grow]; simp[Sort.putRowK]
 have hcmp:CmpLays P g #[] enc k cg b 0 d.size E.w:=by
  intro m os dk hdk x y
  generalize hW:sortWorldK enc k E.w b 0 m dk os=W
  have hWb: ∀ q,q<E.w.heap.size->q≠b->W.heap[q]? =E.w.heap[q]? :=fun q h1 h2=>by rw[<- hW]; exact hsw m os dk q h1 h2
  have hWs:E.w.heap.size<=W.heap.size:=by rw[<- hW]; exact hsz' m os dk
  let E1:Env:= {w:=W,S:=E.S,φ:=E.φ,κ:=E.κ,h:=no}
  let F1:Fr P:= {s:=fun q=>q<W.heap.size/\ ¬ E.S q}
  have hnS: ∀ q,E.S q->q<E.w.heap.size/\q≠b:=fun q hq=>⟨hk.slt q hq,fun e=>hbS (e▸hq)⟩
  have hk1:qy F1 E1:=by
   refine⟨(fun i ob hi=>by cases hi),(fun i ob g hi=>by cases hi),(fun i j oi oj g _ hi=>by cases hi),fun q hq=>Nat.lt_of_lt_of_le (hk.slt q hq) hWs,fun q hq=>hq.1,fun q hs hq=>hq.2 hs,fun q cs hq=>?_⟩
   obtain⟨h1,ty',m',h2⟩:=hk.gl q cs hq
   have hqb:q≠b:=fun e=>hbF (e▸h1)
   refine⟨⟨Nat.lt_of_lt_of_le (hk.flt q h1) hWs,fun hs=>hk.sf q hs h1⟩,ty',m',?_⟩
   show W.heap[q]? =_
   rw[hWb q (hk.flt q h1) hqb]; exact h2
  have hkeep:Keeps E E1 (fun _=>False):=⟨fun _ h=>h,fun q hq=>hWb q (hnS q hq).1 (hnS q hq).2,fun _ hf=>hf.elim⟩
  have hrep: ∀ z:El E l k,jI E1 z.1.1 (.agg (enc z).toArray):=fun z=>by
   have hzf:z.1.1.free=true:=fU.1 hfree _ z.2.1
   have hzk:=hkd _ z.2.1
   exact .inl ⟨by rw[hzk]; exact Nat.succ_ne_zero _,(enc z).toArray,rfl,by simpa using fH _ _ hkeep (dU hzf) _ z.2.2.1⟩
  obtain⟨_,_,hcall⟩:=(hc x.1.1 x.2.1 y.1.1 y.2.1).call 0
  have:=hcall F1 (fun _=>False) E1 [.agg (enc x).toArray,.agg (enc y).toArray] hk1 rfl (by
   simp only[bY]; exact⟨_,_,rfl,hrep x,_,_,rfl,hrep y,rfl⟩) (dB (hc x.1.1 x.2.1 y.1.1 y.2.1).free) (tY _) (fun h=>h)
  refine(this.mono ?_)
  rintro e w' ⟨v,t,E2,rfl,rfl,⟨rfl,_⟩,hv,_,hext,_⟩
  have hv':v= .int .i64 (cg x y):=aH.1 hv
  refine⟨by rw[hv'],?_⟩
  refine aci (fun q hq=>hext.w q ?_) hext.size hext.os hext.tape hext.output hext.dr
  by_cases hs:E.S q
  ·exact .inl hs
  ·exact .inr ⟨hq,hs⟩
 have hdj: ∀ j,j<l.length->enc d[j]! =(cur.toList.drop (j*k)).take k:=by
  intro j hj
  rw[getElem!_pos d j (by rw[hd]; exact hj)]
  show(((Array.ofFn acj)[j]'(by simpa using hj)).1.2)=_
  rw[Array.getElem_ofFn]
 have hH:Sort.HoldsK enc k E.w b 0 d:=by
  intro t ht
  rw[Sort.size_flatK,hd] at ht
  refine⟨?_,TQ hcell _⟩
  have hq:t / k<l.length:=Nat.div_lt_of_lt_mul (by rw[Nat.mul_comm]; exact ht)
  have hr:t % k<k:=Nat.mod_lt _ hk0
  rw[Sort.get_flatK _ _ _ _ (by rw[hd]; exact ht),hdj _ hq,Nat.zero_add]
  have hdm:t / k*k+t % k=t:=by rw[Nat.mul_comm]; exact Nat.div_add_mod t k
  have htc:t<cur.size:=by simp at hcur; omega
  have hle:t / k*k+k<=cur.toList.length:=by
   have:(t / k+1)*k<=l.length*k:=Nat.mul_le_mul_right _ hq
   rw[Nat.add_mul,Nat.one_mul] at this; omega
  have hlt:t % k<((cur.toList.drop (t / k*k)).take k).length:=by rw[List.length_take,List.length_drop]; omega
  rw[getElem!_pos ((cur.toList.drop (t / k*k)).take k) (t % k) hlt]
  simp only[World.cell?,hcell]
  rw[List.getElem_take,List.getElem_drop]
  simp[hdm,htc]
 have hcon:=AnyQ.slices_SortFunc L k aE zE enc henc hone cg hO g #[] b 0 (c+1) d E.w hgc hcmp hH hblt (by rw[hd]; exact hlen)
 have hargs:([E.φ i,Value.func (.func g) #[] #[]]:List Value).toArray= #[.slice (some ⟨b,0,none⟩) d.size (c+1),.func (.func g) #[] #[]]:=by
  rw[hφ,hd]
 rw[hargs]
 refine hcon.mono ?_
 rintro e w' ⟨rfl,d',nn,os,hperm,hsort,hw⟩
 have hd':d'.size=l.length:=by rw[hperm.1,hd]
 let l':List T:=d'.toList.map fun p=>p.1.1
 have hl':l'.length=l.length:=by simp[l',hd']
 have hdl:d.toList.map (fun p=>p.1.1)=l:=by
  apply List.ext_getElem
  ·simp[hd]
  ·intro j h1 h2
   rw[List.getElem_map]
   have hj:j<l.length:=h2
   show((Array.ofFn acj).toList[j]'(by simpa using hj)).1.1=l[j]
   rw[Array.getElem_toList,Array.getElem_ofFn]; rfl
 have hp:l'.Perm l:=by
  have:=hperm.2.2
  have e1:(d'.extract 0 d.size)=d':=by rw[hd,<- hd']; simp
  have e2:(d.extract 0 d.size)=d:=by simp
  rw[e1,e2] at this
  have:=this.map (fun p:El E l k=>p.1.1)
  rw[hdl] at this; exact this
 have hpw:l'.Pairwise (fun a b=> ¬ cf b a<0):=by
  rw[List.pairwise_iff_getElem]
  intro x y hx hy hxy
  simp only[l',List.getElem_map,Array.getElem_toList]
  have hx':x<d'.size:=by simpa [l'] using hx
  have hy':y<d'.size:=by simpa [l'] using hy
  have:=hsort x y (Nat.zero_le _) hxy (by rw[hd,<- hd']; exact hy')
  rw[getElem!_pos d' x hx',getElem!_pos d' y hy'] at this
  simpa [ltOf,cg] using this
 let F':Array Value:=Sort.flatK enc k d'
 have hF':F'.size=l.length*k:=by simp[F',hd']
 let cs':Array Value:=Sort.putCells id 0 F' cur
 have TR:cs'.size=cur.size:=by simp[cs',Sort.putCells]
 have hcell':w'.heap[b]? =some (.cells cs' ty (0,0)):=by
  rw[hw]
  unfold sortWorldK
  rw[Sort.heap_grow_old _ _ (by simpa [Sort.putRowK] using hblt)]
  simp only[Sort.putRowK,Sort.putRow,Sort.mapBlock,Array.getElem?_modify]
  rw[if_pos trivial]
  show(E.w.heap[b]?).map _=_
  rw[hcell]; rfl
 have hold': ∀ q,q<E.w.heap.size->q≠b->w'.heap[q]? =E.w.heap[q]? :=fun q h1 h2=>by rw[hw]; exact hsw nn os d' q h1 h2
 have hsize':E.w.heap.size<=w'.heap.size:=by rw[hw]; exact hsz' nn os d'
 let E':Env:= {w:=w',S:=E.S,φ:=E.φ,κ:=E.κ,h:=upd E.h i (some ⟨ty,k+1,l'⟩)}
 have hlf:T.bC l'=true:=by
  rw[fU] at hfree ⊢
  exact fun t ht=>hfree t (hp.mem_iff.1 ht)
 have hext:Ext F E E':=by
  refine⟨fun _ h=>h,fun q hq=>hold' q ?_ ?_,hsize',by show w'.os=_; rw[hw]; rfl,by show w'.tape=_; rw[hw]; rfl,by show w'.output=_; rw[hw]; rfl,by show _<=w'.drawn; rw[hw]; exact Nat.le_add_right _ _⟩
  ·rcases hq with hq|hq
   ·exact hk.slt q hq
   ·exact hk.flt q hq
  ·rintro rfl
   rcases hq with hq|hq
   ·exact hbS hq
   ·exact hbF hq
 have hS:Same E E' M:=by
  intro j _ hj
  refine⟨?_,rfl,rfl⟩
  by_cases hji:j=i
  ·subst hji; rw[hi]; rfl
  ·simpa [E',upd,hji] using hj
 have hK:Keeps E E' M:=.of hext hS
 have agV:aB E' (k+1) l' cs'.toList:=by
  refine TP (by rw[Ws,hl']; simp only[Array.length_toList,TR]; simpa using hcur) fun j t hj=>?_
  rw[Ws]
  obtain⟨hjl,rfl⟩:=List.getElem?_eq_some_iff.1 hj
  have hjx:j<d'.size:=by simpa [l'] using hjl
  have ht:l'[j]=(d'[j]'(hjx)).1.1:=by simp[l']
  have hcells:(cs'.toList.drop (j*k)).take k=enc d'[j]:=by
   have hle:j*k+k<=l.length*k:=by
    have:(j+1)*k<=l.length*k:=Nat.mul_le_mul_right _ (by rw[<- hd']; exact hjx)
    rw[Nat.add_mul,Nat.one_mul] at this; exact this
   have ag5:l.length*k<=cur.size:=by simpa using hcur
   apply List.ext_getElem
   ·rw[List.length_take,List.length_drop,henc]; simp only[Array.length_toList,TR]; omega
   ·intro x hx1 hx2
    rw[henc] at hx2
    rw[List.getElem_take,List.getElem_drop,Array.getElem_toList]
    have hin:j*k+x<F'.size:=by rw[hF']; omega
    show(Sort.putCells id 0 F' cur)[j*k+x]'_=_
    simp only[Sort.putCells,Array.getElem_mapIdx,Nat.zero_le,true_and,Nat.zero_add,Nat.sub_zero]
    rw[if_pos hin]
    show F'[j*k+x]! =_
    show(Sort.flatK enc k d')[j*k+x]! =_
    rw[Sort.get_flatK _ _ _ _ (by rw[hd']; omega)]
    have e1:(j*k+x) / k=j:=by rw[Nat.mul_comm,Nat.mul_add_div hk0,Nat.div_eq_of_lt hx2,Nat.add_zero]
    have e2:(j*k+x) % k=x:=by rw[Nat.mul_comm,Nat.mul_add_mod,Nat.mod_eq_of_lt hx2]
    rw[e1,e2,getElem!_pos d' j hjx,getElem!_pos _ x (by rw[henc]; exact hx2)]
  rw[hcells,ht]
  refine⟨hkd _ d'[j].2.1,hone _,?_⟩
  exact fH _ _ hK (T.bD (fun _ h=>h.elim) _ (dU (fU.1 hfree _ d'[j].2.1))) _ d'[j].2.2.1
 have dZ:rZ E' ⟨ty,k+1,l'⟩ (E.φ i):=by
  refine .inl ⟨hkm,.inr ⟨b,c,cs',by rw[hφ]; simp only[hl'],by simp only[hl']; exact hlc,hcm,hcell',by rw[TR]; exact hcsz,agV⟩⟩
 have hhm:lT M E.h:=hm
 refine⟨.tuple #[],.fP [],E',rfl,rfl,⟨rfl,l',hp,hpw,rfl⟩,?_,?_,hext,hS,by simp[T.ids,T.aJ],?_⟩
 ·rw[au rfl]; simp only[aK]; exact⟨#[],rfl,rfl⟩
 ·have hsome: ∀ j oj,E'.h j=some oj-> ∃ YW,E.h j=some YW:=fun j oj hj=>by
   by_cases hji:j=i
   ·subst hji; exact⟨_,hi⟩
   ·exact⟨oj,by simpa [E',upd,hji] using hj⟩
  refine⟨fun j oj hj=>?_,fun j oj q hj hq=>?_,fun j j' oj YW q hjj hj hj' hq hq'=>?_,fun q hq=>Nat.lt_of_lt_of_le (hk.slt q hq) hsize',fun q hq=>Nat.lt_of_lt_of_le (hk.flt q hq) hsize',hk.sf,hext.gl hk⟩
  ·by_cases hji:j=i
   ·subst hji
    have:oj=⟨ty,k+1,l'⟩:=by simpa [E',upd] using hj.symm
    subst this
    exact⟨dZ,EU,hsz⟩
   ·have hj0:E.h j=some oj:=by simpa [E',upd,hji] using hj
    obtain⟨k1,k2,k3⟩:=hk.obs j oj hj0
    refine⟨k1.keep hK (hhm j oj hj0).2 fun q hq=>hold' q (k1.lt hq) ?_,k2,k3⟩
    rintro rfl
    exact hk.sep j i oj _ q hji hj0 hi hq hrb
  ·obtain⟨YW,hj0⟩:=hsome j oj hj
   exact hk.out j YW q hj0 hq
  ·obtain⟨o1,h1⟩:=hsome j oj hj
   obtain⟨o2,h2⟩:=hsome j' YW hj'
   exact hk.sep j j' o1 o2 q hjj h1 h2 hq hq'
 ·intro j oj hj
  by_cases hji:j=i
  ·subst hji
   have:oj=⟨ty,k+1,l'⟩:=by simpa [E',upd] using hj.symm
   subst this
   exact⟨.inl (hhm j _ hi).1,T.aA (fun _ h=>h.elim) _ (dB hlf)⟩
  ·have hj0:E.h j=some oj:=by simpa [E',upd,hji] using hj
   exact⟨.inl (hhm j oj hj0).1,T.aA (fun _ h=>.inl h) _ (hhm j oj hj0).2⟩
end
section
variable {P:Program}
structure TabAt(P:Program)(f:Nat)(o:Option FnX):Prop where
 use: ∀ {b},o=some b-> ∃ fn c,P.funcs[f]? =some fn/\fn.body=some c/\comp P c=some b.code/\kM P fn.results.toList=some b.rs/\callable P f/\fn.ntmps=b.nt
theorem TabAt.leaf{n f:Nat}{c:eu}{rs:List RV}{nt:Nat}(B:Body P n c rs nt):TabAt P f (bif Nat.beq f n then some ⟨c,rs,nt⟩ else none):=⟨fun {b} h=>by
 cases hb:Nat.beq f n with
 |false=>rw[hb] at h; cases h
 |true =>
  rw[hb] at h; cases h
  have:=FK hb; subst this
  obtain⟨fn,c,h1,h2,h3,h4,h5⟩:=B.ex
  exact⟨fn,c,h1,h2,h3,h4,B.cl,h5⟩⟩
theorem TabAt.node{f:Nat}{c:Bool}{x y:Option FnX}(hx:TabAt P f x)(hy:TabAt P f y):TabAt P f (bif c then x else y):=⟨fun {b} h=>by
 cases c with
 |true=>exact hx.use h
 |false=>exact hy.use h⟩
end
section
variable {P:Program} {H:Type} {enc:TypeId×Value->H}
inductive Sh where
 |int
 |u64
 |str
 |bool
 |sl (k:Nat) (s:Sh)
 |st (l:List Sh)
mutual
def Sh.cells:Sh->Nat
 | .st l=>Sh.xC l
 |_=>1
def Sh.xC:List Sh->Nat
 |[]=>0
 |s::l=>s.cells+Sh.xC l
end
def Sh.kd:Sh->Nat
 | .st l=>Sh.xC l+1
 |_=>0
mutual
def Sh.fits(P:Program):Sh->TypeId->Bool
 | .int,t=>match P.underlying t with|some (.int .i64)=>true|_=>false
 | .u64,t=>match P.underlying t with|some (.int .u64)=>true|_=>false
 | .str,t=>match P.underlying t with|some .string=>true|_=>false
 | .bool,t=>match P.underlying t with|some .bool=>true|_=>false
 | .sl k s,t=>match P.underlying t with
  |some (.slice e)=>s.fits P e&&Nat.beq s.kd k&&Nat.beq (P.cellsOf e) s.cells&&Nat.blt 0 s.cells
  |_=>false
 | .st l,t=>match P.underlying t with
  |some (.struct fs)=>Sh.MG P l fs.toList 0&&Nat.beq (P.cellsOf t) (Sh.xC l)
  |_=>false
def Sh.MG(P:Program):List Sh->List Field->Nat->Bool
 |[],[],_=>true
 |s::l,f::fs,off=>s.fits P f.type&&Nat.beq f.offset off&&Nat.beq (P.cellsOf f.type) s.cells&&Sh.MG P l fs (off+s.cells)
 |_,_,_=>false
end
mutual
def Sh.aG:Sh->DataW H->T
 | .int,.lit (.int _ n)=>.int n
 | .u64,.lit (.int _ n)=>.lit (.int .u64 n)
 | .str,.lit (.string l)=>.lit (.string ⟨l.toArray⟩)
 | .bool,.lit (.bool b)=>.bool b
 | .sl k s,.slice es _=>.sl k false (es.map s.aG)
 | .sl k _,.nil=>.sl k false []
 | .st l,.agg ds=>.agg (Sh.Dl l ds)
 |_,_=>.any
def Sh.Dl:List Sh->List (DataW H)->List T
 |s::l,d::ds=>(s.aG d).cells++Sh.Dl l ds
 |_,_=>[]
end
def Ve(v:Value):Prop:= ∀ n,v≠ .int .u8 n
mutual
def Sh.wf:Sh->DataW H->Prop
 | .int,d=> ∃ n,d= .lit (.int .i64 n)/\(Lit.int .i64 n).wf=true
 | .u64,d=> ∃ n,d= .lit (.int .u64 n)/\(Lit.int .u64 n).wf=true
 | .str,d=> ∃ l,d= .lit (.string l)
 | .bool,d=> ∃ b,d= .lit (.bool b)
 | .sl _ s,d=>d= .nil\/ ∃ es sp,d= .slice es sp/\ ∀ x∈es,s.wf x
 | .st l,d=> ∃ ds,d= .agg ds/\Sh.TS l ds
def Sh.TS:List Sh->List (DataW H)->Prop
 |[],ds=>ds=[]
 |s::l,ds=> ∃ d r,ds=d::r/\s.wf d/\Sh.TS l r
end
structure Rd(E:Env)(s:Sh)(d:DataW H)(cs:List Value):Prop where
 rep:aK E (s.aG d) cs
 len:cs.length=s.cells
 one: ∀ v∈cs,v.oneCell'=true
 u8: ∀ v∈cs,Ve v
 free:(s.aG d).free=true
 kd:(s.aG d).kd=s.kd
 wf:s.wf d
structure RdL(E:Env)(l:List Sh)(ds:List (DataW H))(cs:List Value):Prop where
 rep:aY E (Sh.Dl l ds) cs
 len:cs.length=Sh.xC l
 one: ∀ v∈cs,v.oneCell'=true
 u8: ∀ v∈cs,Ve v
 free:T.bC (Sh.Dl l ds)=true
 cnt:(Sh.Dl l ds).length=Sh.xC l
 wf:Sh.TS l ds
theorem QF{E:Env}{k:Nat}: ∀ {l:List T} {vs:List Value},l.length*bG k<=vs.length->(∀ j t,l[j]? =some t->t.kd=k/\(∀ v∈(vs.drop (j*bG k)).take (bG k),v.oneCell'=true)/\aK E t ((vs.drop (j*bG k)).take (bG k)))->aB E k l vs:=by
 intro l
 induction l with
 |nil=>intro vs _ _; trivial
 |cons t ts ih =>
  intro vs hl H
  simp only[List.length_cons,Nat.add_mul,Nat.one_mul] at hl
  obtain⟨h1,h2,h3⟩:=H 0 t rfl
  simp only[Nat.zero_mul,List.drop_zero] at h2 h3
  refine⟨h1,by omega,h2,h3,ih (by simp; omega) fun j u hj=>?_⟩
  have:=H (j+1) u (by simpa using hj)
  rw[List.drop_drop]
  rw[Nat.add_mul,Nat.one_mul,Nat.add_comm (j*bG k)] at this
  exact this
theorem Xd{E:Env}: ∀ {a b:List T} {x y:List Value},aY E a x->aY E b y->aY E (a++b) (x++y):=by
 intro a
 induction a with
 |nil=>intro b x y h1 h2; simp only[aY] at h1; subst h1; exact h2
 |cons t a ih =>
  intro b x y h1 h2
  simp only[aY] at h1
  obtain⟨hk,v,r,rfl,h3,h4,h5⟩:=h1
  simp only[List.cons_append,aY]
  exact⟨hk,v,r++y,rfl,h3,h4,ih h5 h2⟩
theorem Xe{a b:List T}(ha:T.bC a=true)(hb:T.bC b=true):T.bC (a++b)=true:=by
 rw[fU] at *
 intro t ht
 rcases List.mem_append.1 ht with h|h
 ·exact ha t h
 ·exact hb t h
theorem QG{E:Env}{t:T}{cs:List Value}(h:aK E t cs)(hl:t.kd=0->cs.length=1)(h1: ∀ v∈cs,v.oneCell'=true):aY E t.cells cs:=by
 have other: ∀ t:T,t.cells=[t]->t.kd=0->aK E t cs->(t.kd=0->cs.length=1)->aY E t.cells cs:=by
  intro t e k h hl
  rw[e]
  have:=hl k
  match cs,this with
  |[v],_=>simp only[aY]; exact⟨k,v,[],rfl,h1 v (by simp),h,rfl⟩
 cases t with
 |agg l=>simp only[aK] at h; exact h
 |_=>exact other _ rfl rfl h hl
theorem TT{t:T}(h:t.free=true):T.bC t.cells=true:=by
 cases t with
 |agg l=>exact h
 |_=>simp only[T.cells,T.bC,Bool.and_true]; exact h
theorem Xf{t:T}:t.cells.length=bG t.kd:=by
 cases t with
 |agg l=>rfl
 |_=>rfl
theorem Sh.nN(s:Sh):bG s.kd=s.cells:=by
 cases s<;>rfl
theorem cell?_at{w:World}{a:Addr}{v:Value}(h:w.cell? a=some v): ∃ cur ty m,w.heap[a.block]? =some (.cells cur ty m)/\a.spot=none/\cur.toList[a.off]? =some v:=by
 unfold World.cell? at h
 split at h
 ·rename_i c t f e
  split at h
  ·cases h
  ·rename_i hs
   exact⟨c,t,f,e,by simpa using hs,by simpa using h⟩
 ·cases h
theorem MH{w:World}{base:Nat}{a:Addr}{n:Nat}{cs:List Value}(h:w.cells? base a n=some cs)(hn:0<n): ∃ cur ty m,w.heap[a.block]? =some (.cells cur ty m)/\a.spot=none/\cs=(cur.toList.drop a.off).take n:=by
 obtain⟨_,hl,hc⟩:=World.cells?_some h
 have h0:=hc 0 hn
 have e0:a.add 0=a:=by simp[Addr.add]
 rw[e0,List.getElem?_eq_getElem (by omega)] at h0
 obtain⟨cur,ty,m,h1,h2,_⟩:=cell?_at h0
 refine⟨cur,ty,m,h1,h2,?_⟩
 have key: ∀ j,j<n->cur.toList[a.off+j]? =cs[j]? :=by
  intro j hj
  have:=hc j hj
  rw[List.getElem?_eq_getElem (by omega)] at this
  obtain⟨cur',ty',m',g1,g2,g3⟩:=cell?_at this
  have eb:(a.add j).block=a.block:=by unfold Addr.add; split<;>rfl
  have eo:(a.add j).off=a.off+j:=by
   obtain⟨b,o,sp⟩:=a
   simp only at h2; subst h2
   rw[Go.WideShapes.add_plain]
  rw[eb,h1] at g1
  cases g1
  rw[eo] at g3
  rw[g3,List.getElem?_eq_getElem (by omega)]
 apply List.ext_getElem?
 intro j
 by_cases hj:j<n
 ·rw[List.getElem?_take,if_pos hj,List.getElem?_drop,key j hj]
 ·rw[List.getElem?_eq_none (by omega),List.getElem?_eq_none (by simp; omega)]
def EI(E:Env):Prop:= ∀ b cur ty m,E.w.heap[b]? =some (.cells cur ty m)->(∃ v∈cur.toList,Ve v)->E.S b
theorem ZV{E:Env}{s:Sh}{k:Nat}{base:Nat}{spare:Nat->Bool}{held:Bool}(hS:EI E){t e:TypeId}(ht:P.underlying t=some (.slice e))(hk:s.kd=k)(hce:P.cellsOf e=s.cells)(hpos:0<s.cells)
  (ih: ∀ (n:Nat) (cs:List Value) (d:DataW H) (ps:List MemPlace),DataW.trod enc P E.w base spare held n e cs=some (d,ps)->Rd E s d cs)
  {n:Nat} {cs:List Value} {d:DataW H} {ps:List MemPlace} (h:DataW.trod enc P E.w base spare held n t cs=some (d,ps)):Rd E (.sl k s) d cs:=by
 rcases DataW.trod_slice ht h with ⟨rfl,hx⟩|⟨a,len,cap,elems,rest,m,_,rfl,hx,hb,hl,hm,hlen,hel,_,_⟩
 ·cases hx
  refine⟨?_,rfl,(fun v hv=>by rw[List.mem_singleton] at hv; subst hv; rfl),(fun v hv=>by rw[List.mem_singleton] at hv; subst hv; intro n e; cases e),rfl,rfl,.inl rfl⟩
  simp only[Sh.aG,aK]
  exact⟨none,0,rfl,Nat.le_refl _,nofun,.inl trivial⟩
 ·cases hx
  have hlen':(elems.map (·.1)).length=len:=by simpa using hlen
  refine⟨?_,rfl,(fun v hv=>by rw[List.mem_singleton] at hv; subst hv; rfl),(fun v hv=>by rw[List.mem_singleton] at hv; subst hv; intro n e; cases e),rfl,rfl,.inr ⟨_,_,rfl,fun x hx=>?_⟩⟩
  rotate_left
  ·obtain⟨y,hy,rfl⟩:=List.mem_map.1 hx
   obtain⟨i,hi,rfl⟩:=List.getElem_of_mem hy
   have:=hel i (by omega)
   rw[List.getElem?_eq_getElem hi] at this
   obtain⟨cs',_,h2⟩:=Option.bind_eq_some_iff.1 this
   exact(ih _ _ _ _ h2).wf
  simp only[Sh.aG,aK,List.length_map]
  refine⟨some a,cap,by rw[hlen],by omega,nofun,?_⟩
  by_cases h0:len=0
  ·left
   have:elems=[]:=List.length_eq_zero_iff.1 (by omega)
   rw[this]; rfl
  ·right
   have get: ∀ i,i<len-> ∃ cs',E.w.cells? base (a.add (i*s.cells)) s.cells=some cs'/\ ∃ x,elems[i]? =some x/\Rd E s x.1 cs':=by
    intro i hi
    have:=hel i hi
    rw[hce,List.getElem?_eq_getElem (by omega)] at this
    obtain⟨cs',h1,h2⟩:=Option.bind_eq_some_iff.1 this
    exact⟨cs',h1,elems[i],List.getElem?_eq_getElem (by omega),ih _ _ _ _ h2⟩
   obtain⟨cs0,c1,x0,_,r0⟩:=get 0 (by omega)
   obtain⟨cur,ty,mm,g1,g2,g3⟩:=MH c1 hpos
   have ea:a.add (0*s.cells)=a:=by simp[Addr.add]
   rw[ea] at g1 g2 g3
   obtain⟨b,off,sp⟩:=a
   simp only at g1 g2 g3
   subst g2
   have hsub: ∀ i,i<len-> ∃ x,elems[i]? =some x/\Rd E s x.1 ((cur.toList.drop (off+i*s.cells)).take s.cells):=by
    intro i hi
    obtain⟨cs',q1,x,q2,q3⟩:=get i hi
    obtain⟨cur',ty',m',k1,k2,k3⟩:=MH q1 hpos
    rw[Go.WideShapes.add_plain] at k1 k3
    simp only at k1 k3
    rw[g1] at k1; cases k1
    rw[k3] at q3
    exact⟨x,q2,q3⟩
   have hcur:len*s.cells<=(cur.toList.drop off).length:=by
    obtain⟨x,_,q⟩:=hsub (len-1) (by omega)
    have:=q.len
    rw[List.length_take,List.length_drop] at this
    rw[List.length_drop]
    have e:len*s.cells=(len-1)*s.cells+s.cells:=by
     conv=>lhs; rw[show len=(len-1)+1 by omega,Nat.add_mul,Nat.one_mul]
    omega
   refine⟨b,off,cur,ty,mm,rfl,hS b cur ty mm g1 ?_,g1,?_,?_⟩
   ·have hl0:=r0.len
    match hcs:cs0,hl0 with
    |[],hl0=>simp at hl0; omega
    |v::r,_ =>
     refine⟨v,?_,r0.u8 v (by simp)⟩
     have:v∈(cur.toList.drop off).take s.cells:=by rw[<- g3]; simp
     exact List.mem_of_mem_drop (List.mem_of_mem_take this)
   ·rw[cO]
    intro t ht
    rw[List.mem_map] at ht
    obtain⟨d,hd,rfl⟩:=ht
    rw[List.mem_map] at hd
    obtain⟨x,hx,rfl⟩:=hd
    obtain⟨i,hi,rfl⟩:=List.getElem_of_mem hx
    obtain⟨x',q1,q2⟩:=hsub i (by omega)
    rw[List.getElem?_eq_getElem hi] at q1
    cases q1
    exact dU q2.free
   ·refine QF (by rw[List.length_map,List.length_map,hlen,<- hk,Sh.nN]; exact hcur) fun j t hj=>?_
    rw[<- hk,Sh.nN]
    have hjl:j<len:=by
     rcases Nat.lt_or_ge j len with h|h
     ·exact h
     ·rw[List.getElem?_eq_none (by simp; omega)] at hj; cases hj
    obtain⟨x,q1,q2⟩:=hsub j hjl
    rw[List.getElem?_map,List.getElem?_map,q1] at hj
    simp only[Option.map_some,Option.some.injEq] at hj
    subst hj
    rw[List.drop_drop]
    exact⟨q2.kd,q2.one,q2.rep⟩
mutual
theorem Sh.read{E:Env}{base:Nat}{spare:Nat->Bool}{held:Bool}(hS:EI E):(s:Sh)->(t:TypeId)->s.fits P t=true->(n:Nat)->(cs:List Value)->(d:DataW H)->(ps:List MemPlace) ->
  DataW.trod enc P E.w base spare held n t cs=some (d,ps)->Rd E s d cs
 | .int,t,hf,n,cs,d,ps,h=>by
  simp only[Sh.fits] at hf
  split at hf
  ·rename_i e
   obtain⟨z,rfl,hx,hwf⟩:=DataW.trod_int e h
   cases hx
   refine⟨by simp[Sh.aG,aK],rfl,(fun v hv=>by rw[List.mem_singleton] at hv; subst hv; rfl),(fun v hv=>by rw[List.mem_singleton] at hv; subst hv; intro n e; cases e),rfl,rfl,⟨z,rfl,hwf⟩⟩
  ·cases hf
 | .u64,t,hf,n,cs,d,ps,h=>by
  simp only[Sh.fits] at hf
  split at hf
  ·rename_i e
   obtain⟨z,rfl,hx,hwf⟩:=DataW.trod_int e h
   cases hx
   refine⟨by simp[Sh.aG,aK],rfl,(fun v hv=>by rw[List.mem_singleton] at hv; subst hv; rfl),(fun v hv=>by rw[List.mem_singleton] at hv; subst hv; intro n e; cases e),rfl,rfl,⟨z,rfl,hwf⟩⟩
  ·cases hf
 | .str,t,hf,n,cs,d,ps,h=>by
  simp only[Sh.fits] at hf
  split at hf
  ·rename_i e
   obtain⟨z,rfl,hx,_⟩:=DataW.trod_string e h
   cases hx
   refine⟨by simp[Sh.aG,aK],rfl,(fun v hv=>by rw[List.mem_singleton] at hv; subst hv; rfl),(fun v hv=>by rw[List.mem_singleton] at hv; subst hv; intro n e; cases e),rfl,rfl,⟨_,rfl⟩⟩
  ·cases hf
 | .bool,t,hf,n,cs,d,ps,h=>by
  simp only[Sh.fits] at hf
  split at hf
  ·rename_i e
   obtain⟨z,rfl,hx⟩:=DataW.trod_bool e h
   cases hx
   refine⟨by simp[Sh.aG,aK],rfl,(fun v hv=>by rw[List.mem_singleton] at hv; subst hv; rfl),(fun v hv=>by rw[List.mem_singleton] at hv; subst hv; intro n e; cases e),rfl,rfl,⟨_,rfl⟩⟩
  ·cases hf
 | .sl k s,t,hf,n,cs,d,ps,h=>by
  simp only[Sh.fits] at hf
  split at hf
  ·rename_i e he
   simp only[Bool.and_eq_true] at hf
   obtain⟨⟨⟨f1,f2⟩,f3⟩,f4⟩:=hf
   exact ZV hS he (Nat.eq_of_beq_eq_true f2) (Nat.eq_of_beq_eq_true f3) (Nat.blt_eq.mp f4) (Sh.read hS s e f1) h
  ·cases hf
 | .st l,t,hf,n,cs,d,ps,h=>by
  simp only[Sh.fits] at hf
  split at hf
  ·rename_i fs he
   simp only[Bool.and_eq_true] at hf
   obtain⟨xs,m,_,hx,hlen,hxl,hg⟩:=DataW.trod_struct he h
   cases hx
   have hct:=Nat.eq_of_beq_eq_true hf.2
   have R:=Sh.ada hS l fs.toList 0 hf.1 m cs xs (by simpa using hxl) (fun i f hi=>by
    have:=hg i f (by simpa using hi)
    rw[<- this]) (by rw[hlen,hct]; simp)
   simp only[List.drop_zero] at R
   refine⟨by simp only[Sh.aG,aK]; exact R.rep,by rw[hlen,hct]; rfl,R.one,R.u8,R.free,?_,⟨_,rfl,R.wf⟩⟩
   show(Sh.Dl l _).length+1=Sh.xC l+1
   rw[R.cnt]
  ·cases hf
theorem Sh.ada{E:Env}{base:Nat}{spare:Nat->Bool}{held:Bool}(hS:EI E):(l:List Sh)->(fs:List Field)->(off:Nat)->Sh.MG P l fs off=true->(n:Nat)->(cs:List Value)->(xs:List (DataW H×List MemPlace))->xs.length=fs.length ->
  (∀ (i:Nat) (f:Field),fs[i]? =some f->DataW.trod enc P E.w base spare held n f.type ((cs.drop f.offset).take (P.cellsOf f.type))=xs[i]?)->cs.length=off+Sh.xC l->RdL E l (xs.map (·.1)) (cs.drop off)
 |[],[],off,hf,n,cs,xs,hl,hx,hc=>by
  have:xs=[]:=List.length_eq_zero_iff.1 (by simpa using hl)
  subst this
  have:cs.drop off=[]:=List.drop_eq_nil_of_le (by rw[hc]; simp[Sh.xC])
  rw[this]
  exact⟨rfl,rfl,(fun v hv=>by cases hv),(fun v hv=>by cases hv),rfl,rfl,rfl⟩
 |s::l,f::fs,off,hf,n,cs,xs,hl,hx,hc=>by
  simp only[Sh.MG,Bool.and_eq_true] at hf
  obtain⟨⟨⟨f1,f2⟩,f3⟩,f4⟩:=hf
  have e2:=Nat.eq_of_beq_eq_true f2
  have e3:=Nat.eq_of_beq_eq_true f3
  match xs,hl with
  |x::xs,hl =>
   have h0:=hx 0 f rfl
   rw[e2,e3] at h0
   have R0:=Sh.read hS s f.type f1 n _ x.1 x.2 h0
   simp only[Sh.xC] at hc
   have R1:=Sh.ada hS l fs (off+s.cells) f4 n cs xs (by simpa using hl) (fun i g hi=>by
    have:=hx (i+1) g (by simpa using hi)
    simpa using this) (by omega)
   have e:cs.drop off=(cs.drop off).take s.cells++cs.drop (off+s.cells):=by
    rw[<- List.drop_drop,List.take_append_drop]
   rw[e]
   have h1:(s.aG x.1).kd=0->((cs.drop off).take s.cells).length=1:=by
    intro hk
    rw[R0.len,<- Sh.nN,<- R0.kd,hk]; rfl
   refine⟨?_,?_,?_,?_,?_,?_,⟨_,_,rfl,R0.wf,R1.wf⟩⟩
   ·simp only[List.map_cons,Sh.Dl]
    exact Xd (QG R0.rep h1 R0.one) R1.rep
   ·rw[List.length_append,R0.len,R1.len]; rfl
   ·intro v hv
    rcases List.mem_append.1 hv with h|h
    ·exact R0.one v h
    ·exact R1.one v h
   ·intro v hv
    rcases List.mem_append.1 hv with h|h
    ·exact R0.u8 v h
    ·exact R1.u8 v h
   ·simp only[List.map_cons,Sh.Dl]
    exact Xe (TT R0.free) R1.free
   ·simp only[List.map_cons,Sh.Dl,List.length_append,Xf,R0.kd,Sh.nN,R1.cnt]; rfl
 |[],_::_,_,hf,_,_,_,_,_,_=>by simp[Sh.MG] at hf
 |_::_,[],_,hf,_,_,_,_,_,_=>by simp[Sh.MG] at hf
end
end
open Go.ChangeShapes Go.WideShapes Go.RowKit
section
variable {P:Program} {H:Type} {enc:TypeId×Value->H}
theorem Xg{W:World}(h:Lib.TabIs P W "strings.asciiSpace" .u8 Lib.asciiSpaceTab): ∀ g cs,xk P g=some cs-> ∃ ty m,W.heap[g]? =some (.cells cs ty m):=by
 intro g cs hg
 unfold xk at hg
 split at hg
 ·rename_i e
  cases hg
  unfold Lib.TabIs World.var? at h
  rw[e] at h
  simp only[Option.bind_some] at h
  split at h
  ·rename_i c ty m hc
   cases h
   exact⟨ty,m,hc⟩
  ·cases h
 ·cases hg
def ZW(P:Program)(W:World):Env:=⟨W,fun g=>g<W.heap.size/\xk P g=none,fun _=>.nilFunc,fun _=>0,no⟩
def aeH(P:Program):Fr P:= {s:=fun g=>(xk P g).isSome=true}
theorem ZX{g:Nat}{cs:Array Value}(h:xk P g=some cs): ∀ v∈cs.toList,¬ Ve v:=by
 unfold xk at h
 split at h
 ·cases h
  intro v hv hn
  simp only[List.mem_map] at hv
  obtain⟨z,_,rfl⟩:=hv
  exact hn z rfl
 ·cases h
theorem acn{W:World}(hgl: ∀ g cs,xk P g=some cs-> ∃ ty m,W.heap[g]? =some (.cells cs ty m)):EI (ZW P W):=by
 intro b cur ty m hb hv
 refine⟨(Array.getElem?_eq_some_iff.1 hb).1,?_⟩
 cases hg:xk P b with
 |none=>rfl
 |some cs =>
  obtain⟨ty',m',h⟩:=hgl b cs hg
  rw[show W.heap[b]? =_ from hb] at h
  cases h
  obtain⟨v,hv1,hv2⟩:=hv
  exact absurd hv2 (ZX hg v hv1)
theorem ZY{W:World}(hgl: ∀ g cs,xk P g=some cs-> ∃ ty m,W.heap[g]? =some (.cells cs ty m)):qy (aeH P) (ZW P W):=by
 refine⟨(fun i ob hi=>by cases hi),(fun i ob g hi=>by cases hi),(fun i j oi oj g _ hi=>by cases hi),fun g hg=>hg.1,fun g hg=>?_,fun g hs hg=>?_,fun g cs hg=>⟨?_,hgl g cs hg⟩⟩
 ·obtain⟨cs,hc⟩:=Option.isSome_iff_exists.1 hg
  obtain⟨ty,m,h⟩:=hgl g cs hc
  exact(Array.getElem?_eq_some_iff.1 h).1
 ·have h1:=hs.2
  have h2:(xk P g).isSome=true:=hg
  rw[h1] at h2; cases h2
 ·show(xk P g).isSome=true
  rw[hg]; rfl
def Sh.args:List Sh->List (DataW H)->List T
 |s::l,d::ds=>s.aG d::Sh.args l ds
 |_,_=>[]
def Sh.QH(P:Program):List Sh->List TypeId->Bool
 |[],[]=>true
 |s::l,t::ts=>s.fits P t&&Sh.QH P l ts
 |_,_=>false
theorem aco{E:Env}{s:Sh}{t:TypeId}{d:DataW H}{v:Value}{W:World}{base:Nat}(hf:s.fits P t=true)(R:Rd E s d v.cells.toList)(hok:Value.okWide P W .any base t v):jI E (s.aG d) v:=by
 cases s with
 |st l =>
  simp only[Sh.fits] at hf
  split at hf
  ·rename_i fs he
   obtain⟨cs,rfl,_⟩:=okWide_struct he hok
   refine .inl ⟨by rw[R.kd]; exact Nat.succ_ne_zero _,cs,rfl,R.rep⟩
  ·cases hf
 |int =>
  simp only[Sh.fits] at hf
  split at hf
  ·rename_i he
   obtain⟨n,rfl⟩:=okWide_int he hok
   exact .inr ⟨R.kd,R.rep⟩
  ·cases hf
 |u64 =>
  simp only[Sh.fits] at hf
  split at hf
  ·rename_i he
   obtain⟨n,rfl⟩:=okWide_int he hok
   exact .inr ⟨R.kd,R.rep⟩
  ·cases hf
 |str =>
  simp only[Sh.fits] at hf
  split at hf
  ·rename_i he
   obtain⟨n,rfl⟩:=okWide_string he hok
   exact .inr ⟨R.kd,R.rep⟩
  ·cases hf
 |bool =>
  simp only[Sh.fits] at hf
  split at hf
  ·rename_i he
   obtain⟨n,rfl⟩:=okWide_bool he hok
   exact .inr ⟨R.kd,R.rep⟩
  ·cases hf
 |sl k s =>
  simp only[Sh.fits] at hf
  split at hf
  ·rename_i e he
   obtain⟨a,len,cap,rfl⟩:=okWide_slice he hok
   exact .inr ⟨R.kd,R.rep⟩
  ·cases hf
theorem Z4{E:Env}{base:Nat}{spare:Nat->Bool}{held:Bool}{b2:Nat}(hS:EI E): ∀ {Rq:List Sh} {ts:List TypeId} {vs:List Value} {ds:List (DataW H)} {ps:List MemPlace},Sh.QH P Rq ts=true->DataW.TrodAll enc P E.w base spare held ts vs ds ps ->
  (∀ (j:Nat) (t:TypeId) (v:Value),ts[j]? =some t->vs[j]? =some v->Value.okWide P E.w .any b2 t v)->bW E (Sh.args Rq ds) vs/\T.bC (Sh.args Rq ds)=true/\Sh.TS Rq ds:=by
 intro Rq
 induction Rq with
 |nil =>
  intro ts vs ds ps hf hA hok
  cases ts with
  |nil =>
   match vs,ds,hA with
   |[],[],_=>exact⟨rfl,rfl,rfl⟩
  |cons t ts=>cases hf
 |cons s Rq ih =>
  intro ts vs ds ps hf hA hok
  cases ts with
  |nil=>cases hf
  |cons t ts =>
   match vs,ds,hA with
   |v::vs,d::ds,⟨p,q,⟨n,h1⟩,h2,_⟩ =>
    simp only[Sh.QH,Bool.and_eq_true] at hf
    have R:=Sh.read hS s t hf.1 n _ d p h1
    obtain⟨i1,i2,i3⟩:=ih hf.2 h2 fun j t' v' a b=>hok (j+1) t' v' (by simpa using a) (by simpa using b)
    refine⟨?_,?_,⟨d,ds,rfl,R.wf,i3⟩⟩
    ·simp only[Sh.args,bY]
     exact⟨v,vs,rfl,aco hf.1 R (hok 0 t v rfl rfl),i1⟩
    ·simp only[Sh.args,T.bC,Bool.and_eq_true]
     exact⟨R.free,i2⟩
theorem Xh{W:World}(hgl: ∀ g cs,xk P g=some cs-> ∃ ty m,W.heap[g]? =some (.cells cs ty m)){f:FuncId}{Rq:List Sh}{ts:List TypeId}{args:Array Value}{ds:List (DataW H)}{ps:List MemPlace}{b2:Nat}{u:Value}
  (hf:Sh.QH P Rq ts=true) (hA:DataW.TrodAll enc P W 0 (fun _=>true) true ts args.toList ds ps) (hok: ∀ (j:Nat) (t:TypeId) (v:Value),ts[j]? =some t->args[j]? =some v->Value.okWide P W .any b2 t v)
  (S:Sh.TS Rq ds->qL P f (Sh.args Rq ds) (.lit u)):Calls P f args W fun e W'=>e= .returned u/\Below W.heap.size W W':=by
 obtain⟨hr,hfr,hwf⟩:=Z4 (E:=ZW P W) (acn hgl) hf hA (fun j t v a b=>hok j t v a (by simpa using b))
 obtain⟨_,_,hcall⟩:=(S hwf).call 0
 have:=hcall (aeH P) (fun _=>False) (ZW P W) args.toList (ZY hgl) rfl hr (dB hfr) (tY _) (fun h=>h)
 refine this.mono ?_
 rintro e w' ⟨v,t,E2,rfl,rfl,⟨rfl,_⟩,hv,_,hext,_⟩
 refine⟨by rw[aH.1 hv],hext.os,hext.tape,hext.output,hext.size,fun g hg=>hext.w g ?_⟩
 cases hq:xk P g with
 |none=>exact .inl ⟨hg,hq⟩
 |some cs=>right; show(xk P g).isSome=true; rw[hq]; rfl
theorem KE(hl:laidOutB P=true){W W':World}(hb:Below W.heap.size W W'){sp:Nat->Bool}: ∀ {ts:List TypeId} {vs:List Value} {ds:List (DataW H)} {ps:List MemPlace},(∀ t∈ts,P.readableRec t=true/\t<P.types.size) ->
  DataW.TrodAll enc P W 0 (fun _=>true) true ts vs ds ps->(∀ x∈ps,x.block<W.heap.size)->(∀ x∈ps,sp x.block=true)->DataW.TrodAll enc P W' 0 sp true ts vs ds ps:=by
 intro ts
 induction ts with
 |nil =>
  intro vs ds ps _ h _ _
  match vs,ds,h with
  |[],[],h=>exact h
 |cons t ts ih =>
  intro vs ds ps hr h hlt hsp
  match vs,ds,h with
  |v::vs,d::ds,⟨p,q,h1,h2,e⟩ =>
   subst e
   refine⟨p,q,?_,ih (fun t ht=>hr t (by simp[ht])) h2 (fun x hx=>hlt x (by simp[hx])) (fun x hx=>hsp x (by simp[hx])),rfl⟩
   obtain⟨r1,r2⟩:=hr t (by simp)
   exact WideElems.Trod_stays hl r1 r2 h1 (fun x hx=>hb.same (hlt x (by simp[hx]))) (fun x hx=>hsp x (by simp[hx]))
theorem Z5{W:World}(hgl: ∀ g cs,xk P g=some cs-> ∃ ty m,W.heap[g]? =some (.cells cs ty m)){f:FuncId}{fn:Func}{s:ChangeSpec}{Rq:List Sh}{args:Array Value}{ds gs:List (DataW H)}{before:List MemPlace}{b2:Nat}{tb:TypeId}
  (hl:laidOutB P=true) (hrd: ∀ t∈fn.params.toList,P.readableRec t=true/\t<P.types.size) (hvars:s.vars=[]) (hres:fn.resultTypes= #[tb]) (htb:P.underlying tb=some .bool)
  (hspec:s.fn H ds= {results:=[.lit (.bool true)],args:=ds})
  (hf:Sh.QH P Rq fn.params.toList=true) (hval: ∀ (j:Nat) (t:TypeId) (v:Value),fn.params[j]? =some t->args[j]? =some v->Value.okWide P W .any b2 t v)
  (hW:DataW.Whole enc P fn.params.toList s.vars false W args.toList ds gs before) (S:Sh.TS Rq ds->qL P f (Sh.args Rq ds) (.bool true)) :
  Calls P f args W fun e W'=> ∃ v,e= .returned v/\s.post enc P fn false true false false W args v W':=by
 have hW':=hW
 obtain⟨p,q,hA,hV,hpq,hfz,hnd⟩:=hW
 have hV0:gs=[]/\q=[]:=by
  rw[hvars] at hV
  cases gs with
  |nil=>exact⟨rfl,hV⟩
  |cons _ _=>exact hV.elim
 obtain⟨rfl,rfl⟩:=hV0
 subst hpq
 refine(Xh hgl hf hA (fun j t v a b=>hval j t v (by simpa using a) b) S).mono ?_
 rintro e W' ⟨rfl,hb⟩
 have hlt: ∀ x∈p,x.block<W.heap.size:=fun x hx=>by simpa using hW'.lt x (by simp[hx])
 refine⟨_,rfl,?_⟩
 have hold: ∀ x∈p,(fun b=>decide (b<W.heap.size)) x.block=true:=fun x hx=>by simpa using hlt x hx
 refine⟨ds,[],p++[],[],p,[],hW',?_,?_,?_,World.keptBut_mono (fun x hx=>⟨by simpa using hx,?_⟩) (hb.frame (· ∈p)),fun h=>by cases h⟩
 ·rw[List.append_nil,hspec,hres]
  exact trodAll_mk1 (shut_bool htb true)
 ·rw[List.append_nil,hspec]
  exact KE hl hb hrd hA hlt hold
 ·rw[List.append_nil,hspec,hvars]; rfl
 ·right; simpa using hx
end
noncomputable def Tr.Z7(t:Tr):Nat->T :=
 Tr.rec (motive:=fun _=>Nat->T) (fun _=>T.un) (fun v _ _ gl gr n=>bif Nat.beq n 0 then v else bif Nat.beq (Nat.mod n 2) 1 then gl (Nat.div n 2) else gr (Nat.div (Nat.sub n 1) 2)) t
noncomputable def Tr.Z8(t:Tr):Nat->T->Tr :=
 Tr.rec (motive:=fun _=>Nat->T->Tr) (fun _ _=>.lf) (fun v l r gl gr n u=>bif Nat.beq n 0 then .nd u l r else bif Nat.beq (Nat.mod n 2) 1 then .nd v (gl (Nat.div n 2) u) r else .nd v l (gr (Nat.div (Nat.sub n 1) 2) u)) t
theorem Tr.Vf: ∀ (t:Tr) (n:Nat),t.Z7 n=t.get n:=by
 intro t
 induction t with
 |lf=>intro n; rfl
 |nd v l r hl hr =>
  intro n
  show(bif Nat.beq n 0 then v else bif Nat.beq (Nat.mod n 2) 1 then l.Z7 (Nat.div n 2) else r.Z7 (Nat.div (Nat.sub n 1) 2))=_
  rw[hl,hr]; rfl
theorem Tr.Vg: ∀ (t:Tr) (n:Nat) (u:T),t.Z8 n u=t.set n u:=by
 intro t
 induction t with
 |lf=>intro n u; rfl
 |nd v l r hl hr =>
  intro n u
  show(bif Nat.beq n 0 then Tr.nd u l r else bif Nat.beq (Nat.mod n 2) 1 then .nd v (l.Z8 (Nat.div n 2) u) r else .nd v l (r.Z8 (Nat.div (Nat.sub n 1) 2) u))=_
  rw[hl,hr]; rfl
noncomputable def XS.Om(s:XS)(x:X):T:=X.rec (motive:=fun _=>T) (fun n=>s.fr.Z7 n) (fun v=>v) x
theorem XS.Z9(s:XS):s.Om=s.ev:=by
 funext x
 cases x with
 |t n=>exact Tr.Vf _ _
 |c v=>rfl
def af0(ev:X->T)(c a b:X):Option T :=
 match ev c with
 | .lit (.bool true)=>some (ev a)
 | .lit (.bool false)=>some (ev b)
 |_=>none
def bbX(ne:Bool)(x y:T):Option T :=
 match x,y with
 | .lit (.bool a),.lit (.bool b)=>some (.lit (.bool (bif ne then !(a==b) else a==b)))
 |_,_=>none
def agW:T->Option T
 | .lit (.bool b)=>some (.lit (.bool !b))
 |_=>none
def faX(hp:Hp)(off k:Nat):T->Option T
 | .ptr i j o=>xw (hp i).isSome (.ptr i j (Nat.add o off))
 | .ref kt t=>xw (!(Nat.beq kt 0)&&jB (bG kt) off k) (.ref k (t.part off k))
 |_=>none
def fvX(off k:Nat)(t:T):Option T:=xw (!(Nat.beq t.kd 0)&&jB (bG t.kd) off k) (t.part off k)
def iaX(hp:Hp)(k:Nat)(x i:T):Option T :=
 match x,i with
 | .sl k' _ l,.lit (.int _ n)=>xw (Nat.beq k' k&&NU n l.length) (.ref k (l.getD n.toNat .any))
 | .own o,.lit (.int _ n)=>match hp o with|some ob=>xw (Nat.beq ob.k k&&NU n ob.l.length) (.ptr o n.toNat 0)|none=>none
 | .kR o lo hi,.lit (.int _ n)=>match hp o with|some ob=>xw (Nat.beq ob.k k&&NU n (Nat.sub hi lo)) (.ptr o (Nat.add lo n.toNat) 0)|none=>none
 |_,_=>none
def ldX(hp:Hp)(k:Nat)(x:T):Option T :=
 match x with
 | .ref k' t=>xw (Nat.beq k' k&&Nat.blt 0 (bG k)) t
 | .ptr i j off =>
  match hp i with
  |some ob =>
   bif Nat.blt j ob.l.length then
    bif Nat.beq off 0&&Nat.beq ob.k k then some (ob.l.getD j .any)
    else xw (!(Nat.beq ob.k 0)&&jB (bG ob.k) off k) ((ob.l.getD j .any).part off k)
   else none
  |none=>none
 |_=>none
def ncX(hp:Hp):T->Option T
 | .ptr i a b=>xw (hp i).isSome (.ptr i a b)
 | .ref a b=>some (.ref a b)
 | .fn a b=>some (.fn a b)
 |_=>none
def agX(hp:Hp)(str:Bool)(x:T):Option T :=
 match x with
 | .sl _ _ l=>xw (!str) (.lit (.int .i64 (.ofNat l.length)))
 | .own o=>match hp o with|some ob=>xw (!str&& !(Nat.beq ob.k 1000000007)) (.lit (.int .i64 (.ofNat ob.l.length)))|none=>none
 | .kR i lo hi=>xw (!str&&(hp i).isSome) (.lit (.int .i64 (.ofNat (Nat.sub hi lo))))
 | .lit (.string b)=>xw str (.lit (.int .i64 (.ofNat b.size)))
 |_=>none
def exX(x:T)(i:Nat):Option T:=match x with| .fP l=>xw (Nat.blt i l.length) (l.getD i .any)|_=>none
def fin1(s:XS)(d:Option Nat):Option T->Option XS
 |some t=>NT t fun t=>s.put d t
 |none=>none
noncomputable def XS.acp(s:XS)(d:Option Nat)(t:T):Option XS :=
 match d with
 |some i=>bif Nat.blt i s.n then some ⟨s.fr.Z8 i t,s.n,s.hp,s.nx,s.pin⟩ else none
 |none=>some s
noncomputable def wQ(s:XS)(d:Option Nat):Option T->Option XS
 |some t=>NT t fun t=>s.acp d t
 |none=>none
noncomputable def aac(s:XS)(d:Option Nat):Option (T×XH)->Option XS
 |some (t,h)=>NT t fun t=>match d with
  |some i=>bif Nat.blt i s.n then some ⟨s.fr.Z8 i t,s.n,h,s.nx,s.pin⟩ else none
  |none=>some ⟨s.fr,s.n,h,s.nx,s.pin⟩
 |none=>none
noncomputable def yOp(cf:CF)(dr:Bool)(n:Nat)(d:Option Nat)(op:lg)(s:XS):Option XS :=
 match op with
 | .mv x=>wQ s d (some (s.Om x))
 | .pick c a b=>wQ s d (af0 s.Om c a b)
 | .bin op x y=>wQ s d (abI op (s.Om x) (s.Om y))
 | .bb ne x y=>wQ s d (bbX ne (s.Om x) (s.Om y))
 | .not x=>wQ s d (agW (s.Om x))
 | .fa off k x=>wQ s d (faX (lk s.hp) off k (s.Om x))
 | .fv off k x=>wQ s d (fvX off k (s.Om x))
 | .ia k x i=>wQ s d (iaX (lk s.hp) k (s.Om x) (s.Om i))
 | .ld k x=>wQ s d (ldX (lk s.hp) k (s.Om x))
 | .nc x=>wQ s d (ncX (lk s.hp) (s.Om x))
 | .len str x=>wQ s d (agX (lk s.hp) str (s.Om x))
 | .ex x i=>wQ s d (exX (s.Om x) i)
 | .call f xs=>aac s d (cf dr n f (xs.map s.Om) s.hp)
 |op=>JY cf dr n d op s
theorem Vh{α:Type}(t:T)(k:T->α):NT t k=k t:=by
 have hN: ∀ (n:Nat) (k:Nat->α),KC n k=k n:=by intro n k; cases n<;>rfl
 unfold NT
 split<;>simp only[hN]
theorem Vj(s:XS)(d:Option Nat)(t:T):s.acp d t=s.put d t:=by
 cases d with
 |none=>rfl
 |some i=>simp only[XS.acp,XS.put,Tr.Vg]
theorem aad(s:XS)(d:Option Nat)(t:Option T):wQ s d t=fin1 s d t:=by
 cases t with
 |none=>rfl
 |some t=>simp only[wQ,fin1,Vh,Vj]
theorem aae(cf:CF)(dr:Bool)(n:Nat)(d:Option Nat)(f:FuncId)(ts:List T)(s:XS):aac s d (cf dr n f ts s.hp)=BZ cf dr n d f ts s:=by
 unfold BZ
 cases cf dr n f ts s.hp with
 |none=>rfl
 |some p =>
  obtain⟨t,h⟩:=p
  simp only[aac,Vh,XS.sJ]
  cases d with
  |none=>rfl
  |some i=>simp only[Tr.Vg]
theorem aeI(cf:CF)(dr:Bool)(n:Nat)(d:Option Nat)(op:lg)(s:XS):yOp cf dr n d op s=JY cf dr n d op s:=by
 cases op<;>first|rfl|(simp only[yOp,aad,XS.Z9,aae]; rfl)
def af2{α:Type}:List α->Bool
 |[]=>true
 |_=>false
noncomputable def yGo(cf:CF)(dr:Bool)(_m:Nat)(o:aC)(i:Nat)(s:XS)(k:Nat->XS->Option XS):Option XS :=
 bif bif o.fl||(o.ad||o.ar) then uh dr o s else(match o.ne with|[]=>true|l=>neX s o.op.xs l) then
  match yOp cf (drX dr o) (Nat.add s.nx i) o.d o.op s with
  |some s'=>k (Nat.succ i) s'
  |none=>none
 else none
noncomputable def Vk(o:aC)(i:Nat)(s:XS)(k:Nat->XS->Option XS):Option XS :=
 match s.acp o.d T.un with
 |some s'=>k (Nat.succ i) s'
 |none=>none
noncomputable def aeJ(cf:CF)(dr:Bool)(m:Nat)(o:aC)(d:Nat)(want:Bool)(i:Nat)(s:XS)(k:Nat->XS->Option XS):T->Option XS
 | .lit (.bool b)=>bif Nat.blt d s.n then(bif b==want then yGo cf dr m o i s k else Vk o i s k) else none
 | .lit (.tuple _)=>bif Nat.blt d s.n then Vk o i s k else none
 |_=>none
noncomputable def aaf(cf:CF)(dr:Bool)(m:Nat)(o:aC)(k:Nat->XS->Option XS)(i:Nat)(s:XS):Option XS :=
 match o.g with
 |none=>yGo cf dr m o i s k
 |some (d,want)=>aeJ cf dr m o d want i s k (s.fr.Z7 d)
noncomputable def aag(cf:CF)(dr:Bool)(m:Nat)(l:List aC):Nat->XS->Option XS :=
 List.rec (motive:=fun _=>Nat->XS->Option XS) (fun _ s=>KC (Nat.add s.nx m) fun k=>some ⟨s.fr,s.n,s.hp,k,s.pin⟩) (fun o _ k=>aaf cf dr m o k) l
theorem TU(cf:CF)(dr:Bool)(m:Nat)(o:aC)(i:Nat)(s:XS)(k:Nat->XS->Option XS) :
  yGo cf dr m o i s k=(bif uh dr o s then match JY cf (drX dr o) (Nat.add s.nx i) o.d o.op s with
    |some s'=>k (Nat.succ i) s'
    |none=>none
   else none):=by
 have e:(bif o.fl||(o.ad||o.ar) then uh dr o s else(match o.ne with|[]=>true|l=>neX s o.op.xs l))=uh dr o s:=by
  cases h:o.fl with
  |true=>rfl
  |false =>
   cases h2:o.ad with
   |true=>rfl
   |false =>
    cases h3:o.ar with
    |true=>rfl
    |false=>simp only[uh,h,h2,h3,cond_false]; cases o.ne<;>rfl
 unfold yGo
 rw[e,aeI]
theorem acr(cf:CF)(dr:Bool)(m:Nat): ∀ (l:List aC) (i:Nat) (s:XS),aag cf dr m l i s=Df cf dr m l i s:=by
 intro l
 induction l with
 |nil=>intro i s; rfl
 |cons o r ih =>
  intro i s
  have hk:(fun i s=>aag cf dr m r i s)=Df cf dr m r:=funext fun i=>funext fun s=>ih i s
  show aaf cf dr m o (fun i s=>aag cf dr m r i s) i s=_
  rw[hk]
  have hs: ∀ i s,Vk o i s (Df cf dr m r)=(match s.put o.d T.un with|some s'=>Df cf dr m r (Nat.succ i) s'|none=>none):=by
   intro i s; unfold Vk; rw[Vj]
  unfold aaf Df
  cases o.g with
  |none=>exact TU ..
  |some p =>
   obtain⟨d,want⟩:=p
   simp only[]
   rw[Tr.Vf]
   generalize s.fr.get d=t
   cases t with
   |lit v =>
    cases v<;>first|rfl|(simp only[aeJ,TU,hs]; done)|(simp only[aeJ,TU,hs]; rfl)
   |_=>rfl
def Xi(k:XS->Out):Out->Out
 | .go s=>k s
 |o=>o
def aah(a b:XS->Out)(s:XS):T->Out
 | .lit (.bool true)=>a s
 | .lit (.bool false)=>b s
 |_=>.bad
def aeK(id:Nat):Out->Out
 | .ex j s'=>bif Nat.beq j id then .go s' else .ex j s'
 |o=>o
def af4:Option XS->Out
 |some s=>.go s
 |none=>.bad
noncomputable def QI(m:Mlt)(body:XS->Out)(n:Nat):XS->Out :=
 Nat.rec (motive:=fun _=>XS->Out) (fun _=>.bad) (fun _ k s=>Xi k (body (s.KD m))) n
noncomputable def yr(cf:CF)(big:Nat)(c:eu):XS->Out :=
 eu.rec (motive:=fun _=>XS->Out) (fun s=>.go s) (fun dr ops s=>af4 (aag cf dr ops.length ops 0 s)) (fun _ _ fa fb s=>Xi fb (fa s))
  (fun c _ _ fa fb s=>aah fa fb s (s.Om c)) (fun id _ fb s=>aeK id (fb s)) (fun id s=>.ex id s) (fun b fb s=>QI (Gs b) fb big s) (fun s=>.rt s) c
theorem aai(m:Mlt)(body:XS->Out): ∀ (n:Nat) (s:XS),QI m body n s=iter m body n s:=by
 intro n
 induction n with
 |zero=>intro s; rfl
 |succ n ih =>
  intro s
  have hk:QI m body n=iter m body n:=funext fun s=>ih s
  show Xi (QI m body n) (body (s.KD m))=_
  rw[hk]
  unfold Xi
  simp only[iter]
  split<;>rename_i h<;>simp[h]
theorem adb(cf:CF)(big:Nat): ∀ (c:eu) (s:XS),yr cf big c s=xr cf big c s:=by
 intro c
 induction c with
 |skip=>intro s; rfl
 |reg dr ops =>
  intro s
  show af4 (aag cf dr ops.length ops 0 s)=_
  rw[acr]
  simp only[xr]
  cases Df cf dr ops.length ops 0 s<;>rfl
 |seq a b ha hb =>
  intro s
  show Xi (yr cf big b) (yr cf big a s)=_
  rw[ha,show yr cf big b=xr cf big b from funext hb]
  simp only[xr]
  unfold Xi
  split<;>rename_i h<;>simp[h]
 |cond x a b ha hb =>
  intro s
  show aah (yr cf big a) (yr cf big b) s (s.Om x)=_
  rw[XS.Z9,show yr cf big b=xr cf big b from funext hb,show yr cf big a=xr cf big a from funext ha]
  simp only[xr]
  unfold aah
  split<;>rename_i h<;>simp[h]
 |blk id b hb =>
  intro s
  show aeK id (yr cf big b s)=_
  rw[hb]
  simp only[xr]
  unfold aeK
  split<;>rename_i h<;>simp[h]
 |exit id=>intro s; rfl
 |loop b hb =>
  intro s
  show QI (Gs b) (yr cf big b) big s=_
  rw[aai,show yr cf big b=xr cf big b from funext hb]
  simp only[xr]
 |ret=>intro s; rfl
noncomputable def yP(K:Know)(cf:CF)(dr:Bool)(n:Nat)(f:FuncId)(ts:List T):Option (T×Option Ob) :=
 match K.UN n f ts with
 |some r=>bif dr&&r.2.isSome then none else some r
 |none =>
  match K.tab f with
  |none=>none
  |some b =>
   bif Nat.ble ts.length b.nt then
    match yr cf K.big b.code (zi b ts [] 0) with
    | .go s=>Tv n dr b.rs s
    | .rt s=>Tv n dr b.rs s
    |_=>none
   else none
noncomputable def yI(K:Know)(cf:CF)(n:Nat)(f:FuncId)(ts:List T)(h:XH):Option (T×XH) :=
 match K.Zb n f ts h with
 |some r=>some r
 |none =>
  match K.tab f with
  |none=>none
  |some b =>
   bif T.JX n ts&&hLt n h&&Nat.ble ts.length b.nt then
    match yr cf K.big b.code (zi b ts h n) with
    | .go s=>Tz n h b.rs s
    | .rt s=>Tz n h b.rs s
    |_=>none
   else none
noncomputable def yf(K:Know):Nat->CF
 |0=>fun _ _ _ _ _=>none
 |d+1=>fun dr n f ts h =>
  bif T.bC ts then
   match yP K (yf K d) dr n f ts with
   |some (t,o)=>some (t,Zc n h o)
   |none=>none
  else bif K.wr f then(bif dr then none else yI K (yf K d) n f ts h)
  else bif T.bC (T.Ai h ts) then
   match yP K (yf K d) dr n f (T.Ai h ts) with
   |some (t,o)=>bif t.hard&&Zd o then some (t,Zc n h o) else(bif dr then none else yI K (yf K d) n f ts h)
   |none=>bif dr then none else yI K (yf K d) n f ts h
  else bif dr then none else yI K (yf K d) n f ts h
theorem aaj(K:Know)(cf:CF)(dr:Bool)(n:Nat)(f:FuncId)(ts:List T):yP K cf dr n f ts=WS K cf dr n f ts:=by
 unfold yP WS; simp only[adb]; rfl
theorem af5(K:Know)(cf:CF)(n:Nat)(f:FuncId)(ts:List T)(h:XH):yI K cf n f ts h=NW K cf n f ts h:=by
 unfold yI NW; simp only[adb]; rfl
theorem ade(K:Know): ∀ d,yf K d=xf K d:=by
 intro d
 induction d with
 |zero=>rfl
 |succ d ih =>
  funext dr n f ts h
  simp only[yf,xf,ih,aaj,af5]; rfl
end Go.Ab
