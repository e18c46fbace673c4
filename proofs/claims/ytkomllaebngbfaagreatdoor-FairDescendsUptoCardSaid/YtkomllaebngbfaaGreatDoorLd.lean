/-
 The abstract layer, part 18: rules by which `aw` is worked out.
-/
import Derived.Laws.Strings
import Derived.Test.YtkomllaebngbfaaGreatDoorLc
namespace Go.Ab
section
variable {P:Program} {dr:Bool} {n m:Nat} {d:Option Nat} {K:AS->Prop} {s:AS} {fr:List T} {h:Hp} {nx pn:Nat} {Q:nD->AS->Prop}
theorem acL{a b:dU}:aw P (.seq a b) Q ⟨fr,h,nx,pn⟩=aw P a (fun e s'=>match e with| .normal=>aw P b Q s'|e=>Q e s') ⟨fr,h,nx,pn⟩:=rfl
section
variable {a b:Int} {x y:ByteArray}
end
end
section
variable {P:Program}
theorem MC{g:Option (Nat×Bool)}{s:AS}{y y' n n':AS->Prop}(hy: ∀ s,y s->y' s)(hn: ∀ s,n s->n' s)(h:CX g s y n):CX g s y' n':=by
 unfold CX at h ⊢
 split at h
 ·exact hy _ h
 ·rename_i d want
  split at h
  ·exact⟨fun e=>hy _ (h.1 e),fun e=>hn _ (h.2 e)⟩
  ·exact hn _ h
  ·exact h.elim
theorem MF{dr:Bool}{n:Nat}{d:Option Nat}{op:kS}{K K':AS->Prop}{s:AS}(hK: ∀ s',K s'->K' s')(h:YH P dr n d op K s):YH P dr n d op K' s:=by
 cases op<;>try (exact h.elim)
 obtain⟨h1,k,h2⟩:=h
 exact⟨h1,k,h2.mono fun t h' hh=>hK _ hh⟩
theorem OM{dr:Bool}{m:Nat}{K K':AS->Prop}(hK: ∀ s,K s->K' s): ∀ {l:List ay} {i:Nat} {s:AS},nG P dr m K l i s->nG P dr m K' l i s:=by
 intro l
 induction l with
 |nil=>intro i s h; exact hK _ h
 |cons o r ih =>
  intro i s h
  simp only[nG] at h ⊢
  exact MC (fun s h=>⟨h.1,h.2.imp (fun h=>h.imp (fun h=>⟨h.1,jw (fun s' _ _ hh=>⟨hh.1,ih hh.2⟩) h.2⟩) fun h=>⟨h.1,h.2.1,FT (fun s' _ _ hh=>ih hh) h.2.2⟩) (MF fun s' hh=>ih hh)⟩) (fun s h=>ih h) h
theorem oU: ∀ {c:dU} {Q Q':nD->AS->Prop} {s:AS},(∀ e s,Q e s->Q' e s)->aw P c Q s->aw P c Q' s:=by
 intro c
 induction c with
 |skip=>intro Q Q' s hQ h; exact hQ _ _ h
 |reg dr ops=>intro Q Q' s hQ h; exact OM (hQ _) h
 |seq a b iha ihb =>
  intro Q Q' s hQ h
  refine iha (fun e s h=>?_) h
  cases e with
  |normal=>exact ihb hQ h
  |exit _=>exact hQ _ _ h
  |ret=>exact hQ _ _ h
 |cond c a b iha ihb =>
  intro Q Q' s hQ h
  simp only[aw] at h ⊢
  split at h
  ·exact⟨fun e=>iha hQ (h.1 e),fun e=>ihb hQ (h.2 e)⟩
  ·exact h.elim
 |blk id b ih =>
  intro Q Q' s hQ h
  refine ih (fun e s h=>?_) h
  cases e with
  |normal=>exact hQ _ _ h
  |exit j =>
   simp only at h ⊢
   cases hj:j==id<;>simp only[hj,cond_true,cond_false] at h ⊢ <;>exact hQ _ _ h
  |ret=>exact hQ _ _ h
 |exit _=>intro Q Q' s hQ h; exact hQ _ _ h
 |ret=>intro Q Q' s hQ h; exact hQ _ _ h
 |loop b ih =>
  intro Q Q' s hQ h
  obtain⟨I,μ,h1,h2⟩:=h
  refine⟨I,μ,h1,fun s hs=>ih (fun e s h=>?_) (h2 s hs)⟩
  cases e with
  |normal=>exact h
  |exit _=>exact hQ _ _ h
  |ret=>exact hQ _ _ h
end
def Again{ι:Type}(st:ι->AS)(inv:ι->Prop)(μ:ι->Nat)(i:ι)(s:AS):Prop:= ∃ j,(inv j/\μ j<μ i)/\Wk (st j) s
theorem least{A:Nat->Prop}(h: ∃ n,A n): ∃ n,A n/\ ∀ k,A k->n<=k:=by
 obtain⟨n,hn⟩:=h
 induction n using Nat.strongRecOn with
 |_ n ih =>
  by_cases hx: ∃ k,k<n/\A k
  ·obtain⟨k,h1,h2⟩:=hx; exact ih k h1 h2
  ·exact⟨n,hn,fun k hk=>Nat.le_of_not_lt fun hlt=>hx ⟨k,hlt,hk⟩⟩
theorem xJ.rule{P:Program}{b:dU}{Q:nD->AS->Prop}{s:AS}{ι:Type}(st:ι->AS)(inv:ι->Prop)(μ:ι->Nat)(i:ι)(hi:inv i)(hw:Wk (st i) s)
  (round: ∀ i,inv i->aw P b (fun e s'=>match e with| .normal=>Again st inv μ i s'|e=>Q e s') (st i)):xJ (aw P b) Q s:=by
 classical
 let A (s:AS) (n:Nat):Prop:= ∃ i,inv i/\st i=s/\μ i=n
 let m (s:AS):Nat:=if h: ∃ n,A s n then(least h).choose else 0
 have hm: ∀ s,(∃ n,A s n)->A s (m s)/\ ∀ k,A s k->m s<=k:=by
  intro s hex
  have:m s=(least hex).choose:=dif_pos hex
  rw[this]; exact(least hex).choose_spec
 have hle: ∀ i,inv i->m (st i)<=μ i:=fun i hi=>(hm (st i) ⟨μ i,i,hi,rfl,rfl⟩).2 _ ⟨i,hi,rfl,rfl⟩
 refine⟨fun s=> ∃ i,inv i/\st i=s,m,⟨st i,hw,i,hi,rfl⟩,?_⟩
 rintro s hs
 have hex: ∃ n,A s n:=by obtain⟨i,h1,h2⟩:=hs; exact⟨μ i,i,h1,h2,rfl⟩
 obtain⟨i,h1,h2,h3⟩:=(hm s hex).1
 subst h2
 refine oU (fun e s' h=>?_) (round i h1)
 cases e with
 |normal =>
  obtain⟨j,⟨g1,g2⟩,g3⟩:=h
  refine⟨st j,g3,⟨j,g1,rfl⟩,?_⟩
  have:=hle j g1
  omega
 |exit _=>exact h
 |ret=>exact h
section
variable {P:Program}
def no:Hp:=fun _=>none
mutual
def T.hard:T->Bool
 | .sl _ _ l=>l.isEmpty
 | .ref _ _=>false
 | .agg l=>T.qZ l
 | .fn _ cap=>T.qZ cap
 | .iF l=>T.qZ l
 |_=>true
def T.qZ:List T->Bool
 |[]=>true
 |t::ts=>T.hard t&&T.qZ ts
end
structure rE(P:Program)(f:FuncId)(ts:List T)(t:Nat->T)(o:Option Ob):Prop where
 free:T.aT ts=true
 ids: ∀ n,(t n).ids (fun i=>i=n)
 ob: ∀ ob,o=some ob->T.aT ob.l=true
 nm: ∀ ob,o=some ob->ob.k≠dK
 call: ∀ n,bF P f ts no n fun t' h'=>t'=t n/\h'=gI no n o
@[reducible] def oV(P:Program)(f:FuncId)(ts:List T)(t:T):Prop:=rE P f ts (fun _=>t) none
def acM(t:Nat->T)(ob:Ob)(rs:List RV)(s:AS):Prop :=
 ∃ s1,AB s1 s/\zL s1 rs/\ ∃ m l',T.sub (fun i=>i≠m) s1.hp (t m) (resT s1 rs)/\s1.hp m=some ⟨ob.ty,ob.k,l'⟩/\T.eU (fun i=>i≠m) s1.hp ob.l l'
def YO(t:Nat->T)(o:Option Ob)(rs:List RV):nD->AS->Prop
 | .exit _,_=>False
 |_,s=>match o with
  |none=>zL s rs/\T.sub (fun _=>True) s.hp (t 0) (resT s rs)
  |some ob=>acM t ob rs s
theorem OO: ∀ t:T,t.ren id=t:=by
 intro t
 apply T.rec (motive_1:=fun t=>t.ren id=t) (motive_2:=fun l=>T.eX id l=l)
 all_goals (intros; simp_all[T.ren,T.eX])
mutual
theorem OQ{ρ:Nat->Nat}:(t:T)->t.ids (fun _=>False)->t.ren ρ=t
 | .lit _,_=>rfl
 | .agg l,h=>by simp only[T.ren,T.ids] at h ⊢; rw[uF l h]
 | .sl _ _ _,_=>rfl
 | .ref _ _,_=>rfl
 | .own _,h=>by simp[T.ids] at h
 | .ptr _ _ _,h=>by simp[T.ids] at h
 | .lF _ _ _,h=>by simp[T.ids] at h
 | .fn f l,h=>by simp only[T.ren,T.ids] at h ⊢; rw[uF l h]
 | .iF l,h=>by simp only[T.ren,T.ids] at h ⊢; rw[uF l h]
 | .any,_=>rfl
theorem uF{ρ:Nat->Nat}:(l:List T)->T.aH (fun _=>False) l->T.eX ρ l=l
 |[],_=>rfl
 |t::ts,h=>by simp only[T.eX,T.aH] at h ⊢; rw[OQ t h.1,uF ts h.2]
end
theorem tV(M:Nat->Prop):lW M no:=fun _ _ h=>by cases h
theorem iJ{h:Hp}{n:Nat}{o:Option Ob}{i:Nat}{ob:Ob}(H:gI h n o i=some ob):(i=n/\o=some ob)\/h i=some ob:=by
 cases o with
 |none=>exact .inr H
 |some o' =>
  simp only[gI,upd] at H
  split at H
  ·exact .inl ⟨by assumption,H⟩
  ·exact .inr H
theorem rE.EF{f:FuncId}{fn:Func}{c:Code}{ac:dU}{rs:List RV}{ts:List T}{nt:Nat}{t:Nat->T}{o:Option Ob}(hf:P.funcs[f]? =some fn)(hb:fn.body=some c)(hc:comp P c=some ac)
  (hr:jZ P fn.results.toList=some rs) (hcl:callable P f) (hnt:fn.ntmps=nt) (hts:T.aT ts=true) (ht: ∀ n m,(t n).ren (fun _=>m)=t m) (hid: ∀ n,(t n).ids (fun i=>i=n/\o.isSome=true))
  (ho: ∀ ob,o=some ob->T.aT ob.l=true/\ob.k≠dK/\ ∀ t∈ob.l,t.kd=ob.k)
  (H:aw P ac (YO t o rs) ⟨ts++List.replicate (nt-ts.length) T.un,no,0,0⟩):rE P f ts t o:=by
 refine⟨hts,fun n=>T.aV (fun _ h=>h.1) _ (hid n),fun ob h=>(ho ob h).1,fun ob h=>(ho ob h).2.1,fun n=>?_⟩
 refine bF.EF (nx:=0) (nt:=nt) hf hb hc hr hcl hnt ⟨_,_,rfl,rfl⟩ (T.aA (fun _ h=>h.elim) _ (dD hts)) (tV _) ?_
 have key: ∀ s,YO t o rs .ret s-> ∃ s1,AB s1 s/\ZT no n (fun t' h'=>t'=t n/\h'=gI no n o) rs s1:=by
  intro s H
  cases o with
  |none =>
   obtain⟨h1,h2⟩:=H
   refine⟨s,.refl _,h1,fun _=>True,fun _=>0,t n,no,⟨rfl,rfl⟩,by rw[ht]; exact h2,(fun i ob hi=>by cases hi),(fun i j hi=>by cases hi),T.aV (fun _ h=>absurd h.2 (by simp)) _ (hid n),tV _,(fun i hi=>by cases hi)⟩
  |some ob =>
   obtain⟨s1,hN,h1,m,l',h3,h4,h5⟩:=H
   have hob:=ho ob rfl
   have hx: ∀ i ob',gI no n (some ob) i=some ob'->i=n/\ob'=ob:=fun i ob' hi=>by
    rcases iJ hi with ⟨h1,h2⟩|h
    ·cases h2; exact⟨h1,rfl⟩
    ·cases h
   refine⟨s1,hN,h1,fun i=>i≠m,fun _=>m,t n,gI no n (some ob),⟨rfl,rfl⟩,by rw[ht]; exact h3,fun i ob' hi=>?_,fun i j hi hj _=>?_,T.aV (fun _ h=>.inr h.1) _ (hid n),fun i ob' hi=>?_,fun i hi=>by cases hi⟩
   ·obtain⟨rfl,rfl⟩:=hx i ob' hi
    refine⟨_,h4,by simp,rfl,rfl,?_,.inr hob.2⟩
    rw[uF _ (dD hob.1)]; exact h5
   ·obtain⟨oi,hi⟩:=Option.isSome_iff_exists.1 hi
    obtain⟨oj,hj⟩:=Option.isSome_iff_exists.1 hj
    rw[(hx _ _ hi).1,(hx _ _ hj).1]
   ·obtain⟨rfl,rfl⟩:=hx i ob' hi
    exact⟨.inr rfl,T.aA (fun _ h=>h.elim) _ (dD hob.1)⟩
 refine oU (fun e s h=>?_) H
 cases e with
 |normal=>exact key s h
 |ret=>exact key s h
 |exit _=>exact h.elim
theorem bF.sub{f:FuncId}{ts ts':List T}{h:Hp}{n:Nat}{post:T->Hp->Prop}(H:bF P f ts h n post)(hs:T.eU (fun _=>False) h ts ts')(hi: ∀ M,T.aH M ts'->T.aH M ts):bF P f ts' h n post:=by
 obtain⟨h1,h2,h3⟩:=H
 refine⟨h1,h2,fun F M E vs hk he hr hid hm hn=>h3 F M E vs hk he ?_ (hi M hid) hm hn⟩
 subst he
 have:=rZ hk (Z:=fun _=>False) _ _ hs _ hr
 refine kH (E:=E.shut fun _=>False) (E':=E) _ (fun _=>True) ⟨fun b hb=>?_,fun _ _=>rfl,fun i _ hi=>⟨?_,rfl,rfl⟩⟩ (vU _) _ this
 ·rcases hb with hb|⟨_,_,hf,_⟩
  ·exact hb
  ·exact hf.elim
 ·rw[yZ (fun h=>h)]; exact hi
theorem rE.frame{f:FuncId}{ts:List T}{t:Nat->T}{o:Option Ob}(H:rE P f ts t o)(h:Hp)(n:Nat):bF P f ts h n fun t' h'=>t'=t n/\h'=gI h n o:=by
 obtain⟨_,hcl,hcall⟩:=H.call n
 refine⟨⟨_,_,rfl,rfl⟩,hcl,fun F M E vs hk he hts hid hm hn=>?_⟩
 subst he
 have hfresh:E.h n=none:=by
  cases hq:E.h n with
  |none=>rfl
  |some ob=>exact absurd (hm n ob hq).1 hn
 let E0:Env:= {E with h:=no}
 let F0:Fr P:= {s:=fun g=>F g\/ ∃ i ob,E.h i=some ob/\rowB (E.φ i)=some g}
 have hk0:pY F0 E0:=by
  refine⟨(fun i ob hi=>by cases hi),(fun i ob g hi=>by cases hi),(fun i j oi oj g _ hi=>by cases hi),hk.slt,fun g hg=>?_,fun g hs hg=>?_,fun g cs hg=>⟨.inl (hk.gl g cs hg).1,(hk.gl g cs hg).2⟩⟩
  ·rcases hg with hg|⟨i,ob,h1,h3⟩
   ·exact hk.flt g hg
   ·exact(hk.obs i ob h1).1.lt h3
  ·rcases hg with hg|⟨i,ob,h1,h3⟩
   ·exact hk.sf g hs hg
   ·exact(hk.out i ob g h1 h3).1 hs
 refine(hcall F0 M E0 vs hk0 rfl (kH (E:=E) (E':=E0) _ (fun _=>False) ⟨fun _ h=>h,fun _ _=>rfl,fun _ hf=>hf.elim⟩ (dD H.free) _ hts) hid (tV _) hn).mono ?_
 rintro e w' ⟨v,t',E0',rfl,rfl,⟨rfl,hh⟩,hv,hk0',hext,_,_,_⟩
 let E':Env:= {E0' with h:=gI E.h n o,φ:=fun i=>if i=n then E0'.φ i else E.φ i,κ:=fun i=>if i=n then E0'.κ i else E.κ i}
 have qj:E'.φ n=E0'.φ n/\E'.κ n=E0'.κ n:=⟨if_pos rfl,if_pos rfl⟩
 have hφ: ∀ i,i≠n->E'.φ i=E.φ i/\E'.κ i=E.κ i:=fun i hi=>⟨if_neg hi,if_neg hi⟩
 have FQ:Ext F E E':=⟨hext.s,fun g hg=>hext.w g (hg.imp id .inl),hext.size,hext.os,hext.tape,hext.output,hext.dr⟩
 have hcase: ∀ i ob,E'.h i=some ob->(i=n/\E0'.h i=some ob)\/(i≠n/\E.h i=some ob):=by
  intro i ob hi
  by_cases hin:i=n
  ·subst hin
   rcases iJ hi with ⟨_,h2⟩|h2
   ·left; refine⟨rfl,?_⟩; rw[hh,h2]; simp[gI,upd]
   ·rw[hfresh] at h2; cases h2
  ·rcases iJ hi with ⟨h1,_⟩|h2
   ·exact absurd h1 hin
   ·exact .inr ⟨hin,h2⟩
 have DW:Same E E' M:=by
  intro i hi hs
  obtain⟨ob,hob⟩:=Option.isSome_iff_exists.1 hs
  rcases hcase i ob hob with ⟨rfl,_⟩|⟨h1,h2⟩
  ·exact absurd hi hn
  ·exact⟨by rw[h2]; rfl,hφ i h1⟩
 have hKn:Keeps E0' E' (fun i=>i=n):=by
  refine⟨fun _ h=>h,fun _ _=>rfl,?_⟩
  rintro i rfl hs
  obtain⟨ob,hob⟩:=Option.isSome_iff_exists.1 hs
  rcases hcase i ob hob with ⟨_,h2⟩|⟨h1,_⟩
  ·exact⟨by rw[h2]; rfl,qj⟩
  ·exact absurd rfl h1
 have Xj: ∀ i ob g,E.h i=some ob->rowB (E.φ i)=some g->F0 g:=fun i ob g h1 h2=>.inr ⟨i,ob,h1,h2⟩
 have UA: ∀ ob,E0'.h n=some ob->o=some ob:=fun ob h1=>by
  rw[hh] at h1
  rcases iJ h1 with ⟨_,h2⟩|h2
  ·exact h2
  ·cases h2
 refine⟨v,t n,E',rfl,rfl,⟨rfl,rfl⟩,CU hKn (H.ids n) hv,⟨fun i ob hi=>?_,fun i ob g hi hg=>?_,fun i j oi oj g hij hi hj hgi hgj=>?_,hk0'.slt,fun g hg=>hk0'.flt g (.inl hg),fun g hs hg=>hk0'.sf g hs (.inl hg),FQ.gl hk⟩,FQ,DW,
  T.aV (fun _ h=>.inr h) _ (H.ids n),fun i ob hi=>?_⟩
 ·rcases hcase i ob hi with ⟨rfl,h1⟩|⟨h0,h1⟩
  ·rw[qj.1,qj.2]
   obtain⟨k1,k2,k3⟩:=hk0'.obs i ob h1
   exact⟨k1.keep hKn.no (dD (H.ob ob (UA ob h1))) (fun _ _=>rfl),k2,k3⟩
  ·rw[(hφ i h0).1,(hφ i h0).2]
   obtain⟨k1,k2,k3⟩:=hk.obs i ob h1
   exact⟨k1.keep (.of FQ DW) (hm i ob h1).2 (fun g hg=>hext.w g (.inr (Xj i ob g h1 hg))),k2,k3⟩
 ·rcases hcase i ob hi with ⟨rfl,h1⟩|⟨h0,h1⟩
  ·rw[qj.1] at hg
   obtain⟨k1,k2⟩:=hk0'.out i ob g h1 hg
   exact⟨k1,fun h=>k2 (.inl h)⟩
  ·rw[(hφ i h0).1] at hg
   exact⟨fun hs=>hk0'.sf g hs (Xj i ob g h1 hg),(hk.out i ob g h1 hg).2⟩
 ·rcases hcase i oi hi with ⟨rfl,h1⟩|⟨h0,h1⟩<;>rcases hcase j oj hj with ⟨h2,h3⟩|⟨h2,h3⟩
  ·exact hij h2.symm
  ·rw[qj.1] at hgi; rw[(hφ j h2).1] at hgj
   exact(hk0'.out i oi g h1 hgi).2 (Xj j oj g h3 hgj)
  ·subst h2; rw[(hφ i h0).1] at hgi; rw[qj.1] at hgj
   exact(hk0'.out j oj g h3 hgj).2 (Xj i oi g h1 hgi)
  ·rw[(hφ i h0).1] at hgi; rw[(hφ j h2).1] at hgj
   exact hk.sep i j oi oj g hij h1 h3 hgi hgj
 ·rcases iJ hi with ⟨h1,h2⟩|h1
  ·exact⟨.inr h1,T.aA (fun _ h=>h.elim) _ (dD (H.ob ob h2))⟩
  ·exact⟨.inl (hm i ob h1).1,T.aA (fun _ h=>.inl h) _ (hm i ob h1).2⟩
theorem rE.use{f:FuncId}{ts ts':List T}{t:Nat->T}{o:Option Ob}(H:rE P f ts t o){h:Hp}{n:Nat}{K:T->Hp->Prop}(hs:T.eU (fun _=>False) h ts ts')(hK:K (t n) (gI h n o)):bF P f ts' h n K :=
 ((H.frame h n).sub hs fun _ _=>T.aA (fun _ h=>h.elim) _ (dD H.free)).mono fun _ _ ⟨h1,h2⟩=>h1▸h2▸hK
theorem rE.shut{f:FuncId}{ts:List T}{t:Nat->T}{o:Option Ob}(H:rE P f ts t o){t':T}(hs: ∀ n,T.sub (fun _=>True) (gI no n o) t' (t n))(ht:t'.free=true):oV P f ts t':=by
 refine⟨H.free,fun n=>T.aV (fun _ h=>h.elim) _ (eH ht),(fun ob h=>by cases h),(fun ob h=>by cases h),fun n=>?_⟩
 obtain⟨_,hcl,hcall⟩:=H.call n
 refine⟨⟨_,_,rfl,rfl⟩,hcl,fun F M E vs hk he hts hid hm hn=>(hcall F M E vs hk he hts hid hm hn).mono ?_⟩
 rintro e w' ⟨v,t'',E',rfl,rfl,⟨rfl,hh⟩,hv,hk',hext,hS,_,_⟩
 have hno:(E'.shut fun _=>True).h=no:=by
  funext i; simp[Env.shut,no]
 refine⟨v,t',E'.shut fun _=>True,rfl,rfl,⟨rfl,hno⟩,FX hk' (by rw[hh]; exact hs n) hv,hk'.shut _,hext.trans (Ut _ _ _),fun i _ hi=>?_,T.aV (fun _ h=>h.elim) _ (eH ht),?_⟩
 ·rw[hno] at hi; cases hi
 ·rw[hno]; exact tV _
mutual
theorem su{E E':Env}(hφ: ∀ i,(E'.h i).isSome=true->(E.h i).isSome=true/\E'.φ i=E.φ i/\E'.κ i=E.κ i):(t:T)->t.hard=true->(vs:List Value)->aF E t vs->aF E' t vs
 | .lit v,_,vs,h=>by simpa [aF] using h
 | .agg l,hd,vs,h=>by simp only[aF,T.hard] at h hd ⊢; exact Ag hφ l hd vs h
 | .sl k f l,hd,vs,h=>by
  simp only[T.hard,List.isEmpty_iff] at hd; subst hd
  simp only[aF] at h ⊢
  obtain⟨a,c,h1,h2,h3,_⟩:=h
  exact⟨a,c,h1,h2,h3,.inl trivial⟩
 | .ref _ _,hd,_,_=>by simp[T.hard] at hd
 | .own i,_,vs,h=>by
  simp only[aF] at h ⊢
  obtain⟨u,h1,h2⟩:=h
  refine⟨u,h1,fun hs=>?_⟩
  obtain⟨g1,g2,_⟩:=hφ i hs
  rw[g2]; exact h2 g1
 | .ptr i j off,_,vs,h=>by
  simp only[aF] at h ⊢
  obtain⟨u,h1,h2⟩:=h
  refine⟨u,h1,fun hs=>?_⟩
  obtain⟨g1,g2,g3⟩:=hφ i hs
  rw[g2,g3]; exact h2 g1
 | .lF i lo hi,_,vs,h=>by
  simp only[aF] at h ⊢
  obtain⟨u,h1,h2⟩:=h
  refine⟨u,h1,fun hs=>?_⟩
  obtain⟨g1,g2,g3⟩:=hφ i hs
  rw[g2,g3]; exact h2 g1
 | .fn f cap,hd,vs,h=>by
  simp only[aF,T.hard] at h hd ⊢
  obtain⟨cs,h1,h2⟩:=h
  exact⟨cs,h1,Ag hφ cap hd _ h2⟩
 | .iF l,hd,vs,h=>by
  simp only[aF,T.hard] at h hd ⊢
  obtain⟨cs,h1,h2⟩:=h
  exact⟨cs,h1,F7 hφ l hd _ h2⟩
 | .any,_,_,_=>by simp[aF]
theorem Ag{E E':Env}(hφ: ∀ i,(E'.h i).isSome=true->(E.h i).isSome=true/\E'.φ i=E.φ i/\E'.κ i=E.κ i):(l:List T)->T.qZ l=true->(vs:List Value)->aS E l vs->aS E' l vs
 |[],_,vs,h=>by simpa [aS] using h
 |t::ts,hd,vs,h=>by
  simp only[aS,T.qZ,Bool.and_eq_true] at h hd ⊢
  obtain⟨hk,v,r,h1,h0,h2,h3⟩:=h
  exact⟨hk,v,r,h1,h0,su hφ t hd.1 _ h2,Ag hφ ts hd.2 _ h3⟩
theorem F7{E E':Env}(hφ: ∀ i,(E'.h i).isSome=true->(E.h i).isSome=true/\E'.φ i=E.φ i/\E'.κ i=E.κ i):(l:List T)->T.qZ l=true->(vs:List Value)->bK E l vs->bK E' l vs
 |[],_,vs,h=>by simpa [bK] using h
 |t::ts,hd,vs,h=>by
  simp only[bK,T.qZ,Bool.and_eq_true] at h hd ⊢
  obtain⟨v,r,h1,h2,h3⟩:=h
  refine⟨v,r,h1,?_,F7 hφ ts hd.2 _ h3⟩
  rcases h2 with ⟨hk,cs,h4,h5⟩|⟨hk,h4⟩
  ·exact .inl ⟨hk,cs,h4,su hφ t hd.1 _ h5⟩
  ·exact .inr ⟨hk,su hφ t hd.1 _ h4⟩
end
theorem RJ{E E':Env}(hφ: ∀ i,(E'.h i).isSome=true->(E.h i).isSome=true/\E'.φ i=E.φ i/\E'.κ i=E.κ i){t:T}(hd:t.hard=true){v:Value}(h:jB E t v):jB E' t v:=by
 rcases h with ⟨hk,cs,h4,h5⟩|⟨hk,h4⟩
 ·exact .inl ⟨hk,cs,h4,su hφ t hd _ h5⟩
 ·exact .inr ⟨hk,su hφ t hd _ h4⟩
theorem JO{E E':Env}(hφ: ∀ i,(E'.h i).isSome=true->(E.h i).isSome=true/\E'.φ i=E.φ i/\E'.κ i=E.κ i){k:Nat}: ∀ {l:List T},T.qZ l=true-> ∀ {vs:List Value},aB E k l vs->aB E' k l vs:=by
 intro l
 induction l with
 |nil=>intro _ vs _; simp[aB]
 |cons t ts ih =>
  intro hd vs h
  simp only[aB,T.qZ,Bool.and_eq_true] at h hd ⊢
  obtain⟨h1,h2,h3,h4,h5⟩:=h
  exact⟨h1,h2,h3,su hφ t hd.1 _ h4,ih hd.2 h5⟩
theorem rE.lend{f:FuncId}{ts ts':List T}{t:Nat->T}{o:Option Ob}(H:rE P f ts t o){h:Hp}{n:Nat}{K:T->Hp->Prop}(hs:T.eU (fun _=>True) h ts ts')(hd:(t n).hard=true)(ho: ∀ ob,o=some ob->T.qZ ob.l=true)(hK:K (t n) (gI h n o)) :
  bF P f ts' h n K:=by
 refine bF.mono (post:=fun t' h'=>t'=t n/\h'=gI h n o) ?_ fun _ _ ⟨h1,h2⟩=>h1▸h2▸hK
 obtain⟨_,hcl,hcall⟩:=H.call n
 refine⟨⟨_,_,rfl,rfl⟩,hcl,fun F M E vs hk he hts hid hm hn=>?_⟩
 subst he
 have hfresh:E.h n=none:=by
  cases hq:E.h n with
  |none=>rfl
  |some ob=>exact absurd (hm n ob hq).1 hn
 let E0:Env:=E.shut fun _=>True
 have hno:E0.h=no:=by funext i; simp[E0,Env.shut,no]
 refine(hcall F M E0 vs (hk.shut _) hno (rZ hk _ _ hs _ hts) (T.aA (fun _ h=>h.elim) _ (dD H.free)) (tV _) hn).mono ?_
 rintro e w' ⟨v,t',E0',rfl,rfl,⟨rfl,hh⟩,hv,hk0',hext,_,_,_⟩
 let E':Env:= {E0' with S:=E.S,h:=gI E.h n o,φ:=fun i=>if i=n then E0'.φ i else E.φ i,κ:=fun i=>if i=n then E0'.κ i else E.κ i}
 have qj:E'.φ n=E0'.φ n/\E'.κ n=E0'.κ n:=⟨if_pos rfl,if_pos rfl⟩
 have hφ: ∀ i,i≠n->E'.φ i=E.φ i/\E'.κ i=E.κ i:=fun i hi=>⟨if_neg hi,if_neg hi⟩
 have hSw: ∀ g,E.S g->E0.S g:=fun g h=>.inl h
 have hOw: ∀ i ob g,E.h i=some ob->rowB (E.φ i)=some g->E0.S g:=fun i ob g h1 h2=>.inr ⟨i,ob,trivial,h1,h2⟩
 have FQ:Ext F E E':=⟨fun _ h=>h,fun g hg=>hext.w g (hg.imp (hSw g) id),hext.size,hext.os,hext.tape,hext.output,hext.dr⟩
 have hcase: ∀ i ob,E'.h i=some ob->(i=n/\E0'.h i=some ob)\/(i≠n/\E.h i=some ob):=by
  intro i ob hi
  by_cases hin:i=n
  ·subst hin
   rcases iJ hi with ⟨_,h2⟩|h2
   ·left; refine⟨rfl,?_⟩; rw[hh,h2]; simp[gI,upd]
   ·rw[hfresh] at h2; cases h2
  ·rcases iJ hi with ⟨h1,_⟩|h2
   ·exact absurd h1 hin
   ·exact .inr ⟨hin,h2⟩
 have DW:Same E E' M:=by
  intro i hi hs
  obtain⟨ob,hob⟩:=Option.isSome_iff_exists.1 hs
  rcases hcase i ob hob with ⟨rfl,_⟩|⟨h1,h2⟩
  ·exact absurd hi hn
  ·exact⟨by rw[h2]; rfl,hφ i h1⟩
 have UA: ∀ ob,E0'.h n=some ob->o=some ob:=fun ob h1=>by
  rw[hh] at h1
  rcases iJ h1 with ⟨_,h2⟩|h2
  ·exact h2
  ·cases h2
 let E2:Env:= {E' with h:=gI no n o}
 have h02: ∀ i,(E2.h i).isSome=true->(E0'.h i).isSome=true/\E2.φ i=E0'.φ i/\E2.κ i=E0'.κ i:=by
  intro i hi
  obtain⟨ob,hob⟩:=Option.isSome_iff_exists.1 hi
  rcases iJ hob with ⟨rfl,h2⟩|h2
  ·exact⟨by rw[hh]; exact hi,qj⟩
  ·cases h2
 have hK2:Keeps E2 E' (fun i=>i=n):=by
  refine⟨fun _ h=>h,fun _ _=>rfl,?_⟩
  rintro i rfl hi
  obtain⟨ob,hob⟩:=Option.isSome_iff_exists.1 hi
  refine⟨?_,rfl,rfl⟩
  rcases iJ hob with ⟨_,h2⟩|h2
  ·show(gI no i o i).isSome=true
   rw[h2]; simp[gI,upd]
  ·rw[hfresh] at h2; cases h2
 refine⟨v,t n,E',rfl,rfl,⟨rfl,rfl⟩,CU hK2 (H.ids n) (RJ h02 hd hv),⟨fun i ob hi=>?_,fun i ob g hi hg=>?_,fun i j oi oj g hij hi hj hgi hgj=>?_,fun g hg=>Nat.lt_of_lt_of_le (hk.slt g hg) hext.size,hk0'.flt,hk.sf,FQ.gl hk⟩,FQ,DW,
  T.aV (fun _ h=>.inr h) _ (H.ids n),fun i ob hi=>?_⟩
 ·rcases hcase i ob hi with ⟨rfl,h1⟩|⟨h0,h1⟩
  ·rw[qj.1,qj.2]
   obtain⟨k1,k2,k3⟩:=hk0'.obs i ob h1
   refine⟨?_,k2,k3⟩
   have hnm:=H.nm ob (UA ob h1)
   rcases k1.row hnm with k1|⟨g,c,cur,q1,q2,q3,q4,q5,q6⟩
   ·exact .inl ⟨hnm,.inl k1⟩
   ·refine .inl ⟨hnm,.inr ⟨g,c,cur,q1,q2,q3,q4,q5,?_⟩⟩
    exact dG _ _ _ hK2.no (dD (H.ob ob (UA ob h1))) _ (JO h02 (ho ob (UA ob h1)) q6)
  ·rw[(hφ i h0).1,(hφ i h0).2]
   obtain⟨k1,k2,k3⟩:=hk.obs i ob h1
   exact⟨k1.keep (.of FQ DW) (hm i ob h1).2 (fun g hg=>hext.w g (.inl (hOw i ob g h1 hg))),k2,k3⟩
 ·rcases hcase i ob hi with ⟨rfl,h1⟩|⟨h0,h1⟩
  ·rw[qj.1] at hg
   obtain⟨k1,k2⟩:=hk0'.out i ob g h1 hg
   exact⟨fun hs=>k1 (hext.s g (hSw g hs)),k2⟩
  ·rw[(hφ i h0).1] at hg
   exact hk.out i ob g h1 hg
 ·rcases hcase i oi hi with ⟨rfl,h1⟩|⟨h0,h1⟩<;>rcases hcase j oj hj with ⟨h2,h3⟩|⟨h2,h3⟩
  ·exact hij h2.symm
  ·rw[qj.1] at hgi; rw[(hφ j h2).1] at hgj
   exact(hk0'.out i oi g h1 hgi).1 (hext.s g (hOw j oj g h3 hgj))
  ·subst h2; rw[(hφ i h0).1] at hgi; rw[qj.1] at hgj
   exact(hk0'.out j oj g h3 hgj).1 (hext.s g (hOw i oi g h1 hgi))
  ·rw[(hφ i h0).1] at hgi; rw[(hφ j h2).1] at hgj
   exact hk.sep i j oi oj g hij h1 h3 hgi hgj
 ·rcases iJ hi with ⟨h1,h2⟩|h1
  ·exact⟨.inr h1,T.aA (fun _ h=>h.elim) _ (dD (H.ob ob h2))⟩
  ·exact⟨.inl (hm i ob h1).1,T.aA (fun _ h=>.inl h) _ (hm i ob h1).2⟩
end
def bs(l:List UInt8):ByteArray:=⟨l.toArray⟩
def o(d:Nat)(op:kS):ay:=⟨some d,op,none,false,[],false,false⟩
def ov(op:kS):ay:=⟨none,op,none,false,[],false,false⟩
def slots(n:Nat)(l:List (Nat×T)):List T:=l.foldl (fun fr p=>fr.set p.1 p.2) (List.replicate n .any)
section
variable {Z:Nat->Prop} {h:Hp}
mutual
theorem fQ:(t:T)->T.sub Z h t t
 | .any=>by simp[T.sub]
 | .sl k f l=>by simp[T.sub]
 | .agg l=>by simp only[T.sub]; exact gY l
 | .iF l=>by simp only[T.sub]; exact gY l
 | .lit _=>by simp[T.sub]
 | .ref _ _=>by simp[T.sub]
 | .own _=>by simp[T.sub]
 | .ptr _ _ _=>by simp[T.sub]
 | .lF _ _ _=>by simp[T.sub]
 | .fn _ _=>by simp[T.sub]
theorem gY:(l:List T)->T.eU Z h l l
 |[]=>by simp[T.eU]
 |t::ts=>by simp only[T.eU]; exact⟨fQ t,gY ts⟩
end
end
theorem wrap64{n:Int}(h1: -9223372036854775808<=n)(h2:n<9223372036854775808):IntKind.i64.wrap n=n:=by
 have e:IntKind.i64.wrap n=(if(true&&decide (n % 18446744073709551616>=9223372036854775808))=true then n % 18446744073709551616-18446744073709551616 else n % 18446744073709551616):=rfl
 rw[e]
 simp only[Bool.true_and,decide_eq_true_eq]
 split<;>omega
def WH(k:Nat)(l:List T):Bool:=bif k==1000000007 then l.all jC else l.all fun t=>t.kd==k
theorem JQ{k:Nat}{l:List T}(h:WH k l=true):(k=dK/\l.all jC=true)\/(k≠dK/\ ∀ t∈l,t.kd=k):=by
 unfold WH at h
 cases hk:(k==1000000007) with
 |true=>rw[hk] at h; exact .inl ⟨by simpa using hk,h⟩
 |false=>rw[hk] at h; exact .inr ⟨by simpa using hk,by simpa using h⟩
theorem Wk.Xu{s:AS}{fr:List T}{h:Hp}{nx pn:Nat}(i:Nat)(ty k:Nat){k':Nat}(hg:fr.getD i .any= .sl k' true [])(hk:qK k=true)(H:Wk s ⟨fr.set i (.own nx),upd h nx (some ⟨ty,k,[]⟩),nx+1,pn⟩):Wk s ⟨fr,h,nx,pn⟩:=by
 obtain⟨s1,h1,h2⟩:=H
 exact⟨s1,.slot ⟨i,k',ty,k,hg,hk,rfl⟩ h1,h2⟩
def hpL:List (Nat×Nat×Ob)->Hp
 |[]=>no
 |p::r=>upd (hpL r) p.1 (some p.2.2)
def BA:List (Nat×Nat×Ob)->Nat->Nat
 |[],i=>i
 |p::r,i=>if i=p.1 then p.2.1 else BA r i
def JR:List (Nat×Nat×Ob)->Nat->Prop
 |[],_=>False
 |p::r,j=>j=p.2.1\/JR r j
def YP(Z:Nat->Prop)(ρ:Nat->Nat)(h:Hp)(nx pn:Nat):List (Nat×Nat×Ob)->Prop
 |[]=>True
 |p::r=>(p.1<nx/\(p.1<pn->p.2.1=p.1)/\ ¬ JR r p.2.1/\T.aH (· <nx) p.2.2.l/\WH p.2.2.k p.2.2.l=true/\ ∃ l',h p.2.1=some ⟨p.2.2.ty,p.2.2.k,l'⟩/\T.eU Z h (T.eX ρ p.2.2.l) l')/\YP Z ρ h nx pn r
theorem BD: ∀ {L:List (Nat×Nat×Ob)} {i:Nat} {ob:Ob},hpL L i=some ob->(i,BA L i,ob)∈L/\JR L (BA L i):=by
 intro L
 induction L with
 |nil=>intro i ob h; cases h
 |cons p r ih =>
  intro i ob h
  simp only[hpL,upd] at h
  simp only[BA,JR]
  split at h
  ·rename_i hi; cases h; subst hi; simp
  ·rename_i hi; rw[if_neg hi]; obtain⟨h1,h2⟩:=ih h; exact⟨List.mem_cons_of_mem _ h1,.inr h2⟩
theorem JU{Z:Nat->Prop}{ρ:Nat->Nat}{h:Hp}{nx pn:Nat}: ∀ {L:List (Nat×Nat×Ob)},YP Z ρ h nx pn L-> ∀ {p},p∈L ->
  (p.1<nx/\(p.1<pn->p.2.1=p.1)/\T.aH (· <nx) p.2.2.l/\WH p.2.2.k p.2.2.l=true/\ ∃ l',h p.2.1=some ⟨p.2.2.ty,p.2.2.k,l'⟩/\T.eU Z h (T.eX ρ p.2.2.l) l'):=by
 intro L
 induction L with
 |nil=>intro _ p hp; cases hp
 |cons q r ih =>
  intro hL p hp
  simp only[YP] at hL
  rcases List.mem_cons.1 hp with rfl|hp
  ·obtain⟨⟨h1,h2,_,h3,h4,h5⟩,_⟩:=hL; exact⟨h1,h2,h3,h4,h5⟩
  ·exact ih hL.2 hp
theorem Xv{Z:Nat->Prop}{ρ:Nat->Nat}{h:Hp}{nx pn:Nat}: ∀ {L:List (Nat×Nat×Ob)},YP Z ρ h nx pn L-> ∀ {i j:Nat} {oi oj:Ob},hpL L i=some oi->hpL L j=some oj->BA L i=BA L j->i=j:=by
 intro L
 induction L with
 |nil=>intro _ i j oi oj hi; cases hi
 |cons q r ih =>
  intro hL i j oi oj hi hj e
  simp only[YP] at hL
  obtain⟨⟨_,_,hn,_⟩,hr⟩:=hL
  simp only[hpL,upd] at hi hj
  simp only[BA] at e
  by_cases h1:i=q.1<;>by_cases h2:j=q.1
  ·rw[h1,h2]
  ·rw[if_pos h1,if_neg h2] at e; rw[if_neg h2] at hj
   exact absurd (e▸(BD hj).2) hn
  ·rw[if_neg h1,if_pos h2] at e; rw[if_neg h1] at hi
   exact absurd (e▸(BD hi).2) hn
  ·rw[if_neg h1,if_neg h2] at e; rw[if_neg h1] at hi; rw[if_neg h2] at hj
   exact ih hr hi hj e
theorem Wk.objs(L:List (Nat×Nat×Ob)){fr fr':List T}{h:Hp}{nx nx' pn:Nat}(hs:T.eU (fun i=> ¬ JR L i) h (T.eX (BA L) fr) fr')(hf:T.aH (· <nx) fr)(hn:pn<=nx)
  (hL:YP (fun i=> ¬ JR L i) (BA L) h nx pn L):Wk ⟨fr,hpL L,nx,pn⟩ ⟨fr',h,nx',pn⟩:=by
 refine⟨_,.refl _,.inr ⟨fun i=> ¬ JR L i,BA L,⟨hs,fun i ob hi=>?_,fun i j hi hj e=>?_,hf,fun i ob hi=>?_,rfl,hn,fun i hi hs=>?_⟩⟩⟩
 ·obtain⟨h1,h2⟩:=BD hi
  obtain⟨_,_,_,h4,l',h5,h6⟩:=JU hL h1
  exact⟨_,h5,fun hz=>hz h2,rfl,rfl,h6,JQ h4⟩
 ·obtain⟨oi,hi⟩:=Option.isSome_iff_exists.1 hi
  obtain⟨oj,hj⟩:=Option.isSome_iff_exists.1 hj
  exact Xv hL hi hj e
 ·obtain⟨h1,_,h3,_⟩:=JU hL (BD hi).1
  exact⟨h1,h3⟩
 ·obtain⟨ob,hob⟩:=Option.isSome_iff_exists.1 hs
  obtain⟨_,h2,_⟩:=JU hL (BD hob).1
  exact h2 hi
abbrev Str:=List UInt8
structure Xw where
 c:Int
 n:Int
 t:Int
 f:Int
 deriving DecidableEq,Inhabited
structure xU where
 message:Int
 BF:Int
 bound:Xw
 deriving DecidableEq,Inhabited
structure Rule where
 name:Str
 kind:Int
 fr:Int
 to:Int
 ig:Int
 zB:Int
 response:List Int
 guards:List xU
 ex:List Int
 all:List Int
 read:Int
 write:Int
 send:List Int
 pos:Int
 left:List Int
 right:List Int
 parent:List Int
 direction:Int
 deriving DecidableEq,Inhabited
structure aJ where
 name:Str
 topology:Int
 states:List Str
 messages:List Str
 values:List Str
 fault:Int
 bY:List Xw
 initial:List Int
 leader:List Int
 rules:List Rule
 deriving DecidableEq,Inhabited
structure Cnt where
 states:List Int
 least:Int
 deriving DecidableEq,Inhabited
structure Prop' where
 name:Str
 kind:Int
 start:List Int
 bad:List Cnt
 adjacent:List Int
 goal:List Int
 deriving DecidableEq,Inhabited
structure Clause where
 each:List (List Int)
 values:List Int
 some:List Int
 deriving DecidableEq,Inhabited
structure Elem where
 value:Int
 counts:List Int
 deriving DecidableEq,Inhabited
def eS(s:Str):T:=.lit (.string (bs s))
@[reducible] def ints(l:List Int):T:=.sl 0 false (l.map T.int)
@[reducible] def bools(l:List Bool):T:=.sl 0 false (l.map T.bool)
@[reducible] def strs(l:List Str):T:=.sl 0 false (l.map eS)
def OT(x:Xw):T:=.agg [.int x.c,.int x.n,.int x.t,.int x.f]
def MG(x:xU):T:=.agg [.int x.message,.int x.BF,.int x.bound.c,.int x.bound.n,.int x.bound.t,.int x.bound.f]
def IJ(x:Rule):T:=.agg [eS x.name,.int x.kind,.int x.fr,.int x.to,.int x.ig,.int x.zB,ints x.response,.sl 7 false (x.guards.map MG),ints x.ex,ints x.all,.int x.read,.int x.write,ints x.send,.int x.pos,ints x.left,ints x.right,ints x.parent,.int x.direction]
def UC(x:aJ):T:=.agg [eS x.name,.int x.topology,strs x.states,strs x.messages,strs x.values,.int x.fault,.sl 5 false (x.bY.map OT),ints x.initial,ints x.leader,.sl 19 false (x.rules.map IJ)]
def OU(x:Cnt):T:=.agg [ints x.states,.int x.least]
def UD(x:Prop'):T:=.agg [eS x.name,.int x.kind,ints x.start,.sl 3 false (x.bad.map OU),ints x.adjacent,ints x.goal]
def EG(x:Clause):T:=.agg [.sl 0 false (x.each.map ints),ints x.values,ints x.some]
def uj(x:Elem):T:=.agg [.int x.value,ints x.counts]
theorem y5(l:List UInt8):(bs l).toList=l:=by
 rw[ByteArray.toList_eq]; rfl
theorem wY(l:List UInt8):(bs l).size=l.length:=by simp[bs,ByteArray.size]
theorem UE(l:List UInt8)(i:Nat):(bs l).data.getD i 0=l.getD i 0:=by simp[bs,Array.getD_eq_getD_getElem?,List.getD_eq_getElem?_getD]
def forget(w:List Nat)(fr:List T):List T:=w.foldl (fun fr i=>fr.set i .any) fr
def HpG(nx:Nat)(h:Hp):Prop:= ∀ i ob,h i=some ob->i<nx/\T.aH (· <nx) ob.l/\WH ob.k ob.l=true
theorem Xx{nx m:Nat}{h:Hp}{ob:Ob}(H:HpG nx h)(h1:m<nx)(h2:T.aH (· <nx) ob.l)(h3:WH ob.k ob.l=true):HpG nx (upd h m (some ob)):=fun i o hi=>by
 by_cases he:i=m
 ·subst he; simp[upd] at hi; subst hi; exact⟨h1,h2,h3⟩
 ·simp[upd,he] at hi; exact H i o hi
theorem Xy{nx m:Nat}{h:Hp}(H:HpG nx h):HpG nx (upd h m none):=fun i o hi=>by
 by_cases he:i=m
 ·subst he; simp[upd] at hi
 ·simp[upd,he] at hi; exact H i o hi
def HpE(nx:Nat)(h h':Hp):Prop:= ∀ i,i<nx->h' i=h i
theorem Wk.same{fr fr':List T}{h h':Hp}{nx nx' pn:Nat}(hs:T.eU (fun _=>False) h' fr fr')(hf:T.aH (· <nx) fr)(hG:HpG nx h)(hE:HpE nx h h')(hn:pn<=nx):Wk ⟨fr,h,nx,pn⟩ ⟨fr',h',nx',pn⟩:=by
 refine⟨_,.refl _,.inr ⟨fun _=>False,id,⟨?_,fun i ob hi=>?_,fun i j _ _ e=>e,hf,fun i ob hi=>⟨(hG i ob hi).1,(hG i ob hi).2.1⟩,rfl,hn,fun i _ _=>rfl⟩⟩⟩
 ·have:T.eX id fr=fr:=by
   have: ∀ l:List T,T.eX id l=l:=by
    intro l
    induction l with
    |nil=>rfl
    |cons t ts ih=>simp[T.eX,ih,OO]
   exact this fr
  rw[this]; exact hs
 ·obtain⟨h1,h2,h3⟩:=hG i ob hi
  refine⟨ob,by show h' i=some ob; rw[hE i h1]; exact hi,fun h=>h,rfl,rfl,?_,JQ h3⟩
  have:T.eX id ob.l=ob.l:=by
   have: ∀ l:List T,T.eX id l=l:=by
    intro l
    induction l with
    |nil=>rfl
    |cons t ts ih=>simp[T.eX,ih,OO]
   exact this _
  rw[this]; exact gY _
def Ob.ren(ρ:Nat->Nat)(ob:Ob):Ob:=⟨ob.ty,ob.k,T.eX ρ ob.l⟩
mutual
theorem Xz{ρ:Nat->Nat}{M:Nat->Prop}:(t:T)->t.ids (fun i=>M (ρ i))->(t.ren ρ).ids M
 | .lit _,_=>by simp[T.ren,T.ids]
 | .agg l,h=>by simp only[T.ren,T.ids] at h ⊢; exact BG l h
 | .sl _ _ _,_=>by simp[T.ren,T.ids]
 | .ref _ _,_=>by simp[T.ren,T.ids]
 | .own _,h=>by simpa [T.ren,T.ids] using h
 | .ptr _ _ _,h=>by simpa [T.ren,T.ids] using h
 | .lF _ _ _,h=>by simpa [T.ren,T.ids] using h
 | .fn f l,h=>by simp only[T.ren,T.ids] at h ⊢; exact BG l h
 | .iF l,h=>by simp only[T.ren,T.ids] at h ⊢; exact BG l h
 | .any,_=>by simp[T.ren,T.ids]
theorem BG{ρ:Nat->Nat}{M:Nat->Prop}:(l:List T)->T.aH (fun i=>M (ρ i)) l->T.aH M (T.eX ρ l)
 |[],_=>by simp[T.eX,T.aH]
 |t::ts,h=>by simp only[T.eX,T.aH] at h ⊢; exact⟨Xz t h.1,BG ts h.2⟩
end
mutual
theorem Dj{E E0:Env}{ρ:Nat->Nat}{M:Nat->Prop}(hS: ∀ b,E0.S b->E.S b)(hw: ∀ b,E0.S b->E.w.heap[b]? =E0.w.heap[b]?)(hi': ∀ i,M i->(E.h (ρ i)).isSome=true->(E0.h i).isSome=true/\E.φ (ρ i)=E0.φ i/\E.κ (ρ i)=E0.κ i) :
  (t:T)->t.ids M->(vs:List Value)->aF E0 t vs->aF E (t.ren ρ) vs
 | .lit v,_,vs,H=>by simpa [aF,T.ren] using H
 | .agg l,hm,vs,H=>by simp only[aF,T.ren,T.ids] at H hm ⊢; exact Ah hS hw hi' l hm vs H
 | .sl k f l,_,vs,H=>by
  simp only[aF,T.ren] at H ⊢
  obtain⟨a,c,h1,h2,h3,h4⟩:=H
  refine⟨a,c,h1,h2,h3,?_⟩
  rcases h4 with h4|⟨b,off,cur,e,m,ha,hb,hh,hf,hr⟩
  ·exact .inl h4
  ·exact .inr ⟨b,off,cur,e,m,ha,hS b hb,by rw[hw b hb]; exact hh,hf,dG (E:=E0) (E':=E) l k _ ⟨hS,hw,fun _ hf=>hf.elim⟩ hf _ hr⟩
 | .ref k t,_,vs,H=>by
  simp only[aF,T.ren] at H ⊢
  obtain⟨b,off,cur,e,m,h1,hb,hh,hk,hf,hl',hr⟩:=H
  exact⟨b,off,cur,e,m,h1,hS b hb,by rw[hw b hb]; exact hh,hk,hf,hl',fV (E:=E0) (E':=E) t _ ⟨hS,hw,fun _ hf=>hf.elim⟩ hf _ hr⟩
 | .own i,hm,vs,H=>by
  simp only[aF,T.ren,T.ids] at H hm ⊢
  obtain⟨u,h1,h2⟩:=H
  exact⟨u,h1,fun hd=>by obtain⟨g1,g2,_⟩:=hi' i hm hd; rw[g2]; exact h2 g1⟩
 | .ptr i j off,hm,vs,H=>by
  simp only[aF,T.ren,T.ids] at H hm ⊢
  obtain⟨u,h1,h2⟩:=H
  exact⟨u,h1,fun hd=>by obtain⟨g1,g2,g3⟩:=hi' i hm hd; rw[g2,g3]; exact h2 g1⟩
 | .lF i lo hi,hm,vs,H=>by
  simp only[aF,T.ren,T.ids] at H hm ⊢
  obtain⟨u,h1,h2⟩:=H
  exact⟨u,h1,fun hd=>by obtain⟨g1,g2,g3⟩:=hi' i hm hd; rw[g2,g3]; exact h2 g1⟩
 | .fn f cap,hm,vs,H=>by
  simp only[aF,T.ren,T.ids] at H hm ⊢
  obtain⟨cs,h1,h2⟩:=H
  exact⟨cs,h1,Ah hS hw hi' cap hm _ h2⟩
 | .iF l,hm,vs,H=>by
  simp only[aF,T.ren,T.ids] at H hm ⊢
  obtain⟨cs,h1,h2⟩:=H
  exact⟨cs,h1,F8 hS hw hi' l hm _ h2⟩
 | .any,_,vs,H=>by simp[aF,T.ren]
theorem Ah{E E0:Env}{ρ:Nat->Nat}{M:Nat->Prop}(hS: ∀ b,E0.S b->E.S b)(hw: ∀ b,E0.S b->E.w.heap[b]? =E0.w.heap[b]?)(hi': ∀ i,M i->(E.h (ρ i)).isSome=true->(E0.h i).isSome=true/\E.φ (ρ i)=E0.φ i/\E.κ (ρ i)=E0.κ i) :
  (l:List T)->T.aH M l->(vs:List Value)->aS E0 l vs->aS E (T.eX ρ l) vs
 |[],_,vs,H=>by simpa [aS,T.eX] using H
 |t::ts,hm,vs,H=>by
  simp only[aS,T.eX,T.aH] at H hm ⊢
  obtain⟨hk,v,r,h1,h0,h2,h3⟩:=H
  exact⟨by rw[qp]; exact hk,v,r,h1,h0,Dj hS hw hi' t hm.1 _ h2,Ah hS hw hi' ts hm.2 _ h3⟩
theorem F8{E E0:Env}{ρ:Nat->Nat}{M:Nat->Prop}(hS: ∀ b,E0.S b->E.S b)(hw: ∀ b,E0.S b->E.w.heap[b]? =E0.w.heap[b]?)(hi': ∀ i,M i->(E.h (ρ i)).isSome=true->(E0.h i).isSome=true/\E.φ (ρ i)=E0.φ i/\E.κ (ρ i)=E0.κ i) :
  (l:List T)->T.aH M l->(vs:List Value)->bK E0 l vs->bK E (T.eX ρ l) vs
 |[],_,vs,H=>by simpa [bK,T.eX] using H
 |t::ts,hm,vs,H=>by
  simp only[bK,T.eX,T.aH] at H hm ⊢
  obtain⟨v,r,h1,h2,h3⟩:=H
  refine⟨v,r,h1,?_,F8 hS hw hi' ts hm.2 _ h3⟩
  rcases h2 with ⟨hk,cs,h4,h5⟩|⟨hk,h4⟩
  ·exact .inl ⟨by rw[qp]; exact hk,cs,h4,Dj hS hw hi' t hm.1 _ h5⟩
  ·exact .inr ⟨by rw[qp]; exact hk,Dj hS hw hi' t hm.1 _ h4⟩
end
section
variable {P:Program}
mutual
theorem RN{ρ σ:Nat->Nat}{M:Nat->Prop}(h: ∀ i,M i->ρ i=σ i):(t:T)->t.ids M->t.ren ρ=t.ren σ
 | .lit _,_=>rfl
 | .agg l,hm=>by simp only[T.ren,T.ids] at hm ⊢; rw[wZ h l hm]
 | .sl _ _ _,_=>rfl
 | .ref _ _,_=>rfl
 | .own i,hm=>by simp only[T.ren,T.ids] at hm ⊢; rw[h i hm]
 | .ptr i _ _,hm=>by simp only[T.ren,T.ids] at hm ⊢; rw[h i hm]
 | .lF i _ _,hm=>by simp only[T.ren,T.ids] at hm ⊢; rw[h i hm]
 | .fn f l,hm=>by simp only[T.ren,T.ids] at hm ⊢; rw[wZ h l hm]
 | .iF l,hm=>by simp only[T.ren,T.ids] at hm ⊢; rw[wZ h l hm]
 | .any,_=>rfl
theorem wZ{ρ σ:Nat->Nat}{M:Nat->Prop}(h: ∀ i,M i->ρ i=σ i):(l:List T)->T.aH M l->T.eX ρ l=T.eX σ l
 |[],_=>rfl
 |t::ts,hm=>by simp only[T.eX,T.aH] at hm ⊢; rw[RN h t hm.1,wZ h ts hm.2]
end
end
end Go.Ab
