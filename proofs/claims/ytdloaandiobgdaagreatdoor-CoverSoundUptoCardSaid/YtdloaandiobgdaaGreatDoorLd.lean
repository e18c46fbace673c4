/-
 The abstract layer, part 18: rules by which `aw` is worked out.
-/
import Derived.Laws.Strings
import Derived.Test.YtdloaandiobgdaaGreatDoorLc
namespace Go.Ab
section
variable {P:Program} {dr:Bool} {n m:Nat} {d:Option Nat} {K:AS->Prop} {s:AS} {fr:List T} {h:Hp} {nx pn:Nat} {Q:qL->AS->Prop}
theorem anG{a b:aC}:aw P (.seq a b) Q ⟨fr,h,nx,pn⟩=aw P a (fun e s'=>match e with| .normal=>aw P b Q s'|e=>Q e s') ⟨fr,h,nx,pn⟩:=rfl
section
variable {a b:Int} {x y:ByteArray}
end
def exC(x:T)(i:Nat):Prop:=match x with| .dD l=>Nat.blt i l.length=true|_=>False
end
section
variable {P:Program}
theorem V9{g:Option (Nat×Bool)}{s:AS}{y y' n n':AS->Prop}(hy: ∀ s,y s->y' s)(hn: ∀ s,n s->n' s)(h:KQ g s y n):KQ g s y' n':=by
 unfold KQ at h ⊢;split at h
 ·exact hy _ h
 ·rename_i d want;split at h
  ·exact⟨fun e=>hy _ (h.1 e),fun e=>hn _ (h.2 e)⟩
  ·exact hn _ h
  ·exact h.elim
theorem Wh{dr:Bool}{n:Nat}{d:Option Nat}{op:o8}{K K':AS->Prop}{s:AS}(hK: ∀ s',K s'->K' s')(h:opW P dr n d op K s):opW P dr n d op K' s:=by
 cases op<;>try (exact h.elim)
 case call =>
  obtain⟨h1,k,h2⟩:=h;exact⟨h1,k,h2.mono fun t h' hh=>hK _ hh⟩
 case oP =>
  obtain⟨h1,h2⟩:=h;refine⟨h1,?_⟩;split at h2
  ·exact⟨h2.1,h2.2.mono fun t h' hh=>hK _ hh⟩
  ·exact h2.elim
theorem YL{dr:Bool}{m:Nat}{K K':AS->Prop}(hK: ∀ s,K s->K' s): ∀ {l:List aT} {i:Nat} {s:AS},wR P dr m K l i s->wR P dr m K' l i s:=by
 intro l;induction l with
 |nil=>intro i s h; exact hK _ h
 |cons o r ih =>
  intro i s h;simp only[wR] at h ⊢;exact V9 (fun s h=>⟨h.1,h.2.imp (fun h=>h.imp (fun h=>⟨h.1,mP (fun s' _ _ hh=>⟨hh.1,ih hh.2⟩) h.2⟩) fun h=>⟨h.1,h.2.1,OT (fun s' _ _ hh=>ih hh) h.2.2⟩) (Wh fun s' hh=>ih hh)⟩) (fun s h=>ih h) h
theorem kH: ∀ {c:aC} {Q Q':qL->AS->Prop} {s:AS},(∀ e s,Q e s->Q' e s)->aw P c Q s->aw P c Q' s:=by
 intro c;induction c with
 |skip=>intro Q Q' s hQ h; exact hQ _ _ h
 |reg dr ops=>intro Q Q' s hQ h; exact YL (hQ _) h
 |seq a b iha ihb =>
  intro Q Q' s hQ h;refine iha (fun e s h=>?_) h;cases e with
  |normal=>exact ihb hQ h
  |exit _=>exact hQ _ _ h
  |ret=>exact hQ _ _ h
 |cond c a b iha ihb =>
  intro Q Q' s hQ h;simp only[aw] at h ⊢;split at h
  ·exact⟨fun e=>iha hQ (h.1 e),fun e=>ihb hQ (h.2 e)⟩
  ·exact h.elim
 |blk id b ih =>
  intro Q Q' s hQ h;refine ih (fun e s h=>?_) h;cases e with
  |normal=>exact hQ _ _ h
  |exit j =>
   simp only at h ⊢;cases hj:j==id<;>simp only[hj,bE,ap] at h ⊢ <;>exact hQ _ _ h
  |ret=>exact hQ _ _ h
 |exit _=>intro Q Q' s hQ h; exact hQ _ _ h
 |ret=>intro Q Q' s hQ h; exact hQ _ _ h
 |loop b ih =>
  intro Q Q' s hQ h;obtain⟨I,μ,h1,h2⟩:=h;refine⟨I,μ,h1,fun s hs=>ih (fun e s h=>?_) (h2 s hs)⟩;cases e with
  |normal=>exact h
  |exit _=>exact hQ _ _ h
  |ret=>exact hQ _ _ h
end
def Again{ι:Type}(st:ι->AS)(inv:ι->Prop)(μ:ι->Nat)(i:ι)(s:AS):Prop:= ∃ j,(inv j/\μ j<μ i)/\Wk (st j) s
theorem least{A:Nat->Prop}(h: ∃ n,A n): ∃ n,A n/\ ∀ k,A k->n<=k:=by
 obtain⟨n,hn⟩:=h;induction n using Nat.strongRecOn with
 |_ n ih =>
  by_cases hx: ∃ k,k<n/\A k
  ·obtain⟨k,h1,h2⟩:=hx; exact ih k h1 h2
  ·exact⟨n,hn,fun k hk=>Nat.le_of_not_lt fun hlt=>hx ⟨k,hlt,hk⟩⟩
theorem Cb.rule{P:Program}{b:aC}{Q:qL->AS->Prop}{s:AS}{ι:Type}(st:ι->AS)(inv:ι->Prop)(μ:ι->Nat)(i:ι)(hi:inv i)(hw:Wk (st i) s)
  (round: ∀ i,inv i->aw P b (fun e s'=>match e with| .normal=>Again st inv μ i s'|e=>Q e s') (st i)):Cb (aw P b) Q s:=by
 classical
 let A (s:AS) (n:Nat):Prop:= ∃ i,inv i/\st i=s/\μ i=n
 let m (s:AS):Nat:=if h: ∃ n,A s n then(least h).choose else 0
 have hm: ∀ s,(∃ n,A s n)->A s (m s)/\ ∀ k,A s k->m s<=k:=by
  intro s hex
  have:m s=(least hex).choose:=dif_pos hex
  rw[this]; exact(least hex).choose_spec
 have hle: ∀ i,inv i->m (st i)<=μ i:=fun i hi=>(hm (st i) ⟨μ i,i,hi,rfl,rfl⟩).2 _ ⟨i,hi,rfl,rfl⟩
 refine⟨fun s=> ∃ i,inv i/\st i=s,m,⟨st i,hw,i,hi,rfl⟩,?_⟩;rintro s hs;have hex: ∃ n,A s n:=by obtain⟨i,h1,h2⟩:=hs; exact⟨μ i,i,h1,h2,rfl⟩
 obtain⟨i,h1,h2,h3⟩:=(hm s hex).1;subst h2;refine kH (fun e s' h=>?_) (round i h1);cases e with
 |normal =>
  obtain⟨j,⟨g1,g2⟩,g3⟩:=h;refine⟨st j,g3,⟨j,g1,rfl⟩,?_⟩;have:=hle j g1;omega
 |exit _=>exact h
 |ret=>exact h
section
variable {P:Program}
def no:Hp:=fun _=>none
mutual
def T.hard:T->Bool
 | .sl _ _ l=>l.isEmpty
 | .ref _ _=>false
 | .agg l=>T.zW l
 | .fn f cap=>Nat.blt f 8192&&T.zW cap
 | .dD l=>T.zW l
 |_=>true
def T.zW:List T->Bool
 |[]=>true
 |t::ts=>T.hard t&&T.zW ts
end
structure BU(P:Program)(f:FuncId)(ts:List T)(t:Nat->T)(o:Option Ob):Prop where
 free:T.bn ts=true
 ids: ∀ n,(t n).ids (fun i=>i=n)
 ob: ∀ ob,o=some ob->T.bn ob.l=true
 nm: ∀ ob,o=some ob->ob.k≠gK
 call: ∀ n,aP P f ts no n fun t' h'=>t'=t n/\h'=jM no n o
@[reducible] def zC(P:Program)(f:FuncId)(ts:List T)(t:T):Prop:=BU P f ts (fun _=>t) none
def anH(t:Nat->T)(ob:Ob)(rs:List RV)(s:AS):Prop :=
 ∃ s1,IJ s1 s/\GX s1 rs/\ ∃ m l',T.sub (fun i=>i≠m) s1.hp (t m) (resT s1 rs)/\s1.hp m=some ⟨ob.ty,ob.k,l'⟩/\T.dY (fun i=>i≠m) s1.hp ob.l l'
def ajs(t:Nat->T)(o:Option Ob)(rs:List RV):qL->AS->Prop
 | .exit _,_=>False
 |_,s=>match o with
  |none=>GX s rs/\T.sub (fun _=>True) s.hp (t 0) (resT s rs)
  |some ob=>anH t ob rs s
theorem YM: ∀ t:T,t.ren id=t:=by
 intro t;apply T.rec (motive_1:=fun t=>t.ren id=t) (motive_2:=fun l=>T.dF id l=l);all_goals (intros; simp_all[T.ren,T.dF])
mutual
theorem O7{ρ:Nat->Nat}:(t:T)->t.ids (fun _=>False)->t.ren ρ=t
 | .lit _,_=>rfl
 | .agg l,h=>by simp only[T.ren,T.ids] at h ⊢; rw[xI l h]
 | .sl _ _ _,_=>rfl
 | .ref _ _,_=>rfl
 | .own _,h=>by simp[T.ids] at h
 | .ptr _ _ _,h=>by simp[T.ids] at h
 | .rG _ _ _,h=>by simp[T.ids] at h
 | .fn f l,h=>by simp only[T.ren,T.ids] at h ⊢; rw[xI l h]
 | .dD l,h=>by simp only[T.ren,T.ids] at h ⊢; rw[xI l h]
 | .any,_=>rfl
theorem xI{ρ:Nat->Nat}:(l:List T)->T.aO (fun _=>False) l->T.dF ρ l=l
 |[],_=>rfl
 |t::ts,h=>by simp only[T.dF,T.aO] at h ⊢; rw[O7 t h.1,xI ts h.2]
end
theorem BA(M:Nat->Prop):pq M no:=fun _ _ h=>by cases h
theorem pG{h:Hp}{n:Nat}{o:Option Ob}{i:Nat}{ob:Ob}(H:jM h n o i=some ob):(i=n/\o=some ob)\/h i=some ob:=by
 cases o with
 |none=>exact .inr H
 |some o' =>
  simp only[jM,upd] at H;split at H
  ·exact .inl ⟨by assumption,H⟩
  ·exact .inr H
theorem BU.yN{f:FuncId}{fn:Func}{c:Code}{ac:aC}{rs:List RV}{ts:List T}{nt:Nat}{t:Nat->T}{o:Option Ob}(hf:P.funcs[f]? =some fn)(hb:fn.body=some c)(hc:comp P c=some ac)
  (hr:nO P fn.results.toList=some rs) (hcl:callable P f) (hnt:fn.ntmps=nt) (hts:T.bn ts=true) (ht: ∀ n m,(t n).ren (fun _=>m)=t m) (hid: ∀ n,(t n).ids (fun i=>i=n/\o.isSome=true))
  (ho: ∀ ob,o=some ob->T.bn ob.l=true/\ob.k≠gK/\ ∀ t∈ob.l,t.kd=ob.k)
  (H:aw P ac (ajs t o rs) ⟨ts++List.replicate (nt-ts.length) T.un,no,0,0⟩):BU P f ts t o:=by
 refine⟨hts,fun n=>T.aW (fun _ h=>h.1) _ (hid n),fun ob h=>(ho ob h).1,fun ob h=>(ho ob h).2.1,fun n=>?_⟩;refine aP.yN (nx:=0) (nt:=nt) hf hb hc hr hcl hnt ⟨_,_,rfl,rfl⟩ (T.aA (fun _ h=>h.elim) _ (dh hts)) (BA _) ?_;have key: ∀ s,ajs t o rs .ret s-> ∃ s1,IJ s1 s/\Ret no n (fun t' h'=>t'=t n/\h'=jM no n o) rs s1:=by
  intro s H;cases o with
  |none =>
   obtain⟨h1,h2⟩:=H;refine⟨s,.refl _,h1,fun _=>True,fun _=>0,t n,no,⟨rfl,rfl⟩,by rw[ht]; exact h2,(fun i ob hi=>by cases hi),(fun i j hi=>by cases hi),T.aW (fun _ h=>absurd h.2 (by simp)) _ (hid n),BA _,(fun i hi=>by cases hi)⟩
  |some ob =>
   obtain⟨s1,hN,h1,m,l',h3,h4,h5⟩:=H;have hob:=ho ob rfl;have hx: ∀ i ob',jM no n (some ob) i=some ob'->i=n/\ob'=ob:=fun i ob' hi=>by
    rcases pG hi with ⟨h1,h2⟩|h
    ·cases h2; exact⟨h1,rfl⟩
    ·cases h
   refine⟨s1,hN,h1,fun i=>i≠m,fun _=>m,t n,jM no n (some ob),⟨rfl,rfl⟩,by rw[ht]; exact h3,fun i ob' hi=>?_,fun i j hi hj _=>?_,T.aW (fun _ h=>.inr h.1) _ (hid n),fun i ob' hi=>?_,fun i hi=>by cases hi⟩
   ·obtain⟨rfl,rfl⟩:=hx i ob' hi;refine⟨_,h4,by simp,rfl,rfl,?_,.inr hob.2⟩;rw[xI _ (dh hob.1)]; exact h5
   ·obtain⟨oi,hi⟩:=am.1 hi;obtain⟨oj,hj⟩:=am.1 hj;rw[(hx _ _ hi).1,(hx _ _ hj).1]
   ·obtain⟨rfl,rfl⟩:=hx i ob' hi;exact⟨.inr rfl,T.aA (fun _ h=>h.elim) _ (dh hob.1)⟩
 refine kH (fun e s h=>?_) H;cases e with
 |normal=>exact key s h
 |ret=>exact key s h
 |exit _=>exact h.elim
theorem aP.sub{f:FuncId}{ts ts':List T}{h:Hp}{n:Nat}{post:T->Hp->Prop}(H:aP P f ts h n post)(hs:T.dY (fun _=>False) h ts ts')(hi: ∀ M,T.aO M ts'->T.aO M ts):aP P f ts' h n post:=by
 obtain⟨h1,h2,h3⟩:=H;refine⟨h1,h2,fun F M E vs hk he hr hid hm hn=>h3 F M E vs hk he ?_ (hi M hid) hm hn⟩;subst he;have:=sO hk (Z:=fun _=>False) _ _ hs _ hr;refine jd (E:=E.shut fun _=>False) (E':=E) _ (fun _=>True) ⟨fun b hb=>?_,fun _ _=>rfl,fun i _ hi=>⟨?_,rfl,rfl⟩,rfl⟩ (xu _) _ this
 ·rcases hb with hb|⟨_,_,hf,_⟩
  ·exact hb
  ·exact hf.elim
 ·rw[yM (fun h=>h)]; exact hi
theorem BU.frame{f:FuncId}{ts:List T}{t:Nat->T}{o:Option Ob}(H:BU P f ts t o)(h:Hp)(n:Nat):aP P f ts h n fun t' h'=>t'=t n/\h'=jM h n o:=by
 obtain⟨_,hcl,hcall⟩:=H.call n;refine⟨⟨_,_,rfl,rfl⟩,hcl,fun F M E vs hk he hts hid hm hn=>?_⟩;subst he;have hfresh:E.h n=none:=by
  cases hq:E.h n with
  |none=>rfl
  |some ob=>exact absurd (hm n ob hq).1 hn
 let E0:Env:= {E with h:=no}
 let F0:Fr P:= {s:=fun g=>F g\/ ∃ i ob,E.h i=some ob/\rowB (E.φ i)=some g}
 have hk0:qY F0 E0:=by
  refine⟨(fun i ob hi=>by cases hi),(fun i ob g hi=>by cases hi),(fun i j oi oj g _ hi=>by cases hi),hk.slt,fun g hg=>?_,fun g hs hg=>?_,⟨fun g cs hg=>⟨.inl (hk.gl.1 g cs hg).1,(hk.gl.1 g cs hg).2⟩,hk.gl.2.of (fun _ h=>.inl h) (fun _ _=>rfl) rfl⟩⟩
  ·rcases hg with hg|⟨i,ob,h1,h3⟩
   ·exact hk.flt g hg
   ·exact(hk.obs i ob h1).1.lt h3
  ·rcases hg with hg|⟨i,ob,h1,h3⟩
   ·exact hk.sf g hs hg
   ·exact(hk.out i ob g h1 h3).1 hs
 refine(hcall F0 M E0 vs hk0 rfl (jd (E:=E) (E':=E0) _ (fun _=>False) ⟨fun _ h=>h,fun _ _=>rfl,fun _ hf=>hf.elim,rfl⟩ (dh H.free) _ hts) hid (BA _) hn).mono ?_;rintro e w' ⟨v,t',E0',rfl,rfl,⟨rfl,hh⟩,hv,hk0',hext,_,_,_⟩
 let E':Env:= {E0' with h:=jM E.h n o,φ:=fun i=>if i=n then E0'.φ i else E.φ i,κ:=fun i=>if i=n then E0'.κ i else E.κ i}
 have xq:E'.φ n=E0'.φ n/\E'.κ n=E0'.κ n:=⟨bc rfl,bc rfl⟩
 have hφ: ∀ i,i≠n->E'.φ i=E.φ i/\E'.κ i=E.κ i:=fun i hi=>⟨bB hi,bB hi⟩
 have H9:Ext F E E':=⟨hext.s,fun g hg=>hext.w g (hg.imp id .inl),hext.size,hext.os,hext.tape,hext.output,hext.dr,hext.y⟩
 have hcase: ∀ i ob,E'.h i=some ob->(i=n/\E0'.h i=some ob)\/(i≠n/\E.h i=some ob):=by
  intro i ob hi;by_cases hin:i=n
  ·subst hin;rcases pG hi with ⟨_,h2⟩|h2
   ·left; refine⟨rfl,?_⟩; rw[hh,h2]; simp[jM,upd]
   ·rw[hfresh] at h2; cases h2
  ·rcases pG hi with ⟨h1,_⟩|h2
   ·exact absurd h1 hin
   ·exact .inr ⟨hin,h2⟩
 have ER:Same E E' M:=by
  intro i hi hs;obtain⟨ob,hob⟩:=am.1 hs;rcases hcase i ob hob with ⟨rfl,_⟩|⟨h1,h2⟩
  ·exact absurd hi hn
  ·exact⟨by rw[h2]; rfl,hφ i h1⟩
 have hKn:Keeps E0' E' (fun i=>i=n):=by
  refine⟨fun _ h=>h,fun _ _=>rfl,?_,rfl⟩;rintro i rfl hs;obtain⟨ob,hob⟩:=am.1 hs;rcases hcase i ob hob with ⟨_,h2⟩|⟨h1,_⟩
  ·exact⟨by rw[h2]; rfl,xq⟩
  ·exact absurd rfl h1
 have ZU: ∀ i ob g,E.h i=some ob->rowB (E.φ i)=some g->F0 g:=fun i ob g h1 h2=>.inr ⟨i,ob,h1,h2⟩
 have aen: ∀ ob,E0'.h n=some ob->o=some ob:=fun ob h1=>by
  rw[hh] at h1;rcases pG h1 with ⟨_,h2⟩|h2
  ·exact h2
  ·cases h2
 refine⟨v,t n,E',rfl,rfl,⟨rfl,rfl⟩,KN hKn (H.ids n) hv,⟨fun i ob hi=>?_,fun i ob g hi hg=>?_,fun i j oi oj g hij hi hj hgi hgj=>?_,hk0'.slt,fun g hg=>hk0'.flt g (.inl hg),fun g hs hg=>hk0'.sf g hs (.inl hg),H9.gl hk⟩,H9,ER,
  T.aW (fun _ h=>.inr h) _ (H.ids n),fun i ob hi=>?_⟩
 ·rcases hcase i ob hi with ⟨rfl,h1⟩|⟨h0,h1⟩
  ·rw[xq.1,xq.2];obtain⟨k1,k2,k3⟩:=hk0'.obs i ob h1;exact⟨k1.keep hKn.no (dh (H.ob ob (aen ob h1))) (fun _ _=>rfl),k2,k3⟩
  ·rw[(hφ i h0).1,(hφ i h0).2];obtain⟨k1,k2,k3⟩:=hk.obs i ob h1;exact⟨k1.keep (.of H9 ER) (hm i ob h1).2 (fun g hg=>hext.w g (.inr (ZU i ob g h1 hg))),k2,k3⟩
 ·rcases hcase i ob hi with ⟨rfl,h1⟩|⟨h0,h1⟩
  ·rw[xq.1] at hg;obtain⟨k1,k2⟩:=hk0'.out i ob g h1 hg;exact⟨k1,fun h=>k2 (.inl h)⟩
  ·rw[(hφ i h0).1] at hg;exact⟨fun hs=>hk0'.sf g hs (ZU i ob g h1 hg),(hk.out i ob g h1 hg).2⟩
 ·rcases hcase i oi hi with ⟨rfl,h1⟩|⟨h0,h1⟩<;>rcases hcase j oj hj with ⟨h2,h3⟩|⟨h2,h3⟩
  ·exact hij h2.symm
  ·rw[xq.1] at hgi; rw[(hφ j h2).1] at hgj;exact(hk0'.out i oi g h1 hgi).2 (ZU j oj g h3 hgj)
  ·subst h2; rw[(hφ i h0).1] at hgi; rw[xq.1] at hgj;exact(hk0'.out j oj g h3 hgj).2 (ZU i oi g h1 hgi)
  ·rw[(hφ i h0).1] at hgi; rw[(hφ j h2).1] at hgj;exact hk.sep i j oi oj g hij h1 h3 hgi hgj
 ·rcases pG hi with ⟨h1,h2⟩|h1
  ·exact⟨.inr h1,T.aA (fun _ h=>h.elim) _ (dh (H.ob ob h2))⟩
  ·exact⟨.inl (hm i ob h1).1,T.aA (fun _ h=>.inl h) _ (hm i ob h1).2⟩
theorem BU.use{f:FuncId}{ts ts':List T}{t:Nat->T}{o:Option Ob}(H:BU P f ts t o){h:Hp}{n:Nat}{K:T->Hp->Prop}(hs:T.dY (fun _=>False) h ts ts')(hK:K (t n) (jM h n o)):aP P f ts' h n K :=
 ((H.frame h n).sub hs fun _ _=>T.aA (fun _ h=>h.elim) _ (dh H.free)).mono fun _ _ ⟨h1,h2⟩=>h1▸h2▸hK
theorem BU.shut{f:FuncId}{ts:List T}{t:Nat->T}{o:Option Ob}(H:BU P f ts t o){t':T}(hs: ∀ n,T.sub (fun _=>True) (jM no n o) t' (t n))(ht:t'.free=true):zC P f ts t':=by
 refine⟨H.free,fun n=>T.aW (fun _ h=>h.elim) _ (eY ht),(fun ob h=>by cases h),(fun ob h=>by cases h),fun n=>?_⟩;obtain⟨_,hcl,hcall⟩:=H.call n;refine⟨⟨_,_,rfl,rfl⟩,hcl,fun F M E vs hk he hts hid hm hn=>(hcall F M E vs hk he hts hid hm hn).mono ?_⟩;rintro e w' ⟨v,t'',E',rfl,rfl,⟨rfl,hh⟩,hv,hk',hext,hS,_,_⟩;have hno:(E'.shut fun _=>True).h=no:=by
  funext i; simp[Env.shut,no]
 refine⟨v,t',E'.shut fun _=>True,rfl,rfl,⟨rfl,hno⟩,O1 hk' (by rw[hh]; exact hs n) hv,hk'.shut _,hext.trans (V4 _ _ _),fun i _ hi=>?_,T.aW (fun _ h=>h.elim) _ (eY ht),?_⟩
 ·rw[hno] at hi; cases hi
 ·rw[hno]; exact BA _
mutual
theorem y7{E E':Env}(hφ: ∀ i,(E'.h i).isSome=true->(E.h i).isSome=true/\E'.φ i=E.φ i/\E'.κ i=E.κ i):(t:T)->t.hard=true->(vs:List Value)->aN E t vs->aN E' t vs
 | .lit v,_,vs,h=>by simpa [aN] using h
 | .agg l,hd,vs,h=>by simp only[aN,T.hard] at h hd ⊢; exact Ie hφ l hd vs h
 | .sl k f l,hd,vs,h=>by
  simp only[T.hard,List.isEmpty_iff] at hd; subst hd;simp only[aN] at h ⊢;obtain⟨a,c,h1,h2,h3,_⟩:=h;exact⟨a,c,h1,h2,h3,.inl trivial⟩
 | .ref _ _,hd,_,_=>by simp[T.hard] at hd
 | .own i,_,vs,h=>by
  simp only[aN] at h ⊢;obtain⟨u,h1,h2⟩:=h;refine⟨u,h1,fun hs=>?_⟩;obtain⟨g1,g2,_⟩:=hφ i hs;rw[g2]; exact h2 g1
 | .ptr i j off,_,vs,h=>by
  simp only[aN] at h ⊢;obtain⟨u,h1,h2⟩:=h;refine⟨u,h1,fun hs=>?_⟩;obtain⟨g1,g2,g3⟩:=hφ i hs;rw[g2,g3]; exact h2 g1
 | .rG i lo hi,_,vs,h=>by
  simp only[aN] at h ⊢;obtain⟨u,h1,h2⟩:=h;refine⟨u,h1,fun hs=>?_⟩;obtain⟨g1,g2,g3⟩:=hφ i hs;rw[g2,g3]; exact h2 g1
 | .fn f cap,hd,vs,h=>by
  simp only[aN,T.hard] at h hd ⊢;rw[aD] at hd;rcases h with ⟨h0,cs,h1,h2⟩|⟨h0,_⟩
  ·exact .inl ⟨h0,cs,h1,Ie hφ cap hd.2 _ h2⟩
  ·rw[hd.1] at h0; cases h0
 | .dD l,hd,vs,h=>by
  simp only[aN,T.hard] at h hd ⊢;obtain⟨cs,h1,h2⟩:=h;exact⟨cs,h1,O8 hφ l hd _ h2⟩
 | .any,_,_,_=>by simp[aN]
theorem Ie{E E':Env}(hφ: ∀ i,(E'.h i).isSome=true->(E.h i).isSome=true/\E'.φ i=E.φ i/\E'.κ i=E.κ i):(l:List T)->T.zW l=true->(vs:List Value)->aX E l vs->aX E' l vs
 |[],_,vs,h=>by simpa [aX] using h
 |t::ts,hd,vs,h=>by
  simp only[aX,T.zW,aD] at h hd ⊢;obtain⟨hk,v,r,h1,h0,h2,h3⟩:=h;exact⟨hk,v,r,h1,h0,y7 hφ t hd.1 _ h2,Ie hφ ts hd.2 _ h3⟩
theorem O8{E E':Env}(hφ: ∀ i,(E'.h i).isSome=true->(E.h i).isSome=true/\E'.φ i=E.φ i/\E'.κ i=E.κ i):(l:List T)->T.zW l=true->(vs:List Value)->bg E l vs->bg E' l vs
 |[],_,vs,h=>by simpa [bg] using h
 |t::ts,hd,vs,h=>by
  simp only[bg,T.zW,aD] at h hd ⊢;obtain⟨v,r,h1,h2,h3⟩:=h;refine⟨v,r,h1,?_,O8 hφ ts hd.2 _ h3⟩;rcases h2 with ⟨hk,cs,h4,h5⟩|⟨hk,h4⟩
  ·exact .inl ⟨hk,cs,h4,y7 hφ t hd.1 _ h5⟩
  ·exact .inr ⟨hk,y7 hφ t hd.1 _ h4⟩
end
theorem abS{E E':Env}(hφ: ∀ i,(E'.h i).isSome=true->(E.h i).isSome=true/\E'.φ i=E.φ i/\E'.κ i=E.κ i){t:T}(hd:t.hard=true){v:Value}(h:lZ E t v):lZ E' t v:=by
 rcases h with ⟨hk,cs,h4,h5⟩|⟨hk,h4⟩
 ·exact .inl ⟨hk,cs,h4,y7 hφ t hd _ h5⟩
 ·exact .inr ⟨hk,y7 hφ t hd _ h4⟩
theorem Uf{E E':Env}(hφ: ∀ i,(E'.h i).isSome=true->(E.h i).isSome=true/\E'.φ i=E.φ i/\E'.κ i=E.κ i){k:Nat}: ∀ {l:List T},T.zW l=true-> ∀ {vs:List Value},aJ E k l vs->aJ E' k l vs:=by
 intro l;induction l with
 |nil=>intro _ vs _; simp[aJ]
 |cons t ts ih =>
  intro hd vs h;simp only[aJ,T.zW,aD] at h hd ⊢;obtain⟨h1,h2,h3,h4,h5⟩:=h;exact⟨h1,h2,h3,y7 hφ t hd.1 _ h4,ih hd.2 h5⟩
theorem BU.lend{f:FuncId}{ts ts':List T}{t:Nat->T}{o:Option Ob}(H:BU P f ts t o){h:Hp}{n:Nat}{K:T->Hp->Prop}(hs:T.dY (fun _=>True) h ts ts')(hd:(t n).hard=true)(ho: ∀ ob,o=some ob->T.zW ob.l=true)(hK:K (t n) (jM h n o)) :
  aP P f ts' h n K:=by
 refine aP.mono (post:=fun t' h'=>t'=t n/\h'=jM h n o) ?_ fun _ _ ⟨h1,h2⟩=>h1▸h2▸hK
 obtain⟨_,hcl,hcall⟩:=H.call n;refine⟨⟨_,_,rfl,rfl⟩,hcl,fun F M E vs hk he hts hid hm hn=>?_⟩;subst he;have hfresh:E.h n=none:=by
  cases hq:E.h n with
  |none=>rfl
  |some ob=>exact absurd (hm n ob hq).1 hn
 let E0:Env:=E.shut fun _=>True
 have hno:E0.h=no:=by funext i; simp[E0,Env.shut,no]
 refine(hcall F M E0 vs (hk.shut _) hno (sO hk _ _ hs _ hts) (T.aA (fun _ h=>h.elim) _ (dh H.free)) (BA _) hn).mono ?_;rintro e w' ⟨v,t',E0',rfl,rfl,⟨rfl,hh⟩,hv,hk0',hext,_,_,_⟩
 let E':Env:= {E0' with S:=E.S,h:=jM E.h n o,φ:=fun i=>if i=n then E0'.φ i else E.φ i,κ:=fun i=>if i=n then E0'.κ i else E.κ i}
 have xq:E'.φ n=E0'.φ n/\E'.κ n=E0'.κ n:=⟨bc rfl,bc rfl⟩
 have hφ: ∀ i,i≠n->E'.φ i=E.φ i/\E'.κ i=E.κ i:=fun i hi=>⟨bB hi,bB hi⟩
 have hSw: ∀ g,E.S g->E0.S g:=fun g h=>.inl h
 have hOw: ∀ i ob g,E.h i=some ob->rowB (E.φ i)=some g->E0.S g:=fun i ob g h1 h2=>.inr ⟨i,ob,trivial,h1,h2⟩
 have H9:Ext F E E':=⟨fun _ h=>h,fun g hg=>hext.w g (hg.imp (hSw g) id),hext.size,hext.os,hext.tape,hext.output,hext.dr,hext.y⟩
 have hcase: ∀ i ob,E'.h i=some ob->(i=n/\E0'.h i=some ob)\/(i≠n/\E.h i=some ob):=by
  intro i ob hi;by_cases hin:i=n
  ·subst hin;rcases pG hi with ⟨_,h2⟩|h2
   ·left; refine⟨rfl,?_⟩; rw[hh,h2]; simp[jM,upd]
   ·rw[hfresh] at h2; cases h2
  ·rcases pG hi with ⟨h1,_⟩|h2
   ·exact absurd h1 hin
   ·exact .inr ⟨hin,h2⟩
 have ER:Same E E' M:=by
  intro i hi hs;obtain⟨ob,hob⟩:=am.1 hs;rcases hcase i ob hob with ⟨rfl,_⟩|⟨h1,h2⟩
  ·exact absurd hi hn
  ·exact⟨by rw[h2]; rfl,hφ i h1⟩
 have aen: ∀ ob,E0'.h n=some ob->o=some ob:=fun ob h1=>by
  rw[hh] at h1;rcases pG h1 with ⟨_,h2⟩|h2
  ·exact h2
  ·cases h2
 let E2:Env:= {E' with h:=jM no n o}
 have h02: ∀ i,(E2.h i).isSome=true->(E0'.h i).isSome=true/\E2.φ i=E0'.φ i/\E2.κ i=E0'.κ i:=by
  intro i hi;obtain⟨ob,hob⟩:=am.1 hi;rcases pG hob with ⟨rfl,h2⟩|h2
  ·exact⟨by rw[hh]; exact hi,xq⟩
  ·cases h2
 have hK2:Keeps E2 E' (fun i=>i=n):=by
  refine⟨fun _ h=>h,fun _ _=>rfl,?_,rfl⟩;rintro i rfl hi;obtain⟨ob,hob⟩:=am.1 hi;refine⟨?_,rfl,rfl⟩;rcases pG hob with ⟨_,h2⟩|h2
  ·show(jM no i o i).isSome=true;rw[h2]; simp[jM,upd]
  ·rw[hfresh] at h2; cases h2
 refine⟨v,t n,E',rfl,rfl,⟨rfl,rfl⟩,KN hK2 (H.ids n) (abS h02 hd hv),⟨fun i ob hi=>?_,fun i ob g hi hg=>?_,fun i j oi oj g hij hi hj hgi hgj=>?_,fun g hg=>cU (hk.slt g hg) hext.size,hk0'.flt,hk.sf,H9.gl hk⟩,H9,ER,
  T.aW (fun _ h=>.inr h) _ (H.ids n),fun i ob hi=>?_⟩
 ·rcases hcase i ob hi with ⟨rfl,h1⟩|⟨h0,h1⟩
  ·rw[xq.1,xq.2];obtain⟨k1,k2,k3⟩:=hk0'.obs i ob h1;refine⟨?_,k2,k3⟩;have hnm:=H.nm ob (aen ob h1);rcases k1.row hnm with k1|⟨g,c,cur,q1,q2,q3,q4,q5,q6⟩
   ·exact .inl ⟨hnm,.inl k1⟩
   ·refine .inl ⟨hnm,.inr ⟨g,c,cur,q1,q2,q3,q4,q5,?_⟩⟩;exact eX _ _ _ hK2.no (dh (H.ob ob (aen ob h1))) _ (Uf h02 (ho ob (aen ob h1)) q6)
  ·rw[(hφ i h0).1,(hφ i h0).2];obtain⟨k1,k2,k3⟩:=hk.obs i ob h1;exact⟨k1.keep (.of H9 ER) (hm i ob h1).2 (fun g hg=>hext.w g (.inl (hOw i ob g h1 hg))),k2,k3⟩
 ·rcases hcase i ob hi with ⟨rfl,h1⟩|⟨h0,h1⟩
  ·rw[xq.1] at hg;obtain⟨k1,k2⟩:=hk0'.out i ob g h1 hg;exact⟨fun hs=>k1 (hext.s g (hSw g hs)),k2⟩
  ·rw[(hφ i h0).1] at hg;exact hk.out i ob g h1 hg
 ·rcases hcase i oi hi with ⟨rfl,h1⟩|⟨h0,h1⟩<;>rcases hcase j oj hj with ⟨h2,h3⟩|⟨h2,h3⟩
  ·exact hij h2.symm
  ·rw[xq.1] at hgi; rw[(hφ j h2).1] at hgj;exact(hk0'.out i oi g h1 hgi).1 (hext.s g (hOw j oj g h3 hgj))
  ·subst h2; rw[(hφ i h0).1] at hgi; rw[xq.1] at hgj;exact(hk0'.out j oj g h3 hgj).1 (hext.s g (hOw i oi g h1 hgi))
  ·rw[(hφ i h0).1] at hgi; rw[(hφ j h2).1] at hgj;exact hk.sep i j oi oj g hij h1 h3 hgi hgj
 ·rcases pG hi with ⟨h1,h2⟩|h1
  ·exact⟨.inr h1,T.aA (fun _ h=>h.elim) _ (dh (H.ob ob h2))⟩
  ·exact⟨.inl (hm i ob h1).1,T.aA (fun _ h=>.inl h) _ (hm i ob h1).2⟩
end
def bs(l:List UInt8):ByteArray:=⟨l.toArray⟩
def o(d:Nat)(op:o8):aT:=⟨some d,op,none,false,[],false,false⟩
def ov(op:o8):aT:=⟨none,op,none,false,[],false,false⟩
def slots(n:Nat)(l:List (Nat×T)):List T:=l.foldl (fun fr p=>fr.set p.1 p.2) (List.replicate n .any)
section
variable {Z:Nat->Prop} {h:Hp}
mutual
theorem aH:(t:T)->T.sub Z h t t
 | .any=>by simp[T.sub]
 | .sl k f l=>by simp[T.sub]
 | .agg l=>by simp only[T.sub]; exact dR l
 | .dD l=>by simp only[T.sub]; exact dR l
 | .lit _=>by simp[T.sub]
 | .ref _ _=>by simp[T.sub]
 | .own _=>by simp[T.sub]
 | .ptr _ _ _=>by simp[T.sub]
 | .rG _ _ _=>by simp[T.sub]
 | .fn _ _=>by simp[T.sub]
theorem dR:(l:List T)->T.dY Z h l l
 |[]=>by simp[T.dY]
 |t::ts=>by simp only[T.dY]; exact⟨aH t,dR ts⟩
end
theorem EJ{a b a' b':List T}(h1:T.dY Z h a a')(h2:T.dY Z h b b'):T.dY Z h (a++b) (a'++b'):=by
 induction a generalizing a' with
 |nil=>cases a' with
  |nil=>exact h2
  |cons x xs=>simp[T.dY] at h1
 |cons x xs ih=>cases a' with
  |nil=>simp[T.dY] at h1
  |cons y ys=>simp only[T.dY,cj] at h1 ⊢; exact⟨h1.1,ih h1.2⟩
end
theorem wrap64{n:Int}(h1: -9223372036854775808<=n)(h2:n<9223372036854775808):IntKind.i64.wrap n=n:=by
 have e:IntKind.i64.wrap n=(if(true&&decide (n % 18446744073709551616>=9223372036854775808))=true then n % 18446744073709551616-18446744073709551616 else n % 18446744073709551616):=rfl;rw[e];simp only[cV,aq];split<;>omega
def Z4(k:Nat)(l:List T):Bool:=bif k==1000000007 then l.all iw else l.all fun t=>t.kd==k
theorem uS{k:Nat}{l:List T}(h:Z4 k l=true):(k=gK/\l.all iw=true)\/(k≠gK/\ ∀ t∈l,t.kd=k):=by
 unfold Z4 at h;cases hk:(k==1000000007) with
 |true=>rw[hk] at h; exact .inl ⟨by simpa using hk,h⟩
 |false=>rw[hk] at h; exact .inr ⟨by simpa using hk,by simpa using h⟩
theorem Wk.ahv{s:AS}{fr:List T}{h:Hp}{nx pn:Nat}(i:Nat)(ty k:Nat){k':Nat}(hg:fr.getD i .any= .sl k' true [])(hk:Bv k=true)(H:Wk s ⟨fr.set i (.own nx),upd h nx (some ⟨ty,k,[]⟩),nx+1,pn⟩):Wk s ⟨fr,h,nx,pn⟩:=by
 obtain⟨s1,h1,h2⟩:=H;exact⟨s1,.slot ⟨i,k',ty,k,hg,hk,rfl⟩ h1,h2⟩
theorem Wk.ahw{s:AS}{fr:List T}{h:Hp}{nx pn:Nat}(j c:Nat)(ty k:Nat){k' oty:Nat}{cs:List T}(hj:h j=some ⟨oty,cs.length+1,[.agg cs]⟩)(hc:c<cs.length)(hg:cs.getD c .any= .sl k' true [])(hk:Bv k=true)(hn:j<nx)
  (H:Wk s ⟨fr,upd (upd h j (some ⟨oty,cs.length+1,[.agg (cs.set c (.own nx))]⟩)) nx (some ⟨ty,k,[]⟩),nx+1,pn⟩):Wk s ⟨fr,h,nx,pn⟩:=by
 obtain⟨s1,h1,h2⟩:=H;exact⟨s1,.cell ⟨j,c,k',ty,k,oty,cs,hj,hc,hg,hk,hn,rfl⟩ h1,h2⟩
def hpL:List (Nat×Nat×Ob)->Hp
 |[]=>no
 |p::r=>upd (hpL r) p.1 (some p.2.2)
def Ep:List (Nat×Nat×Ob)->Nat->Nat
 |[],i=>i
 |p::r,i=>if i=p.1 then p.2.1 else Ep r i
def Gs:List (Nat×Nat×Ob)->Nat->Prop
 |[],_=>False
 |p::r,j=>j=p.2.1\/Gs r j
def okL(Z:Nat->Prop)(ρ:Nat->Nat)(h:Hp)(nx pn:Nat):List (Nat×Nat×Ob)->Prop
 |[]=>True
 |p::r=>(p.1<nx/\(p.1<pn->p.2.1=p.1)/\ ¬ Gs r p.2.1/\T.aO (· <nx) p.2.2.l/\Z4 p.2.2.k p.2.2.l=true/\ ∃ l',h p.2.1=some ⟨p.2.2.ty,p.2.2.k,l'⟩/\T.dY Z h (T.dF ρ p.2.2.l) l')/\okL Z ρ h nx pn r
theorem sQ: ∀ {L:List (Nat×Nat×Ob)} {i:Nat} {ob:Ob},hpL L i=some ob->(i,Ep L i,ob)∈L/\Gs L (Ep L i):=by
 intro L;induction L with
 |nil=>intro i ob h; cases h
 |cons p r ih =>
  intro i ob h;simp only[hpL,upd] at h;simp only[Ep,Gs];split at h
  ·rename_i hi; cases h; subst hi; simp
  ·rename_i hi; rw[bB hi]; obtain⟨h1,h2⟩:=ih h; exact⟨dE _ h1,.inr h2⟩
theorem wF{Z:Nat->Prop}{ρ:Nat->Nat}{h:Hp}{nx pn:Nat}: ∀ {L:List (Nat×Nat×Ob)},okL Z ρ h nx pn L-> ∀ {p},p∈L ->
  (p.1<nx/\(p.1<pn->p.2.1=p.1)/\T.aO (· <nx) p.2.2.l/\Z4 p.2.2.k p.2.2.l=true/\ ∃ l',h p.2.1=some ⟨p.2.2.ty,p.2.2.k,l'⟩/\T.dY Z h (T.dF ρ p.2.2.l) l'):=by
 intro L;induction L with
 |nil=>intro _ p hp; cases hp
 |cons q r ih =>
  intro hL p hp;simp only[okL] at hL;rcases bv.1 hp with rfl|hp
  ·obtain⟨⟨h1,h2,_,h3,h4,h5⟩,_⟩:=hL; exact⟨h1,h2,h3,h4,h5⟩
  ·exact ih hL.2 hp
theorem NI{Z:Nat->Prop}{ρ:Nat->Nat}{h:Hp}{nx pn:Nat}: ∀ {L:List (Nat×Nat×Ob)},okL Z ρ h nx pn L-> ∀ {i j:Nat} {oi oj:Ob},hpL L i=some oi->hpL L j=some oj->Ep L i=Ep L j->i=j:=by
 intro L;induction L with
 |nil=>intro _ i j oi oj hi; cases hi
 |cons q r ih =>
  intro hL i j oi oj hi hj e;simp only[okL] at hL;obtain⟨⟨_,_,hn,_⟩,hr⟩:=hL;simp only[hpL,upd] at hi hj;simp only[Ep] at e;by_cases h1:i=q.1<;>by_cases h2:j=q.1
  ·rw[h1,h2]
  ·rw[bc h1,bB h2] at e; rw[bB h2] at hj;exact absurd (e▸(sQ hj).2) hn
  ·rw[bB h1,bc h2] at e; rw[bB h1] at hi;exact absurd (e▸(sQ hi).2) hn
  ·rw[bB h1,bB h2] at e; rw[bB h1] at hi; rw[bB h2] at hj;exact ih hr hi hj e
theorem Wk.objs(L:List (Nat×Nat×Ob)){fr fr':List T}{h:Hp}{nx nx' pn:Nat}(hs:T.dY (fun i=> ¬ Gs L i) h (T.dF (Ep L) fr) fr')(hf:T.aO (· <nx) fr)(hn:pn<=nx)
  (hL:okL (fun i=> ¬ Gs L i) (Ep L) h nx pn L):Wk ⟨fr,hpL L,nx,pn⟩ ⟨fr',h,nx',pn⟩:=by
 refine⟨_,.refl _,.inr ⟨fun i=> ¬ Gs L i,Ep L,⟨hs,fun i ob hi=>?_,fun i j hi hj e=>?_,hf,fun i ob hi=>?_,rfl,hn,fun i hi hs=>?_⟩⟩⟩
 ·obtain⟨h1,h2⟩:=sQ hi;obtain⟨_,_,_,h4,l',h5,h6⟩:=wF hL h1;exact⟨_,h5,fun hz=>hz h2,rfl,rfl,h6,uS h4⟩
 ·obtain⟨oi,hi⟩:=am.1 hi;obtain⟨oj,hj⟩:=am.1 hj;exact NI hL hi hj e
 ·obtain⟨h1,_,h3,_⟩:=wF hL (sQ hi).1;exact⟨h1,h3⟩
 ·obtain⟨ob,hob⟩:=am.1 hs;obtain⟨_,h2,_⟩:=wF hL (sQ hob).1;exact h2 hi
abbrev Str:=List UInt8
structure Lin where
 c:Int
 n:Int
 t:Int
 f:Int
 deriving DecidableEq,Inhabited
structure DR where
 message:Int
 Jv:Int
 bound:Lin
 deriving DecidableEq,Inhabited
structure Rule where
 name:Str
 kind:Int
 fr:Int
 to:Int
 dQ:Int
 yT:Int
 response:List Int
 guards:List DR
 ex:List Int
 all:List Int
 read:Int
 write:Int
 send:List Int
 pos:Int
 left:List Int
 right:List Int
 parent:List Int
 direction:Int
 deriving DecidableEq,Inhabited
structure aF where
 name:Str
 topology:Int
 states:List Str
 messages:List Str
 values:List Str
 fault:Int
 dL:List Lin
 initial:List Int
 leader:List Int
 rules:List Rule
 deriving DecidableEq,Inhabited
structure Cnt where
 states:List Int
 least:Int
 deriving DecidableEq,Inhabited
structure Prop' where
 name:Str
 kind:Int
 start:List Int
 bad:List Cnt
 adjacent:List Int
 goal:List Int
 deriving DecidableEq,Inhabited
structure Clause where
 each:List (List Int)
 values:List Int
 some:List Int
 deriving DecidableEq,Inhabited
structure Elem where
 value:Int
 counts:List Int
 deriving DecidableEq,Inhabited
def eS(s:Str):T:=.lit (.string (bs s))
@[reducible] def ints(l:List Int):T:=.sl 0 false (l.map T.int)
@[reducible] def bools(l:List Bool):T:=.sl 0 false (l.map T.bool)
@[reducible] def strs(l:List Str):T:=.sl 0 false (l.map eS)
def QI(x:Lin):T:=.agg [.int x.c,.int x.n,.int x.t,.int x.f]
def QJ(x:DR):T:=.agg [.int x.message,.int x.Jv,.int x.bound.c,.int x.bound.n,.int x.bound.t,.int x.bound.f]
def Jw(x:Rule):T:=.agg [eS x.name,.int x.kind,.int x.fr,.int x.to,.int x.dQ,.int x.yT,ints x.response,.sl 7 false (x.guards.map QJ),ints x.ex,ints x.all,.int x.read,.int x.write,ints x.send,.int x.pos,ints x.left,ints x.right,ints x.parent,.int x.direction]
def Z5(x:aF):T:=.agg [eS x.name,.int x.topology,strs x.states,strs x.messages,strs x.values,.int x.fault,.sl 5 false (x.dL.map QI),ints x.initial,ints x.leader,.sl 19 false (x.rules.map Jw)]
def QK(x:Cnt):T:=.agg [ints x.states,.int x.least]
def aeo(x:Prop'):T:=.agg [eS x.name,.int x.kind,ints x.start,.sl 3 false (x.bad.map QK),ints x.adjacent,ints x.goal]
def Jy(x:Clause):T:=.agg [.sl 0 false (x.each.map ints),ints x.values,ints x.some]
def jK(x:Elem):T:=.agg [.int x.value,ints x.counts]
theorem Gf(l:List UInt8):(bs l).toList=l:=by
 rw[ByteArray.toList_eq]; rfl
theorem DT(l:List UInt8):(bs l).size=l.length:=by simp[bs,ByteArray.size]
theorem aep(l:List UInt8)(i:Nat):(bs l).data.getD i 0=l.getD i 0:=by simp[bs,Array.getD_eq_getD_getElem?,List.getD_eq_getElem?_getD]
def forget(w:List Nat)(fr:List T):List T:=w.foldl (fun fr i=>fr.set i .any) fr
def HpG(nx:Nat)(h:Hp):Prop:= ∀ i ob,h i=some ob->i<nx/\T.aO (· <nx) ob.l/\Z4 ob.k ob.l=true
theorem ahx{nx m:Nat}{h:Hp}{ob:Ob}(H:HpG nx h)(h1:m<nx)(h2:T.aO (· <nx) ob.l)(h3:Z4 ob.k ob.l=true):HpG nx (upd h m (some ob)):=fun i o hi=>by
 by_cases he:i=m
 ·subst he; simp[upd] at hi; subst hi; exact⟨h1,h2,h3⟩
 ·simp[upd,he] at hi; exact H i o hi
theorem ahy{nx m:Nat}{h:Hp}(H:HpG nx h):HpG nx (upd h m none):=fun i o hi=>by
 by_cases he:i=m
 ·subst he; simp[upd] at hi
 ·simp[upd,he] at hi; exact H i o hi
def HpE(nx:Nat)(h h':Hp):Prop:= ∀ i,i<nx->h' i=h i
theorem Wk.same{fr fr':List T}{h h':Hp}{nx nx' pn:Nat}(hs:T.dY (fun _=>False) h' fr fr')(hf:T.aO (· <nx) fr)(hG:HpG nx h)(hE:HpE nx h h')(hn:pn<=nx):Wk ⟨fr,h,nx,pn⟩ ⟨fr',h',nx',pn⟩:=by
 refine⟨_,.refl _,.inr ⟨fun _=>False,id,⟨?_,fun i ob hi=>?_,fun i j _ _ e=>e,hf,fun i ob hi=>⟨(hG i ob hi).1,(hG i ob hi).2.1⟩,rfl,hn,fun i _ _=>rfl⟩⟩⟩
 ·have:T.dF id fr=fr:=by
   have: ∀ l:List T,T.dF id l=l:=by
    intro l;induction l with
    |nil=>rfl
    |cons t ts ih=>simp[T.dF,ih,YM]
   exact this fr
  rw[this]; exact hs
 ·obtain⟨h1,h2,h3⟩:=hG i ob hi;refine⟨ob,by show h' i=some ob; rw[hE i h1]; exact hi,fun h=>h,rfl,rfl,?_,uS h3⟩
  have:T.dF id ob.l=ob.l:=by
   have: ∀ l:List T,T.dF id l=l:=by
    intro l;induction l with
    |nil=>rfl
    |cons t ts ih=>simp[T.dF,ih,YM]
   exact this _
  rw[this]; exact dR _
def Ob.ren(ρ:Nat->Nat)(ob:Ob):Ob:=⟨ob.ty,ob.k,T.dF ρ ob.l⟩
def nameAt(ρ:Nat->Nat)(n0 n:Nat):Nat->Nat:=fun i=>if i=n0 then n else ρ i
open Classical in
noncomputable def AU(σ:Nat->Nat)(D:Nat->Prop)(h h1:Hp):Hp:=fun j =>
 if hj: ∃ i,D i/\σ i=j then(h1 hj.choose).map (Ob.ren σ) else h j
noncomputable def placed(ρ:Nat->Nat)(n0 n:Nat)(h0 h h1:Hp):Hp:=AU (nameAt ρ n0 n) (fun i=>(h0 i).isSome=true\/i=n0) h h1
def CO(ρ:Nat->Nat)(n0 k n:Nat):Nat->Nat:=fun i=>if n0<=i/\i<=n0+k then n+(i-n0) else ρ i
noncomputable def Z7(ρ:Nat->Nat)(n0 k n:Nat)(h0 h h1:Hp):Hp:=AU (CO ρ n0 k n) (fun i=>(h0 i).isSome=true\/(n0<=i/\i<=n0+k)) h h1
theorem xA{σ:Nat->Nat}{D:Nat->Prop}{h h1:Hp}(inj: ∀ i j,D i->D j->σ i=σ j->i=j){i:Nat}(hi:D i):AU σ D h h1 (σ i)=(h1 i).map (Ob.ren σ):=by
 have hx: ∃ i',D i'/\σ i'=σ i:=⟨i,hi,rfl⟩
 unfold AU;rw[dif_pos hx];rw[inj _ _ hx.choose_spec.1 hi hx.choose_spec.2]
theorem AV{σ:Nat->Nat}{D:Nat->Prop}{h h1:Hp}{j:Nat}(hj: ¬ ∃ i,D i/\σ i=j):AU σ D h h1 j=h j:=by
 unfold AU; rw[dif_neg hj]
theorem Lc{ρ:Nat->Nat}{n0 n:Nat}{h0 h h1:Hp}(inj: ∀ i j,((h0 i).isSome=true\/i=n0)->((h0 j).isSome=true\/j=n0)->nameAt ρ n0 n i=nameAt ρ n0 n j->i=j){i:Nat}(hi:(h0 i).isSome=true\/i=n0) :
  placed ρ n0 n h0 h h1 (nameAt ρ n0 n i)=(h1 i).map (Ob.ren (nameAt ρ n0 n)):=xA inj hi
theorem O9{ρ:Nat->Nat}{n0 n:Nat}{h0 h h1:Hp}{j:Nat}(hj: ¬ ∃ i,((h0 i).isSome=true\/i=n0)/\nameAt ρ n0 n i=j):placed ρ n0 n h0 h h1 j=h j:=AV hj
mutual
theorem Z8{ρ:Nat->Nat}{M:Nat->Prop}:(t:T)->t.ids (fun i=>M (ρ i))->(t.ren ρ).ids M
 | .lit _,_=>by simp[T.ren,T.ids]
 | .agg l,h=>by simp only[T.ren,T.ids] at h ⊢; exact E8 l h
 | .sl _ _ _,_=>by simp[T.ren,T.ids]
 | .ref _ _,_=>by simp[T.ren,T.ids]
 | .own _,h=>by simpa [T.ren,T.ids] using h
 | .ptr _ _ _,h=>by simpa [T.ren,T.ids] using h
 | .rG _ _ _,h=>by simpa [T.ren,T.ids] using h
 | .fn f l,h=>by simp only[T.ren,T.ids] at h ⊢; exact E8 l h
 | .dD l,h=>by simp only[T.ren,T.ids] at h ⊢; exact E8 l h
 | .any,_=>by simp[T.ren,T.ids]
theorem E8{ρ:Nat->Nat}{M:Nat->Prop}:(l:List T)->T.aO (fun i=>M (ρ i)) l->T.aO M (T.dF ρ l)
 |[],_=>by simp[T.dF,T.aO]
 |t::ts,h=>by simp only[T.dF,T.aO] at h ⊢; exact⟨Z8 t h.1,E8 ts h.2⟩
end
mutual
theorem xB{E E0:Env}{ρ:Nat->Nat}{M:Nat->Prop}(hS:(∀ b,E0.S b->E.S b)/\E.y=E0.y)(hw: ∀ b,E0.S b->E.w.heap[b]? =E0.w.heap[b]?)(hi': ∀ i,M i->(E.h (ρ i)).isSome=true->(E0.h i).isSome=true/\E.φ (ρ i)=E0.φ i/\E.κ (ρ i)=E0.κ i) :
  (t:T)->t.ids M->(vs:List Value)->aN E0 t vs->aN E (t.ren ρ) vs
 | .lit v,_,vs,H=>by simpa [aN,T.ren] using H
 | .agg l,hm,vs,H=>by simp only[aN,T.ren,T.ids] at H hm ⊢; exact Ig hS hw hi' l hm vs H
 | .sl k f l,_,vs,H=>by
  simp only[aN,T.ren] at H ⊢;obtain⟨a,c,h1,h2,h3,h4⟩:=H;refine⟨a,c,h1,h2,h3,?_⟩;rcases h4 with h4|⟨b,off,cur,e,m,ha,hb,hh,hf,hr⟩
  ·exact .inl h4
  ·exact .inr ⟨b,off,cur,e,m,ha,hS.1 b hb,by rw[hw b hb]; exact hh,hf,eX (E:=E0) (E':=E) l k _ ⟨hS.1,hw,fun _ hf=>hf.elim,hS.2⟩ hf _ hr⟩
 | .ref k t,_,vs,H=>by
  simp only[aN,T.ren] at H ⊢;obtain⟨b,off,cur,e,m,h1,hb,hh,hk,hf,hl',hr⟩:=H;exact⟨b,off,cur,e,m,h1,hS.1 b hb,by rw[hw b hb]; exact hh,hk,hf,hl',iE (E:=E0) (E':=E) t _ ⟨hS.1,hw,fun _ hf=>hf.elim,hS.2⟩ hf _ hr⟩
 | .own i,hm,vs,H=>by
  simp only[aN,T.ren,T.ids] at H hm ⊢;obtain⟨u,h1,h2⟩:=H;exact⟨u,h1,fun hd=>by obtain⟨g1,g2,_⟩:=hi' i hm hd; rw[g2]; exact h2 g1⟩
 | .ptr i j off,hm,vs,H=>by
  simp only[aN,T.ren,T.ids] at H hm ⊢;obtain⟨u,h1,h2⟩:=H;exact⟨u,h1,fun hd=>by obtain⟨g1,g2,g3⟩:=hi' i hm hd; rw[g2,g3]; exact h2 g1⟩
 | .rG i lo hi,hm,vs,H=>by
  simp only[aN,T.ren,T.ids] at H hm ⊢;obtain⟨u,h1,h2⟩:=H;exact⟨u,h1,fun hd=>by obtain⟨g1,g2,g3⟩:=hi' i hm hd; rw[g2,g3]; exact h2 g1⟩
 | .fn f cap,hm,vs,H=>by
  simp only[aN,T.ren,T.ids] at H hm ⊢;rcases H with ⟨h0,cs,h1,h2⟩|⟨h0,p,hp,hf,h1,h2⟩
  ·exact .inl ⟨h0,cs,h1,Ig hS hw hi' cap hm _ h2⟩
  ·exact .inr ⟨h0,p,hS.2.trans hp,hf,h1,Ih hS hw hi' cap hm _ h2⟩
 | .dD l,hm,vs,H=>by
  simp only[aN,T.ren,T.ids] at H hm ⊢;obtain⟨cs,h1,h2⟩:=H;exact⟨cs,h1,Ih hS hw hi' l hm _ h2⟩
 | .any,_,vs,H=>by simp[aN,T.ren]
theorem Ig{E E0:Env}{ρ:Nat->Nat}{M:Nat->Prop}(hS:(∀ b,E0.S b->E.S b)/\E.y=E0.y)(hw: ∀ b,E0.S b->E.w.heap[b]? =E0.w.heap[b]?)(hi': ∀ i,M i->(E.h (ρ i)).isSome=true->(E0.h i).isSome=true/\E.φ (ρ i)=E0.φ i/\E.κ (ρ i)=E0.κ i) :
  (l:List T)->T.aO M l->(vs:List Value)->aX E0 l vs->aX E (T.dF ρ l) vs
 |[],_,vs,H=>by simpa [aX,T.dF] using H
 |t::ts,hm,vs,H=>by
  simp only[aX,T.dF,T.aO] at H hm ⊢;obtain⟨hk,v,r,h1,h0,h2,h3⟩:=H;exact⟨by rw[uQ]; exact hk,v,r,h1,h0,xB hS hw hi' t hm.1 _ h2,Ig hS hw hi' ts hm.2 _ h3⟩
theorem Ih{E E0:Env}{ρ:Nat->Nat}{M:Nat->Prop}(hS:(∀ b,E0.S b->E.S b)/\E.y=E0.y)(hw: ∀ b,E0.S b->E.w.heap[b]? =E0.w.heap[b]?)(hi': ∀ i,M i->(E.h (ρ i)).isSome=true->(E0.h i).isSome=true/\E.φ (ρ i)=E0.φ i/\E.κ (ρ i)=E0.κ i) :
  (l:List T)->T.aO M l->(vs:List Value)->bg E0 l vs->bg E (T.dF ρ l) vs
 |[],_,vs,H=>by simpa [bg,T.dF] using H
 |t::ts,hm,vs,H=>by
  simp only[bg,T.dF,T.aO] at H hm ⊢;obtain⟨v,r,h1,h2,h3⟩:=H;refine⟨v,r,h1,?_,Ih hS hw hi' ts hm.2 _ h3⟩;rcases h2 with ⟨hk,cs,h4,h5⟩|⟨hk,h4⟩
  ·exact .inl ⟨by rw[uQ]; exact hk,cs,h4,xB hS hw hi' t hm.1 _ h5⟩
  ·exact .inr ⟨by rw[uQ]; exact hk,xB hS hw hi' t hm.1 _ h4⟩
end
theorem Ug{E E0:Env}{ρ:Nat->Nat}{M:Nat->Prop}(hS:(∀ b,E0.S b->E.S b)/\E.y=E0.y)(hw: ∀ b,E0.S b->E.w.heap[b]? =E0.w.heap[b]?)(hi: ∀ i,M i->(E.h (ρ i)).isSome=true->(E0.h i).isSome=true/\E.φ (ρ i)=E0.φ i/\E.κ (ρ i)=E0.κ i){k:Nat} :
  ∀ (l:List T),T.aO M l-> ∀ (vs:List Value),aJ E0 k l vs->aJ E k (T.dF ρ l) vs:=by
 intro l;induction l with
 |nil=>intro _ vs _; simp[aJ,T.dF]
 |cons t ts ih =>
  intro hm vs H;simp only[aJ,T.dF,T.aO] at H hm ⊢;obtain⟨h1,h2,h3,h4,h5⟩:=H;exact⟨by rw[uQ]; exact h1,h2,h3,xB hS hw hi t hm.1 _ h4,ih hm.2 _ h5⟩
theorem Wi{E E0:Env}{ρ:Nat->Nat}{M:Nat->Prop}(hS:(∀ b,E0.S b->E.S b)/\E.y=E0.y)(hw: ∀ b,E0.S b->E.w.heap[b]? =E0.w.heap[b]?)(hi: ∀ i,M i->(E.h (ρ i)).isSome=true->(E0.h i).isSome=true/\E.φ (ρ i)=E0.φ i/\E.κ (ρ i)=E0.κ i) :
  ∀ (l:List T),T.aO M l-> ∀ (es:List MapEntry),fK E0 l es->fK E (T.dF ρ l) es:=by
 intro l;induction l with
 |nil=>intro _ vs H; simpa [fK,T.dF] using H
 |cons t ts ih =>
  intro hm vs H;simp only[fK,T.dF,T.aO] at H hm ⊢;obtain⟨n,u,e,r,rfl,rfl,h1,h2,h3,h4,h5⟩:=H;simp only[T.ids,T.aO] at hm;exact⟨n,u.ren ρ,e,r,by simp[T.ren,T.dF],rfl,h1,by rw[uQ]; exact h2,h3,xB hS hw hi u hm.1.2.1 _ h4,ih hm.2 _ h5⟩
theorem uN.back{E E0:Env}{ρ:Nat->Nat}{M:Nat->Prop}(hS:(∀ b,E0.S b->E.S b)/\E.y=E0.y)(hw: ∀ b,E0.S b->E.w.heap[b]? =E0.w.heap[b]?)(hi: ∀ i,M i->(E.h (ρ i)).isSome=true->(E0.h i).isSome=true/\E.φ (ρ i)=E0.φ i/\E.κ (ρ i)=E0.κ i)
  (hww:E.w=E0.w) {ob:Ob} (hm:T.aO M ob.l) {v:Value} (H:uN E0 ob v):uN E (ob.ren ρ) v:=by
 rcases H with ⟨hk,⟨a,h1,h2⟩|⟨g,c,cur,h1,h2,h3,h4,h5,h6⟩⟩|⟨hk,g,es,cl,h1,h2,h3⟩
 ·exact .inl ⟨hk,.inl ⟨a,h1,by simp[Ob.ren,h2,T.dF]⟩⟩
 ·exact .inl ⟨hk,.inr ⟨g,c,cur,by simp only[Ob.ren,xZ]; exact h1,by simp only[Ob.ren,xZ]; exact h2,h3,by rw[hww]; exact h4,h5,Ug hS hw hi _ hm _ h6⟩⟩
 ·exact .inr ⟨hk,g,es,cl,h1,by rw[hww]; exact h2,Wi hS hw hi _ hm _ h3⟩
section
variable {P:Program}
mutual
theorem Sr{ρ σ:Nat->Nat}{M:Nat->Prop}(h: ∀ i,M i->ρ i=σ i):(t:T)->t.ids M->t.ren ρ=t.ren σ
 | .lit _,_=>rfl
 | .agg l,hm=>by simp only[T.ren,T.ids] at hm ⊢; rw[xC h l hm]
 | .sl _ _ _,_=>rfl
 | .ref _ _,_=>rfl
 | .own i,hm=>by simp only[T.ren,T.ids] at hm ⊢; rw[h i hm]
 | .ptr i _ _,hm=>by simp only[T.ren,T.ids] at hm ⊢; rw[h i hm]
 | .rG i _ _,hm=>by simp only[T.ren,T.ids] at hm ⊢; rw[h i hm]
 | .fn f l,hm=>by simp only[T.ren,T.ids] at hm ⊢; rw[xC h l hm]
 | .dD l,hm=>by simp only[T.ren,T.ids] at hm ⊢; rw[xC h l hm]
 | .any,_=>rfl
theorem xC{ρ σ:Nat->Nat}{M:Nat->Prop}(h: ∀ i,M i->ρ i=σ i):(l:List T)->T.aO M l->T.dF ρ l=T.dF σ l
 |[],_=>rfl
 |t::ts,hm=>by simp only[T.dF,T.aO] at hm ⊢; rw[Sr h t hm.1,xC h ts hm.2]
end
theorem Sv{f:FuncId}{ts:List T}{h0:Hp}{N0 N:Nat->Prop}{ρ':Nat->Nat}{post:T->Hp->Prop}{ρ:Nat->Nat}{F:Fr P}{M:Nat->Prop}{E:Env}{vs:List Value}
  (hcall: ∀ (F:Fr P) (M:Nat->Prop) (E:Env) (vs:List Value),qY F E->E.h=h0->bg E ts vs->T.aO M ts->pq M h0->(∀ i,M i->(h0 i).isSome=true)->Calls P f vs.toArray E.w (GY F M E N0 post))
  (hid:T.aO (fun i=>(h0 i).isSome=true) ts) (abT: ∀ i ob,h0 i=some ob->T.aO (fun i=>(h0 i).isSome=true) ob.l/\Z4 ob.k ob.l=true)
  (hpl: ∀ i ob,h0 i=some ob->E.h (ρ i)=some (ob.ren ρ)) (Gt: ∀ i,(h0 i).isSome=true->ρ' i=ρ i) (Ld: ∀ i,N0 i->N (ρ' i))
  (inj: ∀ i j,(h0 i).isSome=true->(h0 j).isSome=true->ρ i=ρ j->i=j)
  (ame: ∀ i j,((h0 i).isSome=true\/N0 i)->((h0 j).isSome=true\/N0 j)->ρ' i=ρ' j->i=j)
  (hk:qY F E) (hts:bg E (T.dF ρ ts) vs) (hm:pq M E.h) (hn: ∀ i,M i-> ¬ N i) :
  Calls P f vs.toArray E.w (GY F M E N fun t' h'=> ∃ t h1,post t h1/\t'=t.ren ρ'/\h'=AU ρ' (fun i=>(h0 i).isSome=true\/N0 i) E.h h1):=by
 let L:Nat->Prop:=fun i=>(h0 i).isSome=true
 have hLh: ∀ i,L i-> ∃ ob,h0 i=some ob/\E.h (ρ i)=some (ob.ren ρ):=fun i hi=>by
  obtain⟨ob,hob⟩:=am.1 hi;exact⟨ob,hob,hpl i ob hob⟩
 have Wj: ∀ i,L i->M (ρ i):=fun i hi=>by
  obtain⟨ob,_,h2⟩:=hLh i hi;exact(hm _ _ h2).1
 let E0:Env:=(E.shut fun _=>False).ren ρ h0
 have hS0: ∀ g,E0.S g↔E.S g:=fun g=>⟨fun hg=>by
  rcases hg with hg|⟨_,_,hf,_⟩
  ·exact hg
  ·exact hf.elim,.inl⟩
 have hkr:qY F E0:=hk.ren (fun i ob hi=>⟨_,hpl i ob hi,fun hf=>hf,rfl,rfl,dR _,uS (abT i ob hi).2⟩) inj
 let img:Nat->Prop:=fun j=> ∃ i,(L i\/N0 i)/\ρ' i=j
 let F0:Fr P:= {s:=fun g=>F g\/ ∃ j ob,E.h j=some ob/\ ¬ img j/\rowB (E.φ j)=some g}
 have hk0:qY F0 E0:=by
  refine⟨hkr.obs,fun i ob g hi hg=>?_,hkr.sep,hkr.slt,fun g hg=>?_,fun g hs hg=>?_,⟨fun g cs hg=>⟨.inl (hkr.gl.1 g cs hg).1,(hkr.gl.1 g cs hg).2⟩,hkr.gl.2.of (fun _ h=>.inl h) (fun _ _=>rfl) rfl⟩⟩
  ·refine⟨(hkr.out i ob g hi hg).1,fun hF=>?_⟩;rcases hF with hF|⟨j,oj,h1,h2,h3⟩
   ·exact(hkr.out i ob g hi hg).2 hF
   ·have hi':h0 i=some ob:=hi;have hL:L i:=by show(h0 i).isSome=true; rw[hi']; rfl
    refine hk.sep (ρ i) j _ oj g (fun e=>h2 ⟨i,.inl hL,by rw[Gt i hL]; exact e⟩) (hpl i ob hi') h1 hg h3
  ·rcases hg with hg|⟨j,oj,h1,_,h3⟩
   ·exact hk.flt g hg
   ·exact(hk.obs j oj h1).1.lt h3
  ·rcases hg with hg|⟨j,oj,h1,_,h3⟩
   ·exact hkr.sf g hs hg
   ·exact(hk.out j oj g h1 h3).1 ((hS0 g).1 hs)
 have hrep:bg E0 ts vs:=by
  refine xw (fun i hi=>?_) _ _ (jd (E:=E) (E':=E.shut fun _=>False) _ (fun _=>True) (lI E _ _) (xu _) _ hts);obtain⟨ob,_,h2⟩:=hLh i hi;rw[yM (fun h=>h),h2]; rfl
 refine(hcall F0 L E0 vs hk0 rfl hrep hid (fun i ob hi=>⟨by show(h0 i).isSome=true; rw[hi]; rfl,(abT i ob hi).1⟩) fun _ h=>h).mono ?_;rintro e w' ⟨v,t,E0',rfl,rfl,hpost,hv,hk0',hext,akm,VQ,YK⟩
 classical
 let pre:Nat->Nat:=fun j=>if hj:img j then hj.choose else 0
 have hpre: ∀ i,(L i\/N0 i)->pre (ρ' i)=i:=fun i hi=>by
  have hx:img (ρ' i):=⟨i,hi,rfl⟩
  show(if hj:img (ρ' i) then hj.choose else 0)=i;rw[dif_pos hx];exact ame _ _ hx.choose_spec.1 hi hx.choose_spec.2
 let E':Env:= {w:=E0'.w,S:=E0'.S,φ:=fun j=>if img j then E0'.φ (pre j) else E.φ j,κ:=fun j=>if img j then E0'.κ (pre j) else E.κ j,h:=AU ρ' (fun i=>L i\/N0 i) E.h E0'.h,y:=E0'.y}
 have QL: ∀ i,(L i\/N0 i)->E'.φ (ρ' i)=E0'.φ i/\E'.κ (ρ' i)=E0'.κ i:=fun i hi=>by
  have hx:img (ρ' i):=⟨i,hi,rfl⟩
  refine⟨?_,?_⟩
  ·show(if img (ρ' i) then E0'.φ (pre (ρ' i)) else E.φ (ρ' i))=_; rw[bc hx,hpre i hi]
  ·show(if img (ρ' i) then E0'.κ (pre (ρ' i)) else E.κ (ρ' i))=_; rw[bc hx,hpre i hi]
 have Wn: ∀ j,¬ img j->E'.φ j=E.φ j/\E'.κ j=E.κ j:=fun j hj=>⟨bB hj,bB hj⟩
 have hhi: ∀ i,(L i\/N0 i)->E'.h (ρ' i)=(E0'.h i).map (Ob.ren ρ'):=fun i hi=>xA (h:=E.h) (h1:=E0'.h) ame hi
 have hho: ∀ j,¬ img j->E'.h j=E.h j:=fun j hj=>AV hj
 have hlive: ∀ i ob,E0'.h i=some ob->L i\/N0 i:=fun i ob hi=>(YK i ob hi).1
 have H9:Ext F E E':=⟨fun g hg=>hext.s g ((hS0 g).2 hg),fun g hg=>hext.w g (hg.imp (hS0 g).2 .inl),hext.size,hext.os,hext.tape,hext.output,hext.dr,hext.y⟩
 have ER:Same E E' M:=by
  intro j hj hs;by_cases hi:img j
  ·obtain⟨i,hi,rfl⟩:=hi;rcases hi with hi|h0
   ·rw[hhi i (.inl hi)] at hs;have hs':(E0'.h i).isSome=true:=by cases hq:E0'.h i with
     |none=>rw[hq] at hs; cases hs
     |some _=>rfl
    obtain⟨_,g2,g3⟩:=akm i hi hs';obtain⟨ob,_,h2⟩:=hLh i hi;rw[(QL i (.inl hi)).1,(QL i (.inl hi)).2,Gt i hi];exact⟨by rw[h2]; rfl,g2,g3⟩
   ·exact absurd (Ld i h0) (hn _ hj)
  ·rw[hho j hi] at hs;exact⟨hs,Wn j hi⟩
 have hKE:Keeps E E' M:=.of H9 ER;have hback: ∀ i,(L i\/N0 i)->(E'.h (ρ' i)).isSome=true->(E0'.h i).isSome=true/\E'.φ (ρ' i)=E0'.φ i/\E'.κ (ρ' i)=E0'.κ i:=fun i hi hs=>by
  rw[hhi i hi] at hs;refine⟨?_,QL i hi⟩;cases hq:E0'.h i with
  |none=>rw[hq] at hs; cases hs
  |some _=>rfl
 have hcase: ∀ j ob,E'.h j=some ob->(∃ i XT,(L i\/N0 i)/\ρ' i=j/\E0'.h i=some XT/\ob=XT.ren ρ')\/(¬ img j/\E.h j=some ob):=by
  intro j ob hj;by_cases hi:img j
  ·obtain⟨i,hi,rfl⟩:=hi;rw[hhi i hi] at hj;cases hq:E0'.h i with
   |none=>rw[hq] at hj; cases hj
   |some XT=>rw[hq] at hj; cases hj; exact .inl ⟨i,XT,hi,rfl,hq,rfl⟩
  ·rw[hho j hi] at hj; exact .inr ⟨hi,hj⟩
 have ZU: ∀ j ob g,E.h j=some ob-> ¬ img j->rowB (E.φ j)=some g->F0 g:=fun j ob g h1 h2 h3=>.inr ⟨j,ob,h1,h2,h3⟩
 refine⟨v,t.ren ρ',E',rfl,rfl,⟨t,E0'.h,hpost,rfl,rfl⟩,?_,⟨fun j ob hj=>?_,fun j ob g hj hg=>?_,fun j q oj oq g hjq hj hq hgj hgq=>?_,hk0'.slt,fun g hg=>hk0'.flt g (.inl hg),fun g hs hg=>hk0'.sf g hs (.inl hg),H9.gl hk⟩,H9,ER,?_,fun j ob hj=>?_⟩
 ·rcases hv with ⟨hk1,cs,h4,h5⟩|⟨hk1,h4⟩
  ·exact .inl ⟨by rw[uQ]; exact hk1,cs,h4,xB (E:=E') (E0:=E0') ⟨fun _ h=>h,rfl⟩ (fun _ _=>rfl) hback t VQ _ h5⟩
  ·exact .inr ⟨by rw[uQ]; exact hk1,xB (E:=E') (E0:=E0') ⟨fun _ h=>h,rfl⟩ (fun _ _=>rfl) hback t VQ _ h4⟩
 ·rcases hcase j ob hj with ⟨i,XT,hi,rfl,h1,rfl⟩|⟨hni,h1⟩
  ·obtain⟨k1,k2,k3⟩:=hk0'.obs i XT h1;rw[(QL i hi).1,(QL i hi).2];exact⟨k1.back (E:=E') (E0:=E0') ⟨fun _ h=>h,rfl⟩ (fun _ _=>rfl) hback rfl (YK i XT h1).2,k2,k3⟩
  ·obtain⟨k1,k2,k3⟩:=hk.obs j ob h1;rw[(Wn j hni).1,(Wn j hni).2];exact⟨k1.keep hKE (hm j ob h1).2 (fun g hg=>hext.w g (.inr (ZU j ob g h1 hni hg))),k2,k3⟩
 ·rcases hcase j ob hj with ⟨i,XT,hi,rfl,h1,rfl⟩|⟨hni,h1⟩
  ·rw[(QL i hi).1] at hg;obtain⟨k1,k2⟩:=hk0'.out i XT g h1 hg;exact⟨k1,fun h=>k2 (.inl h)⟩
  ·rw[(Wn j hni).1] at hg;exact⟨fun hs=>hk0'.sf g hs (ZU j ob g h1 hni hg),(hk.out j ob g h1 hg).2⟩
 ·rcases hcase j oj hj with ⟨i,XT,hi,rfl,h1,rfl⟩|⟨hni,h1⟩<;>rcases hcase q oq hq with ⟨i',amf,hi',rfl,h1',rfl⟩|⟨akn,h1'⟩
  ·rw[(QL i hi).1] at hgj; rw[(QL i' hi').1] at hgq;exact hk0'.sep i i' XT amf g (fun e=>hjq (by rw[e])) h1 h1' hgj hgq
  ·rw[(QL i hi).1] at hgj; rw[(Wn q akn).1] at hgq;exact(hk0'.out i XT g h1 hgj).2 (ZU q oq g h1' akn hgq)
  ·rw[(Wn j hni).1] at hgj; rw[(QL i' hi').1] at hgq;exact(hk0'.out i' amf g h1' hgq).2 (ZU j oj g h1 hni hgj)
  ·rw[(Wn j hni).1] at hgj; rw[(Wn q akn).1] at hgq;exact hk.sep j q oj oq g hjq h1 h1' hgj hgq
 ·refine Z8 _ (T.aW (fun i hi=>?_) _ VQ);rcases hi with hi|h0
  ·rw[show ρ' i=ρ i from Gt i hi]; exact .inl (Wj i hi)
  ·exact .inr (Ld i h0)
 ·have hM: ∀ i,(L i\/N0 i)->M (ρ' i)\/N (ρ' i):=fun i hi=>by
   rcases hi with hi|h0
   ·rw[Gt i hi]; exact .inl (Wj i hi)
   ·exact .inr (Ld i h0)
  rcases hcase j ob hj with ⟨i,XT,hi,rfl,h1,rfl⟩|⟨hni,h1⟩
  ·exact⟨hM i hi,E8 _ (T.aA hM _ (YK i XT h1).2)⟩
  ·exact⟨.inl (hm j ob h1).1,T.aA (fun _ h=>.inl h) _ (hm j ob h1).2⟩
theorem aP.place{f:FuncId}{ts:List T}{h0:Hp}{n0:Nat}{post:T->Hp->Prop}(H:aP P f ts h0 n0 post){ρ:Nat->Nat}{h:Hp}{n:Nat}
  (hid:T.aO (fun i=>(h0 i).isSome=true) ts) (abT: ∀ i ob,h0 i=some ob->T.aO (fun i=>(h0 i).isSome=true) ob.l/\Z4 ob.k ob.l=true) (hn0:h0 n0=none)
  (hpl: ∀ i ob,h0 i=some ob->h (ρ i)=some (ob.ren ρ)) (inj: ∀ i j,(h0 i).isSome=true->(h0 j).isSome=true->ρ i=ρ j->i=j) :
  aP P f (T.dF ρ ts) h n fun t' h'=> ∃ t h1,post t h1/\t'=t.ren (nameAt ρ n0 n)/\h'=placed ρ n0 n h0 h h1:=by
 obtain⟨⟨t0,h0',hp0⟩,hcl,hcall⟩:=H;refine⟨⟨_,_,t0,h0',hp0,rfl,rfl⟩,hcl,fun F M E vs hk he hts _ hm hn=>?_⟩;subst he;have hLn: ∀ i,(h0 i).isSome=true->i≠n0:=fun i hi e=>by subst e; rw[hn0] at hi; cases hi
 have Gt: ∀ i,(h0 i).isSome=true->nameAt ρ n0 n i=ρ i:=fun i hi=>bB (hLn i hi)
 have Ld:nameAt ρ n0 n n0=n:=bc rfl;have Wj: ∀ i,(h0 i).isSome=true->M (ρ i):=fun i hi=>by
  obtain⟨ob,h2⟩:=am.1 hi;exact(hm _ _ (hpl i ob h2)).1
 refine Sv (N0:=fun i=>i=n0) (N:=fun i=>i=n) (fun F M E vs a b c d e g=>hcall F M E vs a b c d e fun h=>hLn _ (g _ h) rfl) hid abT hpl Gt (fun i e=>by subst e; exact Ld) inj ?_ hk hts hm fun i hi e=>hn (e▸hi)
 intro i j hi hj e;rcases hi with hi|rfl<;>rcases hj with hj|rfl
 ·rw[Gt i hi,Gt j hj] at e; exact inj i j hi hj e
 ·rw[Gt i hi,Ld] at e; exact absurd (e▸Wj i hi) hn
 ·rw[Gt j hj,Ld] at e; exact absurd (e▸Wj j hj) hn
 ·rfl
theorem jr.place{f:FuncId}{ts:List T}{h0:Hp}{n0 k:Nat}{post:T->Hp->Prop}(H:jr P f ts h0 n0 k post){ρ:Nat->Nat}{h:Hp}{n:Nat}
  (hid:T.aO (fun i=>(h0 i).isSome=true) ts) (abT: ∀ i ob,h0 i=some ob->T.aO (fun i=>(h0 i).isSome=true) ob.l/\Z4 ob.k ob.l=true) (hn0: ∀ i,(h0 i).isSome=true->i<n0)
  (hpl: ∀ i ob,h0 i=some ob->h (ρ i)=some (ob.ren ρ)) (inj: ∀ i j,(h0 i).isSome=true->(h0 j).isSome=true->ρ i=ρ j->i=j) :
  jr P f (T.dF ρ ts) h n k fun t' h'=> ∃ t h1,post t h1/\t'=t.ren (CO ρ n0 k n)/\h'=Z7 ρ n0 k n h0 h h1:=by
 obtain⟨⟨t0,h0',hp0⟩,hcl,hcall⟩:=H;refine⟨⟨_,_,t0,h0',hp0,rfl,rfl⟩,hcl,fun F M E vs hk he hts _ hm hn=>?_⟩;subst he;have Gt: ∀ i,(h0 i).isSome=true->CO ρ n0 k n i=ρ i:=fun i hi=>bB (by have:=hn0 i hi; omega)
 have Ld: ∀ i,n0<=i/\i<=n0+k->CO ρ n0 k n i=n+(i-n0):=fun i hi=>bc hi
 have Wj: ∀ i,(h0 i).isSome=true->ρ i<n:=fun i hi=>by
  obtain⟨ob,h2⟩:=am.1 hi;exact hn _ (hm _ _ (hpl i ob h2)).1
 refine Sv (N0:=fun i=>n0<=i/\i<=n0+k) (N:=fun i=>n<=i/\i<=n+k) (fun F M E vs a b c d e g=>hcall F M E vs a b c d e fun i hi=>hn0 i (g i hi)) hid abT hpl Gt (fun i e=>by rw[Ld i e]; omega) inj ?_ hk hts hm fun i hi e=>by have:=hn i hi; omega
 intro i j hi hj e;rcases hi with hi|hi<;>rcases hj with hj|hj
 ·rw[Gt i hi,Gt j hj] at e; exact inj i j hi hj e
 ·rw[Gt i hi,Ld j hj] at e; have:=Wj i hi; omega
 ·rw[Gt j hj,Ld i hi] at e; have:=Wj j hj; omega
 ·rw[Ld i hi,Ld j hj] at e; omega
end
end Go.Ab
