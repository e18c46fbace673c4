/-
 The abstract layer, part 8: operations that make or write memory.
-/
import Derived.Laws.MakeOwn
import Derived.Test.YtdhobgbagphngaaGreatDoorLa
namespace Go.Ab
section ops
variable {P:Program} {F:Fr P} {M:Nat->Prop} {E:Env} {s:AS} {a:Act}
theorem tZ.lt{ob:Ob}{v:Value}(h:tZ E ob v){g:Nat}(hg:rowB v=some g):g<E.w.heap.size:=by
 rcases h with ⟨_,⟨ad,rfl,_⟩|⟨g',c,cur,rfl,_,_,hh,_⟩⟩|⟨_,g',es,cl,rfl,hh,_⟩
 ·cases ad<;>simp[rowB] at hg
 ·simp[rowB] at hg; subst hg; exact(Array.getElem?_eq_some_iff.1 hh).1
 ·simp[rowB] at hg; subst hg; exact(Array.getElem?_eq_some_iff.1 hh).1
theorem Ij{E':Env}(hK:Keeps E E' M): ∀ {l:List T} {es:List MapEntry},T.aO M l->fD E l es->fD E' l es:=by
 intro l;induction l with
 |nil=>intro es _ h; exact h
 |cons t ts ih =>
  intro es hid h;simp only[fD] at h ⊢;obtain⟨n,u,e,r,rfl,rfl,h1,h2,h3,h4,h5⟩:=h;simp only[T.aO,T.ids] at hid;exact⟨n,u,e,r,rfl,rfl,h1,h2,h3,fH _ M hK hid.1.2.1 _ h4,ih hid.2 h5⟩
theorem tZ.keep{E':Env}{ob:Ob}{v:Value}(h:tZ E ob v)(hK:Keeps E E' M)(hid:T.aO M ob.l)
  (hg: ∀ g,rowB v=some g->E'.w.heap[g]? =E.w.heap[g]?):tZ E' ob v:=by
 rcases h with ⟨hk,h|⟨g',c,cur,rfl,h1,h2,hh,h3,h4⟩⟩|⟨hk,g',es,cl,rfl,hh,h1⟩
 ·exact .inl ⟨hk,.inl h⟩
 ·exact .inl ⟨hk,.inr ⟨g',c,cur,rfl,h1,h2,by rw[hg g' rfl]; exact hh,h3,dI _ _ _ hK hid _ h4⟩⟩
 ·exact .inr ⟨hk,g',es,cl,rfl,by rw[hg g' rfl]; exact hh,Ij hK hid h1⟩
def Env.obj(E:Env)(w':World)(n:Nat)(v:Value)(ob:Ob)(h0:Hp):Env :=
 {w:=w',S:=E.S,φ:=fun i=>if i=n then v else E.φ i,κ:=fun i=>if i=n then ob.k else E.κ i,h:=upd h0 n (some ob),y:=E.y}
theorem y5{w':World}{n:Nat}{v:Value}{ob:Ob}{h0:Hp}(hn: ¬ M n)(h0': ∀ j oj,h0 j=some oj->E.h j=some oj):Same E (E.obj w' n v ob h0) M:=by
 intro i hi hs;have hne:i≠n:=fun e=>hn (e▸hi)
 simp only[Env.obj,upd,hne,if_false] at hs ⊢;obtain⟨oj,hoj⟩:=Option.isSome_iff_exists.1 hs;rw[h0' i oj hoj]; exact⟨rfl,trivial,trivial⟩
theorem JQ{w':World}{n:Nat}{v:Value}{ob:Ob}{h0:Hp}(hk:qM F E)(hm:mQ M E.h)(hn: ¬ M n)
  (h0': ∀ j oj,h0 j=some oj->E.h j=some oj) (hsize:E.w.heap.size<=w'.heap.size) (hos:w'.os=E.w.os) (htape:w'.tape=E.w.tape) (hout:w'.output=E.w.output) (hdr:E.w.drawn<=w'.drawn)
  (hsame: ∀ g,g<E.w.heap.size->rowB v≠some g->w'.heap[g]? =E.w.heap[g]?)
  (hnew: ∀ g,rowB v=some g->E.w.heap.size<=g\/ ∃ i oi,E.h i=some oi/\h0 i=none/\rowB (E.φ i)=some g)
  (hob:tZ (E.obj w' n v ob h0) ob v) (hsz:0<bg ob.k) :
  qM F (E.obj w' n v ob h0)/\Ext F E (E.obj w' n v ob h0):=by
 have hS: ∀ g,E.S g\/F g->rowB v≠some g:=by
  intro g hg hv;rcases hnew g hv with hge|⟨i,oi,h1,_,h3⟩
  ·rcases hg with hg|hg
   ·have:=hk.slt g hg; omega
   ·have:=hk.flt g hg; omega
  ·have:=hk.out i oi g h1 h3;rcases hg with hg|hg
   ·exact this.1 hg
   ·exact this.2 hg
 have hext:Ext F E (E.obj w' n v ob h0):=by
  refine⟨fun _ h=>h,fun g hg=>hsame g ?_ (hS g hg),hsize,hos,htape,hout,hdr,rfl⟩;rcases hg with hg|hg
  ·exact hk.slt g hg
  ·exact hk.flt g hg
 have hK:Keeps E (E.obj w' n v ob h0) M:=.of hext (y5 hn h0');have hne: ∀ j oj g,h0 j=some oj->rowB (E.φ j)=some g->rowB v≠some g:=by
  intro j oj g hj hg hv;rcases hnew g hv with hge|⟨i,oi,h1,h2,h3⟩
  ·have:=(hk.obs j oj (h0' j oj hj)).1.lt hg; omega
  ·refine hk.sep i j oi oj g ?_ h1 (h0' j oj hj) h3 hg;rintro rfl; rw[h2] at hj; cases hj
 refine⟨⟨?_,?_,?_,fun g hg=>Nat.lt_of_lt_of_le (hk.slt g hg) hsize,fun g hg=>Nat.lt_of_lt_of_le (hk.flt g hg) hsize,hk.sf,hext.gl hk⟩,hext⟩
 ·intro j oj hj;by_cases hjn:j=n
  ·subst hjn;simp only[Env.obj,upd,if_true,Option.some.injEq] at hj;subst hj;exact⟨by simpa [Env.obj] using hob,by simp[Env.obj],hsz⟩
  ·simp only[Env.obj,upd,hjn,if_false] at hj;have hj':=h0' j oj hj;obtain⟨k1,k2,k3⟩:=hk.obs j oj hj';refine⟨?_,by simp[Env.obj,hjn,k2],k3⟩
   have:(E.obj w' n v ob h0).φ j=E.φ j:=by simp[Env.obj,hjn]
   rw[this];exact k1.keep hK (hm j oj hj').2 fun g hg=>hsame g (k1.lt hg) (hne j oj g hj hg)
 ·intro j oj g hj hg;by_cases hjn:j=n
  ·subst hjn;simp only[Env.obj,if_true] at hg;exact⟨fun h=>hS g (.inl h) hg,fun h=>hS g (.inr h) hg⟩
  ·simp only[Env.obj,upd,hjn,if_false] at hj hg;exact hk.out j oj g (h0' j oj hj) hg
 ·intro i j oi oj g hij hi hj hgi hgj;by_cases hin:i=n
  ·subst hin;have hjn:j≠i:=fun e=>hij e.symm
   simp only[Env.obj,upd,hjn,if_false,if_true] at hj hgi hgj;exact hne j oj g hj hgj hgi
  ·by_cases hjn:j=n
   ·subst hjn;simp only[Env.obj,upd,hin,if_false,if_true] at hi hgi hgj;exact hne i oi g hi hgi hgj
   ·simp only[Env.obj,upd,hin,hjn,if_false] at hi hj hgi hgj;exact hk.sep i j oi oj g hij (h0' i oi hi) (h0' j oj hj) hgi hgj
theorem Ov(s:AS)(d:Option Nat)(t:T):(s.put d t).fr=(match d with|some i=>s.fr.set i t|none=>s.fr):=by cases d<;>rfl
theorem oz(s:AS)(d:Option Nat)(t:T):(s.put d t).hp=s.hp:=by cases d<;>rfl
theorem eU(s:AS)(d:Option Nat)(t:T):(s.put d t).nx=s.nx:=by cases d<;>rfl
theorem Vq{t:T}{v:Value}{l:List T}{tmps:Array Value}(h:bF E l tmps.toList)(hv:jo E t v)(d:Option Nat)(df:List Deferred) :
  bF E (match d with|some i=>l.set i t|none=>l) (Act.put {tmps:=tmps,defers:=df} d v).tmps.toList:=by
 cases d with
 |none=>exact h
 |some i=>simpa [Act.put] using GI h i hv
theorem Vr{t:T}{l:List T}(h:T.aO M l)(ht:t.ids M)(d:Option Nat):T.aO M (match d with|some i=>l.set i t|none=>l):=by
 cases d with
 |none=>exact h
 |some i=>exact wR h ht
theorem Act.QB(a:Act)(d:Option Tmp)(v:Value):(a.put d v).defers=a.defers:=by cases d<;>rfl
theorem Rel.put(R:Rel F M E s a){t:T}{v:Value}(ht:t.ids M)(hv:jo E t v)(d:Option Nat):Rel F M E (s.put d t) (a.put d v) where
 hk:=R.hk
 he:=by rw[oz]; exact R.he
 fr:=by rw[Ov]; exact Vq R.fr hv d a.defers
 df:=by rw[Act.QB]; exact R.df
 mf:=by rw[Ov]; exact Vr R.mf ht d
 mh:=by rw[oz]; exact R.mh
theorem Rel.weaken{M':Nat->Prop}(R:Rel F M E s a)(h: ∀ i,M i->M' i):Rel F M' E s a :=
 ⟨R.hk,R.he,R.fr,R.df,T.aB h _ R.mf,fun i ob hi=>⟨h i (R.mh i ob hi).1,T.aB h _ (R.mh i ob hi).2⟩⟩
theorem Rel.next{M':Nat->Prop}{E':Env}(R:Rel F M E s a)(hM: ∀ i,M i->M' i)(hk:qM F E')(hext:Ext F E E')(hs:Same E E' M){t:T}{v:Value}(ht:t.ids M')(hv:jo E' t v)
  (mh:mQ M' E'.h) (d:Option Nat):Rel F M' E' {(s.put d t) with hp:=E'.h} (a.put d v) where
 hk:=hk
 he:=rfl
 fr:=by
  show bF E' (s.put d t).fr _;rw[Ov]; exact Vq (iY _ M (.of hext hs) R.mf _ R.fr) hv d a.defers
 df:=by rw[Act.QB]; exact R.df
 mf:=by
  show T.aO M' (s.put d t).fr;rw[Ov]; exact Vr (T.aB hM _ R.mf) ht d
 mh:=mh
def Bf(F:Fr P)(M:Nat->Prop)(n:Nat)(E:Env)(K:AS->Prop)(a':Act)(w':World):Prop :=
 ∃ E' s',E'.w=w'/\K s'/\Rel F (fun i=>M i\/i=n) E' s' a'/\Ext F E E'/\Same E E' M
theorem Same.refl(E:Env)(M:Nat->Prop):Same E E M:=fun _ _ h=>⟨h,rfl,rfl⟩
theorem Same.trans{E E' E'':Env}{M M':Nat->Prop}(h:Same E E' M)(h':Same E' E'' M')(hM: ∀ i,M i->M' i):Same E E'' M:=fun i hi hs =>
 let ⟨a,b,c⟩:=h' i (hM i hi) hs
 let ⟨a',b',c'⟩:=h i hi a
 ⟨a',b.trans b',c.trans c'⟩
theorem Same.weaken{E E':Env}{M M':Nat->Prop}(h:Same E E' M)(hM: ∀ i,M' i->M i):Same E E' M':=fun i hi=>h i (hM i hi)
theorem JR{h:Hp}{n:Nat}{ob:Ob}(hm:mQ M h)(hid:T.aO (fun i=>M i\/i=n) ob.l):mQ (fun i=>M i\/i=n) (upd h n (some ob)):=by
 intro j oj hj;by_cases hjn:j=n
 ·subst hjn;simp only[upd,if_true,Option.some.injEq] at hj;subst hj;exact⟨.inr rfl,hid⟩
 ·simp only[upd,hjn,if_false] at hj;exact⟨.inl (hm j oj hj).1,T.aB (fun _ h=>.inl h) _ (hm j oj hj).2⟩
theorem uf(w:World)(o:Obj):(w.alloc o).heap[w.heap.size]? =some o:=by
 show(w.heap.push o)[w.heap.size]? =_;simp
theorem jC(w:World)(o:Obj){g:Nat}(h:g<w.heap.size):(w.alloc o).heap[g]? =w.heap[g]? :=by
 show(w.heap.push o)[g]? =_;rw[Array.getElem?_push,if_neg (by omega)]
theorem wZ(w:World)(o:Obj):w.heap.size<=(w.alloc o).heap.size:=by
 show _<=(w.heap.push o).size;simp
theorem I8(R:Rel F M E s a){n:Nat}(hn: ¬ M n){ob:Ob}{cs:Array Value}{c:Nat}(hsz:0<bg ob.k)(hnm:ob.k≠fM)(hc:cs.size=c*bg ob.k)(hl:ob.l.length<=c)(hcm:c<=maxLen)
  (hid:T.aO M ob.l) (hr:aF E ob.k ob.l cs.toList) {K:AS->Prop} {t:T} {d:Option Nat} {v:Value}
  (hv:t= .own n/\v= .slice (some ⟨E.w.heap.size,0,none⟩) ob.l.length c\/t= .ptr n 0 0/\v= .pointer (some ⟨E.w.heap.size,0,none⟩))
  (h:K {(s.put d t) with hp:=upd s.hp n (some ob)}):Bf F M n E K (a.put d v) (E.w.alloc (.cells cs ob.ty)):=by
 have hhm:mQ M E.h:=by rw[R.he]; exact R.mh
 generalize YB:Value.slice (some ⟨E.w.heap.size,0,none⟩) ob.l.length c=rv;have hrow: ∀ g,rowB rv=some g->g=E.w.heap.size:=by
  intro g hg; subst YB;cases c with
  |zero=>simp[rowB] at hg
  |succ c=>simp[rowB] at hg; exact hg.symm
 have hS:=y5 (E:=E) (M:=M) (w':=E.w.alloc (.cells cs ob.ty)) (v:=rv) (ob:=ob) (h0:=E.h) hn (fun _ _ h=>h);have hpre: ∀ g,E.S g->(E.w.alloc (.cells cs ob.ty)).heap[g]? =E.w.heap[g]? :=fun g hg=>jC _ _ (R.hk.slt g hg)
 have hK:Keeps E (E.obj (E.w.alloc (.cells cs ob.ty)) n rv ob E.h) M:=⟨fun _ h=>h,hpre,hS,rfl⟩
 have hob:tZ (E.obj (E.w.alloc (.cells cs ob.ty)) n rv ob E.h) ob rv:=by
  subst YB;cases c with
  |zero=>exact .inl ⟨hnm,.inl ⟨_,by rw[show ob.l.length=0 by omega],List.eq_nil_of_length_eq_zero (by omega)⟩⟩
  |succ c=>exact .inl ⟨hnm,.inr ⟨_,c,cs,rfl,hl,hcm,uf _ _,hc,dI _ _ M hK hid _ hr⟩⟩
 have hok:=JQ (F:=F) R.hk hhm hn (w':=E.w.alloc (.cells cs ob.ty)) (v:=rv) (ob:=ob) (h0:=E.h) (fun _ _ h=>h) (wZ _ _) rfl rfl rfl (Nat.le_refl _)
  (fun g hg _=>jC _ _ hg) (fun g hg=>.inl (by rw[hrow g hg]; exact Nat.le_refl _)) hob hsz
 refine⟨E.obj (E.w.alloc (.cells cs ob.ty)) n rv ob E.h,_,rfl,h,?_,hok.2,hS⟩
 have:=R.next (M':=fun i=>M i\/i=n) (fun _ h=>.inl h) hok.1 hok.2 hS (t:=t) (v:=v) (d:=d) (by rcases hv with ⟨rfl,_⟩|⟨rfl,_⟩<;>exact .inr rfl) ?_
  (JR hhm (T.aB (fun _ h=>.inl h) _ hid))
 ·have e:(E.obj (E.w.alloc (.cells cs ob.ty)) n rv ob E.h).h=upd s.hp n (some ob):=by simp only[Env.obj,R.he]
  rw[e] at this; exact this
 ·rcases hv with ⟨rfl,rfl⟩|⟨rfl,rfl⟩
  ·rw[ay rfl]; simp only[aN];exact⟨_,rfl,fun _=>by simp[Env.obj,<- YB]⟩
  ·rw[ay rfl]; simp only[aN];exact⟨_,rfl,fun _=>⟨E.w.heap.size,ob.l.length,c,by simp[Env.obj,<- YB],by simp⟩⟩
theorem JU{t:T}{v:Value}(hk:qM F E)(h:jo E t v)(h1:t.jW E.h=true):aF E t.kd [t] v.cells.toList:=by
 have hc:=wY hk h h1;have hl:=mg hc;refine wW rfl (by rw[hl,ou]) (CJ hc) ?_;by_cases h0:t.kd=0
 ·rw[Du h0] at hc;simp only[aW] at hc;obtain⟨_,u,r,hu,_,h2,rfl⟩:=hc;rw[hu]; exact h2
 ·rw[wU h0]; exact hc
theorem adW(R:Rel F M E s a){n:Nat}(hn: ¬ M n){ty k:Nat}{x:Operand}{x':X}(hx:aU x=some x'){o:Oper}(ho:o.op= .box ty x)
  {dr:Bool} {K:AS->Prop} {Q:Exit->Act->World->Prop} (h:lU P dr n o.dst (.box ty k x') K s):o.wp P a E.w (Bf F M n E K) Q:=by
 simp only[lU,Bool.and_eq_true,beq_iff_eq] at h;obtain⟨⟨⟨hk,hst⟩,hkp⟩,h⟩:=h;obtain⟨hsz,hnm⟩:=CO hkp;have rx:=bG R hx;rw[<- R.he] at hst;have hrow:=JU R.hk rx hst;have hcl:=mg (wY R.hk rx hst);unfold Oper.wp;have hrun:(execOp a.eval o).run P E.w= .ok (.value (.pointer (some ⟨E.w.heap.size,0,none⟩))) (E.w.alloc (.cells (a.eval x).cells ty)):=by
  simp[execOp,ho,Instr.box,newVar,newRow]
 rw[hrun];refine I8 R hn (ob:=⟨ty,k,[s.ev x']⟩) (c:=1) hsz hnm ?_ (by simp) (by simp[maxLen]) ?_ (by rw[<- hk]; exact hrow) (.inr ⟨rfl,rfl⟩) h
 ·have:=hcl; rw[<- ou,hk] at this; simpa using this
 ·simp only[T.aO]; exact⟨jZ R hx,trivial⟩
theorem adX(R:Rel F M E s a){n:Nat}(hn: ¬ M n){ty:Nat}{o:Oper}(ho:o.op= .makeMap ty none)
  {dr:Bool} {K:AS->Prop} {Q:Exit->Act->World->Prop} (h:lU P dr n o.dst (.Yy ty) K s):o.wp P a E.w (Bf F M n E K) Q:=by
 simp only[lU] at h;have hrun:(execOp a.eval o).run P E.w= .ok (.value (.map (some E.w.heap.size))) (E.w.alloc (.map #[] 0)):=by
  simp[execOp,ho,Instr.makeMap]
 unfold Oper.wp;rw[hrun];show Bf F M n E K (a.put o.dst (.map (some E.w.heap.size))) (E.w.alloc (.map #[] 0));have hhm:mQ M E.h:=by rw[R.he]; exact R.mh
 have hS:=y5 (E:=E) (M:=M) (w':=E.w.alloc (.map #[] 0)) (v:=.map (some E.w.heap.size)) (ob:=⟨ty,fM,[]⟩) (h0:=E.h) hn (fun _ _ h=>h)
 have hob:tZ (E.obj (E.w.alloc (.map #[] 0)) n (.map (some E.w.heap.size)) ⟨ty,fM,[]⟩ E.h) ⟨ty,fM,[]⟩ (.map (some E.w.heap.size)) :=
  .inr ⟨rfl,E.w.heap.size,#[],0,rfl,uf _ _,by simp[fD]⟩
 have hok:=JQ (F:=F) R.hk hhm hn (w':=E.w.alloc (.map #[] 0)) (v:=.map (some E.w.heap.size)) (ob:=⟨ty,fM,[]⟩) (h0:=E.h) (fun _ _ h=>h) (wZ _ _) rfl rfl rfl (Nat.le_refl _)
  (fun g hg _=>jC _ _ hg) (fun g hg=>.inl (by simp[rowB] at hg; omega)) hob (by simp[bg])
 refine⟨E.obj (E.w.alloc (.map #[] 0)) n (.map (some E.w.heap.size)) ⟨ty,fM,[]⟩ E.h,_,rfl,h,?_,hok.2,hS⟩
 have:=R.next (M':=fun i=>M i\/i=n) (fun _ h=>.inl h) hok.1 hok.2 hS (t:=.own n) (v:=.map (some E.w.heap.size)) (d:=o.dst) (.inr rfl) ?_
  (JR hhm (by simp[T.aO]))
 ·have e:(E.obj (E.w.alloc (.map #[] 0)) n (.map (some E.w.heap.size)) ⟨ty,fM,[]⟩ E.h).h=upd s.hp n (some ⟨ty,fM,[]⟩):=by simp only[Env.obj,R.he]
  rw[e] at this; exact this
 ·rw[ay rfl]; simp only[aN];exact⟨_,rfl,fun _=>by simp[Env.obj]⟩
theorem fF{t:T}:t.free=true->t.ids (fun _=>False):=by
 apply T.rec (motive_1:=fun t=>t.free=true->t.ids (fun _=>False)) (motive_2:=fun l=>T.bZ l=true->T.aO (fun _=>False) l);all_goals simp_all[T.free,T.bZ,T.ids,T.aO]
theorem cu: ∀ {l:List T},T.bZ l=true->T.aO (fun _=>False) l:=by
 intro l;induction l with
 |nil=>intro _; simp[T.aO]
 |cons t ts ih=>intro h; simp only[T.bZ,Bool.and_eq_true] at h; simp only[T.aO]; exact⟨fF h.1,ih h.2⟩
theorem uK{z:Value}(h:jQ z=true):aF E (Aj z).kd [Aj z] z.cells.toList/\z.cells.size=bg (Aj z).kd:=by
 have h1: ∀ v∈z.cells.toList,v.oneCell'=true:=fun v hv=>by
  simp only[jQ,Array.all_eq_true_iff_forall_mem] at h;exact h v (by simpa using hv)
 cases z with
 |agg cs =>
  have hl:cs.toList.length=bg (Aj (.agg cs)).kd:=by simp[Aj,T.kd,bg]
  refine⟨wW rfl hl h1 ?_,by simpa [Value.cells] using hl⟩;simp only[Aj,aN]; exact CP h1
 |_ =>
  rw[Ub (by intro cs hcs; cases hcs)];refine⟨wW rfl (by rw[JL]; rfl) h1 EY,by rw[JL]; rfl⟩
theorem afq(R:Rel F M E s a){n:Nat}(hn: ¬ M n){ty k:Nat}{z:Value}(hz:zeroOf P ty=some z)(hok:jQ z=true){o:Oper}(ho:o.op= .alloc ty)
  {dr:Bool} {K:AS->Prop} {Q:Exit->Act->World->Prop} (h:lU P dr n o.dst (.al ty k (Aj z)) K s):o.wp P a E.w (Bf F M n E K) Q:=by
 simp only[lU,Bool.and_eq_true,beq_iff_eq] at h;obtain⟨⟨⟨⟨hk,_⟩,hfree⟩,hkp⟩,h⟩:=h;obtain⟨hsz,hnm⟩:=CO hkp;obtain⟨hrow,hcs⟩:=uK (E:=E) hok;unfold Oper.wp;have hrun:(execOp a.eval o).run P E.w= .ok (.value (.pointer (some ⟨E.w.heap.size,0,none⟩))) (E.w.alloc (.cells z.cells ty)):=by
  unfold zeroOf at hz;cases hi:P.info? ty with
  |none=>simp[hi] at hz
  |some it =>
   have hz':it.zero=some z:=by simpa [hi] using hz
   simp[execOp,ho,Instr.alloc,zeroValue,typeInfo,hi,hz',newVar,newRow]
 rw[hrun];refine I8 R hn (ob:=⟨ty,k,[Aj z]⟩) (c:=1) hsz hnm (by rw[hcs,hk]; simp) (by simp) (by simp[maxLen]) ?_ (by rw[<- hk]; exact hrow) (.inr ⟨rfl,rfl⟩) h;simp only[T.aO]; exact⟨T.aZ (fun _ hf=>hf.elim) _ (fF hfree),trivial⟩
theorem nS{k:Nat}{t:T}{vs:List Value}(h:aF E k [t] vs)(hl:vs.length=bg k): ∀ (n:Nat) (ws:List Value),(∀ i,i<n*bg k->ws[i]? =vs[i % bg k]?)->aF E k (List.replicate n t) ws:=by
 have hpos:bg k=0\/0<bg k:=by omega
 simp only[aF] at h;obtain⟨hk,_,h1,h2,_⟩:=h;have hv:vs.take (bg k)=vs:=by rw[<- hl,List.take_length]
 rw[hv] at h1 h2;intro n;induction n with
 |zero=>intro ws _; simp[aF]
 |succ n ih =>
  intro ws hw;rw[Nat.add_mul,Nat.one_mul] at hw;have ht:ws.take (bg k)=vs:=by
   rw[<- hv];refine wV fun i hi=>?_
   rw[hw i (by omega),Nat.mod_eq_of_lt hi]
  rw[List.replicate_succ];simp only[aF];refine⟨hk,?_,by rw[ht]; exact h1,by rw[ht]; exact h2,ih _ fun i hi=>?_⟩
  ·have:=congrArg List.length ht; simp only[List.length_take] at this; omega
  ·rw[List.getElem?_drop,hw _ (by omega),Nat.add_mod_left]
theorem GU(z:Array Value)(n:Nat)(i:Nat)(h:i<n)(hz:0<z.size):((Array.range n).map (z[· % z.size]!)).toList[i]? =z.toList[i % z.size]? :=by
 have:i % z.size<z.size:=Nat.mod_lt _ hz
 simp[h,this]
theorem aby(R:Rel F M E s a){n:Nat}(hn: ¬ M n){ty e k:Nat}{i:TypeInfo}{z:Value}{x y:Operand}{x' y':X}(hx:aU x=some x')(hy:aU y=some y')
  (he:elemOf P ty=some e) (hkd:kindOf P e=some k) (hi:P.info? e=some i) (hz:i.zero=some z) (hok:jQ z=true) {o:Oper} (ho:o.op= .makeSlice ty x y)
  {dr:Bool} {K:AS->Prop} {Q:Exit->Act->World->Prop} (h:lU P dr n o.dst (.make e k i.bytes (Aj z) x' y') K s):o.wp P a E.w (Bf F M n E K) Q:=by
 have rx:=bG R hx; have ry:=bG R hy;simp only[lU] at h;split at h
 ·rename_i k1 l k2 c e1 e2;rw[e1,aK] at rx; rw[e2,aK] at ry;simp only[Bool.and_eq_true,beq_iff_eq] at h;obtain⟨⟨⟨⟨hk,_⟩,hfree⟩,hkp⟩,⟨h0,h1,h2,h3⟩,h⟩:=h;obtain⟨hsz,hnm⟩:=CO hkp;obtain⟨hrow,hcs⟩:=uK (E:=E) hok;have hsize:i.size=bg k:=by
   obtain⟨i',d,g1,_,g3,_⟩:=vX hkd;rw[hi] at g1; cases g1; exact g3
  generalize hcells:madeCells z.cells (c.toNat*bg k)=cs;have hrun:(execOp a.eval o).run P E.w= .ok (.value (.slice (some ⟨E.w.heap.size,0,none⟩) l.toNat c.toNat)) (E.w.alloc (.cells cs e)):=by
   have hm:=run_make (P:=P) E.w ty e i z (vY he) hi hz k1 k2 l c h0 h1 (by rw[Int.mul_comm]; omega) (by omega);rw[hsize,hcells] at hm;simp only[execOp,ho,rx,ry,Sem.run_bind,hm,Result.andThen_ok,Sem.run_pure]
  unfold Oper.wp;rw[hrun];have hcsz:cs.size=c.toNat*bg k:=by rw[<- hcells]; exact size_madeCells _ _
  refine I8 R hn (ob:=⟨e,k,List.replicate l.toNat (Aj z)⟩) (c:=c.toNat) hsz hnm hcsz (by simp; omega) (by simp only[maxLen]; omega) ?_ ?_ (.inl ⟨rfl,by simp⟩) h
  ·exact bK.2 fun t ht=>by rw[List.eq_of_mem_replicate ht]; exact T.aZ (fun _ hf=>hf.elim) _ (fF hfree)
  ·rw[hk] at hrow hcs;refine nS hrow (by simpa using hcs) _ _ fun j hj=>?_
   have hj':j<c.toNat*bg k:=Nat.lt_of_lt_of_le hj (Nat.mul_le_mul_right _ (by omega));rw[<- hcells,madeCells,GU z.cells _ j hj' (by omega),hcs]
 ·exact h.elim
theorem adY(R:Rel F M E s a){n:Nat}{ty k:Nat}{l:List T}{cs:Array Value}{f:Bool}(hid:T.aO (fun _=>False) l)(hr:aF E k l cs.toList)
  {K:AS->Prop} {d:Option Nat} (h:K (s.put d (.sl k f l))) :
  Bf F M n E K (a.put d (.slice (some ⟨E.w.heap.size,0,none⟩) l.length l.length)) (E.w.alloc (.cells cs ty)):=by
 generalize hw:E.w.alloc (.cells cs ty)=w';have hold: ∀ g,g<E.w.heap.size->w'.heap[g]? =E.w.heap[g]? :=fun g hg=>by rw[<- hw]; exact jC _ _ hg
 have hlast:w'.heap[E.w.heap.size]? =some (.cells cs ty):=by rw[<- hw]; exact uf _ _
 have hsz:w'.heap.size=E.w.heap.size+1:=by rw[<- hw]; simp
 let E':Env:= {E with w:=w',S:=fun g=>E.S g\/g=E.w.heap.size}
 have hext:Ext F E E':=by
  refine⟨fun g hg=>.inl hg,fun g hg=>hold g ?_,by show _<=w'.heap.size; omega,by show w'.os=_; rw[<- hw]; rfl,by show w'.tape=_; rw[<- hw]; rfl,by show w'.output=_; rw[<- hw]; rfl,by show _<=w'.drawn; rw[<- hw]; exact Nat.le_refl _,rfl⟩;rcases hg with hg|hg
  ·exact R.hk.slt g hg
  ·exact R.hk.flt g hg
 have hs:Same E E' M:=fun i _ h=>⟨h,rfl,rfl⟩
 have hK:Keeps E E' M:=.of hext hs;have hhm:mQ M E.h:=by rw[R.he]; exact R.mh
 have hok:qM F E':=by
  refine⟨fun i ob hi=>?_,fun i ob g hi hg=>?_,R.hk.sep,fun g hg=>?_,fun g hg=>?_,fun g hg hf=>?_,?_⟩
  ·obtain⟨k1,k2,k3⟩:=R.hk.obs i ob hi;exact⟨k1.keep hK (hhm i ob hi).2 fun g hg=>hold g (k1.lt hg),k2,k3⟩
  ·have:=R.hk.out i ob g hi hg;refine⟨fun h=>?_,this.2⟩;rcases h with h|h
   ·exact this.1 h
   ·have:=(R.hk.obs i ob hi).1.lt hg; omega
  ·show g<w'.heap.size;rcases hg with hg|hg
   ·have:=R.hk.slt g hg; omega
   ·omega
  ·show g<w'.heap.size;have:=R.hk.flt g hg; omega
  ·rcases hg with hg|hg
   ·exact R.hk.sf g hg hf
   ·have:=R.hk.flt g hf; omega
  ·exact hext.gl R.hk
 refine⟨E',_,rfl,h,?_,hext,hs⟩
 have:=R.next (M':=fun i=>M i\/i=n) (fun _ h=>.inl h) hok hext hs (t:=.sl k f l) (v:=.slice (some ⟨E.w.heap.size,0,none⟩) l.length l.length) (d:=d) (by simp[T.ids]) ?_
  (fun i ob hi=>⟨.inl (hhm i ob hi).1,T.aB (fun _ h=>.inl h) _ (hhm i ob hi).2⟩)
 ·have e:({(s.put d (.sl k f l)) with hp:=E'.h}:AS)=s.put d (.sl k f l):=by
   show({(s.put d (.sl k f l)) with hp:=E.h}:AS)=_;rw[R.he]; cases d<;>rfl
  rw[e] at this; exact this
 ·rw[ay rfl]; simp only[aN];refine⟨_,_,rfl,Nat.le_refl _,fun _=>rfl,.inr ⟨_,0,cs,ty,(0,0),rfl,.inr rfl,hlast,hid,?_⟩⟩;simpa using dI _ _ _ hK.no hid _ hr
theorem y7(R:Rel F M E s a): ∀ {ps:List (Nat×Operand)} {ps':List (Nat×X)},kF ps=some ps'->wQ s.hp (ps'.map fun p=>s.ev p.2)=true ->
   Qx (fun(p:Nat×Value) (q:Nat×T)=>p.1=q.1/\jo E q.2 p.2/\q.2.jW E.h=true) (ps.map fun p=>(p.1,a.eval p.2)) (ps'.map fun p=>(p.1,s.ev p.2)):=by
 intro ps;induction ps with
 |nil=>intro ps' h _; cases h; exact .nil
 |cons p ps ih =>
  intro ps' h hst;obtain⟨i,x⟩:=p;simp only[kF] at h;split at h
  ·rename_i x' r' h1 h2;cases h;simp only[List.map_cons,wQ,Bool.and_eq_true] at hst;exact .cons ⟨rfl,bG R h1,by rw[R.he]; exact hst.1⟩ (ih h2 hst.2)
  ·cases h
theorem LV(R:Rel F M E s a): ∀ {ps:List (Nat×Operand)} {ps':List (Nat×X)},kF ps=some ps'->wQ s.hp (ps'.map fun p=>s.ev p.2)=true ->
   Qx (fun(p:Nat×Value) (q:Nat×Nat×T)=>some (p.1*1,1)=some (q.1,q.2.1)/\jo E q.2.2 p.2/\q.2.2.jW E.h=true) (ps.map fun p=>(p.1,a.eval p.2)) (ps'.map fun p=>(p.1,1,s.ev p.2)):=by
 intro ps;induction ps with
 |nil=>intro ps' h _; cases h; exact .nil
 |cons p ps ih =>
  intro ps' h hst;obtain⟨i,x⟩:=p;simp only[kF] at h;split at h
  ·rename_i x' r' h1 h2;cases h;simp only[List.map_cons,wQ,Bool.and_eq_true] at hst;exact .cons ⟨by simp,bG R h1,by rw[R.he]; exact hst.1⟩ (ih h2 hst.2)
  ·cases h
theorem afr(R:Rel F M E s a){ty n e:Nat}{parts:Array (Nat×Operand)}{cs:Array Value}{ps:List (Nat×X)}{o:Oper}
  (ho:o.op= .build ty parts) (hu:P.underlying ty=some (.array n e)) (hz:zeroOf P ty=some (.agg cs)) (hk:kindOf P e=some 0) (hc:kF parts.toList=some ps)
  (hok:jQ (.agg cs)=true) (h:qc s (.mk (cs.toList.map JJ) (ps.map fun p=>(p.1,1,p.2)))):qY P E a o (qt s (.mk (cs.toList.map JJ) (ps.map fun p=>(p.1,1,p.2)))):=by
 simp only[qc,Bool.and_eq_true,List.map_map,Function.comp_def] at h;have hF:=LV R hc h.2;have hzr:aW E (cs.toList.map JJ) cs.toList:=CP fun v hv=>by
  simp only[jQ,Value.cells,Array.all_eq_true_iff_forall_mem] at hok;exact hok v (by simpa using hv)
 obtain⟨cs',h1,h2⟩:=QA R.hk (fun i=>some (i*1,1)) _ _ _ cs hF hzr h.1;obtain⟨ie,d,k1,_,k3,_⟩:=vX hk;have hsz:ie.size=1:=k3;have hb:P.built ty ((parts.map fun(i,x)=>(i,a.eval x)).toList)=some cs':=by
  unfold zeroOf at hz;cases hi:P.info? ty with
  |none=>simp[hi] at hz
  |some it =>
   have hz':it.zero=some (.agg cs):=by simpa [hi] using hz
   simp only[Program.built,hi,hu,hz',k1,hsz,Value.cells];simpa using h1
 refine⟨.agg cs',?_,?_⟩
 ·simp only[execOp,ho,Sem.run_bind,run_build E.w ty _ cs' hb,Result.andThen_ok,Sem.run_pure]
 ·simp only[qt,List.map_map,Function.comp_def]; rw[yV]; exact⟨cs',rfl,h2⟩
theorem Nb(hk:qM F E){k n:Nat}: ∀ (ps:List (Nat×Value)) (qs:List (Nat×T)) (z:List T) (cs:Array Value),
  Qx (fun(p:Nat×Value) (q:Nat×T)=>p.1=q.1/\jo E q.2 p.2/\q.2.jW E.h=true) ps qs->aF E k z cs.toList->z.length=n->cs.size=n*bg k->JC k n qs=true ->
  ∃ cs',Instr.fill (fun i=>some (i*bg k,bg k)) cs ps=some cs'/\aF E k (rU z qs) cs'.toList:=by
 intro ps;induction ps with
 |nil=>intro qs z cs h hz _ _ _; cases h; exact⟨cs,rfl,hz⟩
 |cons p ps ih =>
  intro qs z cs h hz hl hcs hf;obtain⟨i,v⟩:=p;cases h with
  |cons hpq hrest =>
   rename_i q qs;obtain⟨j,t⟩:=q;obtain⟨h1,h2,h3⟩:=hpq;simp only at h1;subst h1;simp only[JC,Bool.and_eq_true,beq_iff_eq,Nat.blt_eq] at hf;obtain⟨⟨hf1,hf2⟩,hf3⟩:=hf;have hc:=wY hk h2 h3;have hrow:=JU hk h2 h3;have hlen:=mg hc;simp only[Array.length_toList] at hlen;rw[<- ou,hf1] at hlen;have hfit:i*bg k+bg k<=cs.size:=by
    rw[hcs]
    have:(i+1)*bg k<=n*bg k:=Nat.mul_le_mul_right _ hf2
    rw[Nat.add_mul] at this; omega
   simp only[Instr.fill,rU];rw[if_neg (by simp; omega)];have hst:=MZ (i*bg k) v cs (by omega);generalize Array.foldl (fun(cs:Array Value) (x:Value×Nat)=>cs.setIfInBounds (i*bg k+x.2) x.1) cs v.cells.zipIdx=cs1 at hst ⊢;have hl1:cs1.toList.length=cs.toList.length:=by
    rw[hst]; simp only[List.length_append,List.length_take,List.length_drop,Array.length_toList]; omega
   have hmid:(cs1.toList.drop (i*bg k)).take (bg k)=v.cells.toList:=by
    rw[hst,List.append_assoc,List.drop_append_of_le_length (by simp; omega)];rw[List.drop_of_length_le (by simp; omega),List.nil_append];rw[List.take_append_of_le_length (by simp; omega),List.take_of_length_le (by simp; omega)]
   refine ih _ _ _ hrest ?_ (by simpa using hl) (by simp only[Array.length_toList] at hl1; omega) hf3;refine Ig hz hf1 (by omega) hl1 ?_ ?_ ?_
   ·rw[hmid]; exact CJ hc
   ·rw[hmid];simp only[aF] at hrow;obtain⟨_,_,_,hr,_⟩:=hrow;rw[hf1,List.take_of_length_le (by simp; omega)] at hr; exact hr
   ·intro m hm;rw[hst];rcases hm with hm|hm
    ·rw[List.append_assoc,List.getElem?_append_left (by simp; omega),List.getElem?_take_of_lt hm]
    ·rw[List.getElem?_append_right (by simp; omega),List.getElem?_drop]
     congr 1
     simp only[List.length_append,List.length_take,Array.length_toList]; omega
theorem JV: ∀ {qs:List (Nat×T)} {z:List T},T.aO M z->T.aO M (qs.map fun q=>q.2)->T.aO M (rU z qs):=by
 intro qs;induction qs with
 |nil=>intro z h _; exact h
 |cons q qs ih =>
  obtain⟨j,t⟩:=q;intro z h h';simp only[List.map_cons,T.aO] at h';exact ih (wR h h'.1) h'.2
theorem Dw: ∀ {qs:List (Nat×T)} {z:List T},(rU z qs).length=z.length:=by
 intro qs;induction qs with
 |nil=>intro z; rfl
 |cons q qs ih=>obtain⟨j,t⟩:=q; intro z; simp only[rU]; rw[ih]; simp
theorem afs(R:Rel F M E s a){n:Nat}{ty e k len:Nat}{z:Value}{parts:Array (Nat×Operand)}{ps:List (Nat×X)}(he:elemOf P ty=some e)(hps:kF parts.toList=some ps)
  (hkd:kindOf P e=some k) (hz:zeroOf P e=some z) (hok:jQ z=true) {o:Oper} (ho:o.op= .buildSlice ty len parts)
  {K:AS->Prop} {Q:Exit->Act->World->Prop} (hq:qc s (.ms e k (Aj z) len ps)) (h:K (s.put o.dst (qt s (.ms e k (Aj z) len ps)))):o.wp P a E.w (Bf F M n E K) Q:=by
 simp only[qc,Bool.and_eq_true,beq_iff_eq,Nat.blt_eq,Nat.ble_eq] at hq;obtain⟨⟨⟨⟨⟨⟨hk,hzf⟩,hset⟩,hst⟩,hfree⟩,hbig⟩,hsz⟩:=hq;obtain⟨hrow,hcs⟩:=uK (E:=E) hok;rw[hk] at hrow hcs;simp only[qt] at h;have hF:=y7 R hps hst;generalize hcells:(Array.range (len*bg k)).map (fun j=>z.cells[j % z.cells.size]!)=cs0;have hz0:aF E k (List.replicate len (Aj z)) cs0.toList:=by
  refine nS hrow (by simpa using hcs) _ _ fun j hj=>?_
  rw[<- hcells,GU z.cells _ j hj (by omega),hcs]
 obtain⟨cs',h1,h2⟩:=Nb R.hk _ _ _ cs0 hF hz0 (by simp) (by rw[<- hcells]; simp) hset;have hlen:(rU (List.replicate len (Aj z)) (ps.map fun p=>(p.1,s.ev p.2))).length=len:=by rw[Dw]; simp
 have hrun:(execOp a.eval o).run P E.w= .ok (.value (.slice (some ⟨E.w.heap.size,0,none⟩) len len)) (E.w.alloc (.cells cs' e)):=by
  have Y8: ¬ (len*bg k>2 ^ 24):=by omega
  unfold zeroOf at hz;cases hi:P.info? e with
  |none=>simp[hi] at hz
  |some it =>
   have hz':it.zero=some z:=by simpa [hi] using hz
   have hzv:(zeroValue e).run P E.w= .ok z E.w:=by simp[zeroValue,typeInfo,hi,hz']
   have h1':Instr.fill (fun i=>some (i*bg k,bg k)) cs0 (parts.map fun(i,x)=>(i,a.eval x)).toList=some cs':=by simpa using h1
   by_cases h0:len*bg k=0
   ·have hc0:(Array.range 0).map (fun x=>(#[]:Array Value)[x % (#[]:Array Value).size]!)=cs0:=by rw[<- hcells,h0]; simp[Array.range_zero']
    have hg0: ¬ (0>2 ^ 24):=by omega
    simp only[execOp,ho,Instr.buildSlice,underlying,Sem.run_bind,run_program,Result.andThen_ok,vY he,Sem.run_pure,gJ hkd,h0,hg0,if_false,if_true,hc0,h1',newRow,run_newObj];rfl
   ·simp only[execOp,ho,Instr.buildSlice,underlying,Sem.run_bind,run_program,Result.andThen_ok,vY he,Sem.run_pure,gJ hkd,Y8,if_false,h0,hzv,hcells,h1',newRow,run_newObj];rfl
 unfold Oper.wp;rw[hrun]
 have:=adY R (n:=n) (ty:=e) (f:=true) (JV (bK.2 fun t ht=>by rw[List.eq_of_mem_replicate ht]; exact fF hzf) (by
  have:=cu hfree; simpa [Function.comp_def] using this)) h2 h
 rw[hlen] at this;exact this
theorem WX{place:Nat->Option (Nat×Nat)}: ∀ {ps:List (Nat×Value)} {cs cs':Array Value},Instr.fill place cs ps=some cs'->cs'.size=cs.size:=by
 intro ps;induction ps with
 |nil=>intro cs cs' h; simp only[Instr.fill] at h; cases h; rfl
 |cons p ps ih =>
  obtain⟨i,v⟩:=p;intro cs cs' h;simp only[Instr.fill] at h;split at h
  ·cases h
  ·split at h
   ·cases h
   ·have:=ih h;rw[this];generalize v.cells.zipIdx=zs
    have: ∀ (l:List (Value×Nat)) (c0:Array Value) (off:Nat),(l.foldl (fun(cs:Array Value) (x:Value×Nat)=>cs.setIfInBounds (off+x.2) x.1) c0).size=c0.size:=by
     intro l;induction l with
     |nil=>intro c0 off; rfl
     |cons x l ih'=>intro c0 off; rw[List.foldl_cons,ih']; simp
    rw[<- Array.foldl_toList];exact this _ _ _
theorem ad1(R:Rel F M E s a){n:Nat}(hn: ¬ M n){ty e k len:Nat}{z:Value}{parts:Array (Nat×Operand)}{ps:List (Nat×X)}(he:elemOf P ty=some e)(hps:kF parts.toList=some ps)(agL:T.aO M (ps.map fun p=>s.ev p.2))
  (hkd:kindOf P e=some k) (hz:zeroOf P e=some z) (hok:jQ z=true) {o:Oper} (ho:o.op= .buildSlice ty len parts)
  {dr:Bool} {K:AS->Prop} {Q:Exit->Act->World->Prop} (h:lU P dr n o.dst (.Gy e k (Aj z) len ps) K s):o.wp P a E.w (Bf F M n E K) Q:=by
 simp only[lU,Bool.and_eq_true,beq_iff_eq,Nat.ble_eq] at h;obtain⟨⟨⟨⟨⟨⟨hk,hzf⟩,hset⟩,hst⟩,hbig⟩,hkp⟩,h⟩:=h;obtain⟨hsz,hnm⟩:=CO hkp;obtain⟨hrow,hcs⟩:=uK (E:=E) hok;rw[hk] at hrow hcs;have hF:=y7 R hps hst;generalize hcells:(Array.range (len*bg k)).map (fun j=>z.cells[j % z.cells.size]!)=cs0;have hz0:aF E k (List.replicate len (Aj z)) cs0.toList:=by
  refine nS hrow (by simpa using hcs) _ _ fun j hj=>?_
  rw[<- hcells,GU z.cells _ j hj (by omega),hcs]
 obtain⟨cs',h1,h2⟩:=Nb R.hk _ _ _ cs0 hF hz0 (by simp) (by rw[<- hcells]; simp) hset;have hsize:cs'.size=len*bg k:=by rw[WX h1,<- hcells]; simp
 have hlen:(rU (List.replicate len (Aj z)) (ps.map fun p=>(p.1,s.ev p.2))).length=len:=by rw[Dw]; simp
 have hrun:(execOp a.eval o).run P E.w= .ok (.value (.slice (some ⟨E.w.heap.size,0,none⟩) len len)) (E.w.alloc (.cells cs' e)):=by
  have Y8: ¬ (len*bg k>2 ^ 24):=by omega
  unfold zeroOf at hz;cases hi:P.info? e with
  |none=>simp[hi] at hz
  |some it =>
   have hz':it.zero=some z:=by simpa [hi] using hz
   have hzv:(zeroValue e).run P E.w= .ok z E.w:=by simp[zeroValue,typeInfo,hi,hz']
   have h1':Instr.fill (fun i=>some (i*bg k,bg k)) cs0 (parts.map fun(i,x)=>(i,a.eval x)).toList=some cs':=by simpa using h1
   by_cases h0:len*bg k=0
   ·have hc0:(Array.range 0).map (fun x=>(#[]:Array Value)[x % (#[]:Array Value).size]!)=cs0:=by rw[<- hcells,h0]; simp[Array.range_zero']
    have hg0: ¬ (0>2 ^ 24):=by omega
    simp only[execOp,ho,Instr.buildSlice,underlying,Sem.run_bind,run_program,Result.andThen_ok,vY he,Sem.run_pure,gJ hkd,h0,hg0,if_false,if_true,hc0,h1',newRow,run_newObj];rfl
   ·simp only[execOp,ho,Instr.buildSlice,underlying,Sem.run_bind,run_program,Result.andThen_ok,vY he,Sem.run_pure,gJ hkd,Y8,if_false,h0,hzv,hcells,h1',newRow,run_newObj];rfl
 unfold Oper.wp;rw[hrun]
 have:=I8 R hn (ob:=⟨e,k,rU (List.replicate len (Aj z)) (ps.map fun p=>(p.1,s.ev p.2))⟩) (c:=len) (cs:=cs') (t:=.own n) (d:=o.dst) (v:=.slice (some ⟨E.w.heap.size,0,none⟩) len len) hsz hnm ?_ (by rw[hlen]; exact Nat.le_refl _) ?_
  (JV (bK.2 fun t ht=>by rw[List.eq_of_mem_replicate ht]; exact T.aZ (fun _ hf=>hf.elim) _ (fF hzf)) (by simpa [Function.comp_def] using agL)) h2 (.inl ⟨rfl,by rw[hlen]⟩) h
 ·exact this
 ·exact hsize
 ·simp only[maxLen];have h3:len*1<=len*bg k:=Nat.mul_le_mul_left len hsz;omega
end ops
section ops
variable {P:Program} {F:Fr P} {M:Nat->Prop} {E:Env} {s:AS} {a:Act}
theorem D8{cur:List Value}{off:Nat}{vs:List Value}(h:off+vs.length<=cur.length) :
  (cur.take off++vs++cur.drop (off+vs.length)).length=cur.length /\
  ((cur.take off++vs++cur.drop (off+vs.length)).drop off).take vs.length=vs /\
  ∀ i,i<off\/off+vs.length<=i->(cur.take off++vs++cur.drop (off+vs.length))[i]? =cur[i]? :=by
 refine⟨by simp only[List.length_append,List.length_take,List.length_drop]; omega,?_,?_⟩
 ·rw[List.append_assoc,List.drop_append_of_le_length (by simp; omega),List.drop_of_length_le (by simp; omega),List.nil_append,
   List.take_append_of_le_length (Nat.le_refl _),List.take_length]
 ·intro i hi;rcases hi with hi|hi
  ·rw[List.append_assoc,List.getElem?_append_left (by simp; omega),List.getElem?_take_of_lt hi]
  ·rw[List.getElem?_append_right (by simp; omega),List.getElem?_drop]
   congr 1
   simp only[List.length_append,List.length_take]; omega
theorem aft(R:Rel F M E s a){n:Nat}{ty k:Nat}{x v:Operand}{x' v':X}(hx:aU x=some x')(hv:aU v=some v')(hkd:kindOf P ty=some k){o:Oper}(ho:o.op= .store ty x v)(hd:o.dst=none)
  {dr:Bool} {K:AS->Prop} {Q:Exit->Act->World->Prop} (h:lU P dr n o.dst (.st k x' v') K s):o.wp P a E.w (Bf F M n E K) Q:=by
 have rx:=bG R hx; have rv:=bG R hv;simp only[lU] at h;split at h
 ·rename_i i j off e1;split at h
  ·rename_i ob hob;simp only[Bool.and_eq_true,beq_iff_eq] at h;obtain⟨⟨hvk,hst⟩,hj,hcond,h⟩:=h;rw[e1,ay rfl] at rx;simp only[aN] at rx;obtain⟨u,hu,hlive⟩:=rx;have fA:E.h i=some ob:=by rw[R.he]; exact hob
   obtain⟨b,nn,c,hφ,hu'⟩:=hlive (by rw[fA]; rfl);obtain⟨hok,Gn,hsz⟩:=R.hk.obs i ob fA;have hnm:=(hok.of_slice hφ).2;rcases(hok.of_slice hφ).1 with ⟨ad,_,hnil⟩|⟨g,c',cur,hvv,hc,hcm,hh,hcs,hr⟩
   ·rw[hnil] at hj; simp at hj
   have hbg:b=g:=by rw[hφ] at hvv; simp at hvv; exact hvv.1
   subst hbg;have ha:a.eval x= .pointer (some ⟨b,j*bg ob.k+off,none⟩):=by rw[<- Gn,<- hu']; simpa using hu
   obtain⟨r1,r2,r3,r4⟩:=uJ hr hj;simp only[Array.length_toList] at r2;rw[<- R.he] at hst;have hcells:=wY R.hk rv hst;have hrow:=JU R.hk rv hst;have hone:=CJ hcells;have hlen:=mg hcells;simp only[Array.length_toList] at hlen;have hlen':(a.eval v).cells.size=bg k:=by rw[hlen,<- ou,hvk]
   have hoff:off+bg k<=bg ob.k:=by
    cases hw:(off==0&&ob.k==k) with
    |true=>simp only[Bool.and_eq_true,beq_iff_eq] at hw; obtain⟨rfl,rfl⟩:=hw; omega
    |false=>rw[hw,Bool.false_or,Bool.and_eq_true] at hcond; have:=hcond.2; simpa [oh] using this
   generalize ht:(bif (off==0&&ob.k==k) then s.ev v' else(ob.l.getD j .any).splice off (s.ev v'))=t at h;generalize hcs':cur.toList.take (j*bg ob.k+off)++(a.eval v).cells.toList++cur.toList.drop (j*bg ob.k+off+(a.eval v).cells.toList.length)=cs';have hfit:j*bg ob.k+off+(a.eval v).cells.toList.length<=cur.toList.length:=by simp only[Array.length_toList]; omega
   obtain⟨s1,s2,s3⟩:=D8 hfit;rw[hcs'] at s1 s2 s3;have hrun:(execOp a.eval o).run P E.w= .ok .skip (E.w.setRow b cs'.toArray):=by
    have hs:=run_storeCells_at P b (j*bg ob.k+off) ob.ty (a.eval v).cells.toList 0 cur E.w hh (by simpa using hfit) hone;simp only[Nat.add_zero,hcs'] at hs;simp only[execOp,ho,Instr.storeAt,ha,Instr.sureAddr,Sem.run_bind,Sem.run_pure,Result.andThen_ok,storeVar,gJ hkd,hlen',ne_eq,not_true_eq_false,if_false,hs]
   let E':Env:= {E with w:=E.w.setRow b cs'.toArray,h:=upd E.h i (some ⟨ob.ty,ob.k,ob.l.set j t⟩)}
   have hrb:rowB (E.φ i)=some b:=by rw[hvv]; rfl
   have hbS:=R.hk.out i ob b fA hrb;have hsame: ∀ g,g≠b->(E.w.setRow b cs'.toArray).heap[g]? =E.w.heap[g]? :=fun g hg=>setRow_other _ _ _ _ hg
   have hext:Ext F E E':=by
    refine⟨fun _ h=>h,fun g hg=>hsame g ?_,by show _<=(E.w.setRow b cs'.toArray).heap.size; simp,rfl,rfl,rfl,Nat.le_refl _,rfl⟩;rintro rfl;rcases hg with hg|hg
    ·exact hbS.1 hg
    ·exact hbS.2 hg
   have hS:Same E E' M:=by
    intro m _ hm;refine⟨?_,rfl,rfl⟩;by_cases GV:m=i
    ·subst GV; rw[fA]; rfl
    ·simpa [E',upd,GV] using hm
   have hK:Keeps E E' M:=.of hext hS;have hhm:mQ M E.h:=by rw[R.he]; exact R.mh
   have QC:t.ids M:=by
    rw[<- ht];cases (off==0&&ob.k==k) with
    |true=>exact jZ R hv
    |false =>
     simp only[cond_false,T.splice,T.ids];have he:=vU (d:=.any) (i:=j) (hhm i ob fA).2 (by simp[T.ids]);exact fE.2 ⟨fE.2 ⟨vV (vW he) _,vW (jZ R hv)⟩,yU (vW he) _⟩
   have Uc:t.kd=ob.k/\(∀ v∈(cs'.drop (j*bg ob.k)).take (bg ob.k),v.oneCell'=true)/\aN E t ((cs'.drop (j*bg ob.k)).take (bg ob.k)):=by
    cases hw:(off==0&&ob.k==k) with
    |true =>
     simp only[Bool.and_eq_true,beq_iff_eq] at hw;obtain⟨rfl,rfl⟩:=hw;simp only[beq_self_eq_true,Bool.and_self,cond_true] at ht;subst ht;simp only[Nat.add_zero] at s2;have e1:(a.eval v).cells.toList.length=bg ob.k:=by simpa using hlen'
     rw[e1] at s2;rw[s2];refine⟨hvk,hone,?_⟩;simp only[aF] at hrow;obtain⟨_,_,_,hr',_⟩:=hrow;rw[hvk,List.take_of_length_le (by omega)] at hr'; exact hr'
    |false =>
     rw[hw] at ht;rw[hw,Bool.false_or,Bool.and_eq_true,Bool.not_eq_true',beq_eq_false_iff_ne] at hcond;simp only[cond_false] at ht;subst ht;have adU:(ob.l.getD j .any).kd≠0:=by rw[r1]; exact hcond.1
     have hel:(ob.l.getD j .any).cells.length=bg ob.k:=by rw[<- ou,r1]
     rw[wU adU] at r4
     have hmid:(cs'.drop (j*bg ob.k)).take (bg ob.k) =
       ((cur.toList.drop (j*bg ob.k)).take (bg ob.k)).take off++(a.eval v).cells.toList++((cur.toList.drop (j*bg ob.k)).take (bg ob.k)).drop (off+(s.ev v').cells.length):=by
      apply List.ext_getElem?;intro q;have hvl:(a.eval v).cells.toList.length=bg k:=by simpa using hlen'
      have afu:(s.ev v').cells.length=bg k:=by rw[<- ou,hvk]
      by_cases hq:q<bg ob.k
      ·rw[List.getElem?_take_of_lt hq,List.getElem?_drop,<- hcs'];by_cases hq1:q<off
       ·rw[List.append_assoc,List.getElem?_append_left (by simp; omega),List.getElem?_take_of_lt (by omega)];rw[List.append_assoc,List.getElem?_append_left (by simp; omega),List.getElem?_take_of_lt hq1,List.getElem?_take_of_lt hq,List.getElem?_drop]
       ·by_cases hq2:q<off+bg k
        ·rw[List.append_assoc,List.getElem?_append_right (by simp; omega),List.getElem?_append_left (by simp only[List.length_take,Array.length_toList] at *; omega)];rw[List.append_assoc,List.getElem?_append_right (by simp; omega),List.getElem?_append_left (by simp only[List.length_take,List.length_drop,Array.length_toList] at *; omega)]
         congr 1
         simp only[List.length_take,List.length_drop,Array.length_toList] at *; omega
        ·rw[List.getElem?_append_right (by simp only[List.length_append,List.length_take,Array.length_toList] at *; omega),List.getElem?_drop];rw[List.getElem?_append_right (by simp only[List.length_append,List.length_take,List.length_drop,Array.length_toList] at *; omega),List.getElem?_drop];have hidx:off+(s.ev v').cells.length+(q-(((cur.toList.drop (j*bg ob.k)).take (bg ob.k)).take off++(a.eval v).cells.toList).length)=q:=by
          simp only[List.length_append,List.length_take,List.length_drop,Array.length_toList] at *; omega
         rw[hidx,List.getElem?_take_of_lt hq,List.getElem?_drop]
         congr 1
         simp only[List.length_append,List.length_take,Array.length_toList] at *; omega
      ·rw[List.getElem?_take_eq_none (by omega),List.getElem?_eq_none];simp only[List.length_append,List.length_take,List.length_drop,Array.length_toList] at *; omega
     have hrep:aW E ((ob.l.getD j .any).cells.take off++(s.ev v').cells++(ob.l.getD j .any).cells.drop (off+(s.ev v').cells.length)) ((cs'.drop (j*bg ob.k)).take (bg ob.k)):=by
      rw[hmid]; exact E5 r4 hcells
     refine⟨?_,CJ hrep,by simp only[T.splice,aN]; exact hrep⟩;have afu:(s.ev v').cells.length=bg k:=by rw[<- ou,hvk]
     simp only[T.splice,T.kd,List.length_append,List.length_take,List.length_drop,hel,afu]
     have:ob.k≠0:=hcond.1
     obtain⟨m,hm⟩:=Nat.exists_eq_succ_of_ne_zero this;rw[hm] at hoff ⊢;simp only[bg,Nat.succ_eq_add_one] at hoff ⊢;omega
   have hok':qM F E':=by
    refine⟨fun m om hm=>?_,fun m om g hm hg=>?_,fun p q op oq g hpq hp hq hgp hgq=>?_,fun g hg=>?_,fun g hg=>?_,R.hk.sf,hext.gl R.hk⟩
    ·by_cases GV:m=i
     ·subst GV;simp only[E',upd,if_true,Option.some.injEq] at hm;subst hm;refine⟨.inl ⟨hnm,.inr ⟨b,c',cs'.toArray,by rw[hvv]; simp,by simpa using hc,hcm,setRow_heap _ _ _ _ _ _ hh,?_,?_⟩⟩,Gn,hsz⟩
      ·simp only[List.size_toArray,s1,Array.length_toList]; exact hcs
      ·have hrows:aF E ob.k (ob.l.set j t) cs':=by
        refine Ig hr Uc.1 hj s1 Uc.2.1 Uc.2.2 fun q hq=>s3 q ?_
        have hvl:(a.eval v).cells.toList.length=bg k:=by simpa using hlen'
        rcases hq with hq|hq
        ·exact .inl (by omega)
        ·exact .inr (by omega)
       exact dI _ _ M hK (wR (hhm _ ob fA).2 QC) _ hrows
     ·simp only[E',upd,GV,if_false] at hm;obtain⟨k1,k2,k3⟩:=R.hk.obs m om hm;refine⟨k1.keep hK (hhm m om hm).2 fun g hg=>hsame g ?_,k2,k3⟩;rintro rfl;exact R.hk.sep m i om ob g GV hm fA hg hrb
    ·by_cases GV:m=i
     ·subst GV; exact R.hk.out m ob g fA hg
     ·simp only[E',upd,GV,if_false] at hm; exact R.hk.out m om g hm hg
    ·have key: ∀ q oq,E'.h q=some oq-> ∃ WY,E.h q=some WY:=by
      intro q oq hq;by_cases hqi:q=i
      ·subst hqi; exact⟨ob,fA⟩
      ·exact⟨oq,by simpa [E',upd,hqi] using hq⟩
     obtain⟨op',hp'⟩:=key p op hp;obtain⟨WY,hq'⟩:=key q oq hq;exact R.hk.sep p q op' WY g hpq hp' hq' hgp hgq
    ·show g<(E.w.setRow b cs'.toArray).heap.size;simpa using R.hk.slt g hg
    ·show g<(E.w.setRow b cs'.toArray).heap.size;simpa using R.hk.flt g hg
   unfold Oper.wp;rw[hrun];show Bf F M n E K (a.put o.dst undef) _;rw[hd];refine⟨E',_,rfl,h,?_,hext,hS⟩;have mh:mQ (fun i=>M i\/i=n) E'.h:=by
    intro m om hm;by_cases GV:m=i
    ·subst GV;simp only[E',upd,if_true,Option.some.injEq] at hm;subst hm;exact⟨.inl (hhm m ob fA).1,T.aB (fun _ h=>.inl h) _ (wR (hhm m ob fA).2 QC)⟩
    ·simp only[E',upd,GV,if_false] at hm;exact⟨.inl (hhm m om hm).1,T.aB (fun _ h=>.inl h) _ (hhm m om hm).2⟩
   have:=R.next (M':=fun i=>M i\/i=n) (fun _ h=>.inl h) hok' hext hS (t:=.any) (v:=undef) (d:=none) (by simp[T.ids]) (.inr ⟨rfl,by simp[aN]⟩) mh;have e:({(s.put none .any) with hp:=E'.h}:AS)= {s with hp:=upd s.hp i (some ⟨ob.ty,ob.k,ob.l.set j t⟩)}:=by
    show({s with hp:=upd E.h i _}:AS)=_;rw[R.he]
   rw[e] at this;exact this
  ·exact h.elim
 ·exact h.elim
theorem Ud{n:Int}{v:T}{u:Value}(hk:v.kd=0)(ho:u.oneCell'=true)(hv:aN E v [u])(cl:Nat): ∀ {l:List T} {es:List MapEntry},fD E l es ->
  (xY n l=none->fD E (AZ n v l) (es++[{key:=.int .i64 n,val:=u,born:=cl}])) /\
  (∀ j,Instr.findNow (.int .i64) (.int .i64 n) es 0=some (some j)->fD E (AZ n v l) (es.modify j.1 fun e=> {e with key:=.int .i64 n,val:=u})):=by
 have gen: ∀ {l:List T} {es:List MapEntry} (i:Nat),fD E l es->(xY n l=none->fD E (AZ n v l) (es++[{key:=.int .i64 n,val:=u,born:=cl}])) /\
  (∀ j,Instr.findNow (.int .i64) (.int .i64 n) es i=some (some j)->i<=j.1/\fD E (AZ n v l) (es.modify (j.1-i) fun e=> {e with key:=.int .i64 n,val:=u})):=by
  intro l;induction l with
  |nil =>
   intro es i h;simp only[fD] at h; subst h;refine⟨fun _=>?_,fun j hj=>by simp[Instr.findNow] at hj⟩;simp only[AZ,List.nil_append,fD];exact⟨n,v,_,[],rfl,rfl,rfl,hk,ho,hv,rfl⟩
  |cons t ts ih =>
   intro es i h;simp only[fD] at h;obtain⟨m,u',e,r,rfl,rfl,h1,h2,h3,h4,h5⟩:=h;simp only[xY,AZ];cases hb:(n==m) with
   |true =>
    have hnm:n=m:=by simpa using hb
    simp only[cond_true];refine⟨nofun,fun j hj=>?_⟩;simp only[Instr.findNow,Instr.sameNow,h1,hb,if_true,Option.some.injEq] at hj;subst hj;refine⟨Nat.le_refl _,?_⟩;simp only[Nat.sub_self,List.modify_zero_cons,fD];exact⟨n,v,_,r,rfl,rfl,rfl,hk,ho,hv,h5⟩
   |false =>
    simp only[cond_false];obtain⟨g1,g2⟩:=ih (i+1) h5;refine⟨fun h=>?_,fun j hj=>?_⟩
    ·simp only[List.cons_append,fD];exact⟨m,u',e,_,rfl,rfl,h1,h2,h3,h4,g1 h⟩
    ·simp only[Instr.findNow,Instr.sameNow,h1,hb,if_true] at hj;obtain⟨g3,g4⟩:=g2 j hj;refine⟨by omega,?_⟩;rw[show j.1-i=(j.1-(i+1))+1 by omega,List.modify_succ_cons];simp only[fD];exact⟨m,u',e,_,rfl,rfl,h1,h2,h3,h4,g4⟩
 intro l es h;obtain⟨g1,g2⟩:=gen 0 h;exact⟨g1,fun j hj=>by simpa using (g2 j hj).2⟩
theorem QD{n:Int}{v:T}(hv:v.ids M): ∀ {l:List T},T.aO M l->T.aO M (AZ n v l):=by
 intro l;induction l with
 |nil=>intro _; simp[AZ,T.aO,T.ids,hv]
 |cons t ts ih =>
  intro h;simp only[T.aO] at h;unfold AZ;split
  ·simp[T.aO,T.ids,hv]
  ·rename_i k m u r heq;cases heq;cases (n==m)
   ·simp only[cond_false,T.aO]; exact⟨h.1,ih h.2⟩
   ·simp only[cond_true,T.aO,T.ids]; exact⟨⟨trivial,hv,trivial⟩,h.2⟩
  ·rename_i heq;cases heq;simp only[T.aO]; exact⟨h.1,ih h.2⟩
end ops
section ops
variable {P:Program} {F:Fr P} {M:Nat->Prop} {E:Env} {s:AS} {a:Act}
theorem LW{w:World}{t kt et:TypeId}{g:Nat}{es:Array MapEntry}{cl:Nat}(ht:P.underlying t=some (.map kt et))(hkt:P.underlying kt=some (.int .i64))(hh:w.heap[g]? =some (.map es cl))(n:Int)(v:Value){l:List T}(hr:fD E l es.toList) :
  ∃ es' cl',(Instr.mapUpdate t (.map (some g)) (.int .i64 n) v).run P w= .ok () {w with heap:=w.heap.setIfInBounds g (.map es' cl')} /\
   ((xY n l=none/\es'.toList=es.toList++[{key:=.int .i64 n,val:=v,born:=cl}]) \/
    ∃ j,Instr.findNow (.int .i64) (.int .i64 n) es.toList 0=some (some j)/\es'.toList=es.toList.modify j.1 fun e=> {e with key:=.int .i64 n,val:=v}):=by
 have hget:(getObj g).run P w= .ok (.map es cl) w:=by simp[getObj,Sem.run,hh]
 have hset: ∀ o,(setObj g o).run P w= .ok () {w with heap:=w.heap.setIfInBounds g o}:=fun o=>by simp[setObj,Sem.run,hh]
 have hf:=Ii (n:=n) 0 hr;have hrun: ∀ r,Instr.findNow (.int .i64) (.int .i64 n) es.toList 0=some r->(Instr.findKey kt (.int .i64 n) es.toList).run P w= .ok r w:=by
  intro r hr';simp only[Instr.findKey,Sem.run_bind,run_underlying hkt,Result.andThen_ok,hr',Sem.run_pure]
 split at hf
 ·obtain⟨j,v',g1,g2,g3,_,_,_,g7⟩:=hf;have hkey:((es[0+j]?).map (·.key)).getD (.int .i64 n)= .int .i64 n:=by
   have:(es[0+j]?).map (·.key)=some (.int .i64 n):=by simpa using g7
   rw[this]; rfl
  have afv:(Instr.keyThatStays (.int .i64 n) (.int .i64 n)).run P w= .ok (.int .i64 n) w:=by
   have: ∀ d,Instr.sameBits d (.int .i64 n) (.int .i64 n)=true:=fun d=>by cases d<;>simp[Instr.sameBits]
   simp[Instr.keyThatStays,this]
  refine⟨es.modify (0+j) fun e=> {e with key:=.int .i64 n,val:=v},cl,?_,.inr ⟨_,g1,by simp⟩⟩;simp only[Instr.mapUpdate,Sem.run_bind,run_underlying ht,Result.andThen_ok,hget,run_checkKey hkt,hrun _ g1,hkey,afv,hset]
 ·rename_i hm;refine⟨es.push {key:=.int .i64 n,val:=v,born:=cl},cl+1,?_,.inl ⟨hm,by simp⟩⟩;simp only[Instr.mapUpdate,Sem.run_bind,run_underlying ht,Result.andThen_ok,hget,run_checkKey hkt,hrun _ hf,hset]
theorem ad2(R:Rel F M E s a){n:Nat}{t kt et:TypeId}{x i v:Operand}{x' i' v':X}(hx:aU x=some x')(hi:aU i=some i')(hv:aU v=some v')(ht:P.underlying t=some (.map kt et))(hkt:P.underlying kt=some (.int .i64))
  {o:Oper} (ho:o.op= .mapUpdate t x i v) (hd:o.dst=none)
  {dr:Bool} {K:AS->Prop} {Q:Exit->Act->World->Prop} (h:lU P dr n o.dst (.Tn x' i' v') K s):o.wp P a E.w (Bf F M n E K) Q:=by
 have rx:=bG R hx; have ri:=bG R hi; have rv:=bG R hv;simp only[lU] at h;split at h
 ·rename_i oo m e1 e2;split at h
  ·rename_i ob hob;simp only[Bool.and_eq_true,beq_iff_eq] at h;obtain⟨hmk,⟨hvk,hone⟩,h⟩:=h;rw[e2,aK] at ri;rw[e1,ay rfl] at rx;simp only[aN] at rx;obtain⟨u,hu,hlive⟩:=rx;have fA:E.h oo=some ob:=by rw[R.he]; exact hob
   have hφ:=hlive (by rw[fA]; rfl);obtain⟨hok,Gn,hsz⟩:=R.hk.obs oo ob fA;have ha:a.eval x=E.φ oo:=by rw[<- hφ]; simpa using hu
   obtain⟨g,es,cl,hvv,hh,hr⟩:=hok.map hmk;rw[<- R.he] at hone;obtain⟨_,w1,w2⟩:=JM R.hk rv hone;obtain⟨es',cl',hrun0,hes⟩:=LW (P:=P) (E:=E) ht hkt hh m (a.eval v) hr;have hent:fD E (AZ m (s.ev v') ob.l) es'.toList:=by
    have hp:=Ud (n:=m) hvk w1 w2 cl hr;rcases hes with ⟨h1,h2⟩|⟨j,h1,h2⟩
    ·rw[h2]; exact hp.1 h1
    ·rw[h2]; exact hp.2 j h1
   have hrun:(execOp a.eval o).run P E.w= .ok .skip {E.w with heap:=E.w.heap.setIfInBounds g (.map es' cl')}:=by
    simp only[execOp,ho,ha,hvv,ri,Sem.run_bind,hrun0,Result.andThen_ok,Sem.run_pure]
   generalize hw:({E.w with heap:=E.w.heap.setIfInBounds g (.map es' cl')}:World)=w' at hrun;have hlt:g<E.w.heap.size:=(Array.getElem?_eq_some_iff.1 hh).1;have hnew:w'.heap[g]? =some (.map es' cl'):=by rw[<- hw]; simp[hlt]
   have hsame: ∀ q,q≠g->w'.heap[q]? =E.w.heap[q]? :=fun q hq=>by rw[<- hw]; simp[Ne.symm hq]
   have hsize:w'.heap.size=E.w.heap.size:=by rw[<- hw]; simp
   let E':Env:= {E with w:=w',h:=upd E.h oo (some ⟨ob.ty,ob.k,AZ m (s.ev v') ob.l⟩)}
   have hrb:rowB (E.φ oo)=some g:=by rw[hvv]; rfl
   have hbS:=R.hk.out oo ob g fA hrb;have hhm:mQ M E.h:=by rw[R.he]; exact R.mh
   have hext:Ext F E E':=by
    refine⟨fun _ h=>h,fun q hq=>hsame q ?_,by show _<=w'.heap.size; omega,by show w'.os=_; rw[<- hw],by show w'.tape=_; rw[<- hw],by show w'.output=_; rw[<- hw],by show _<=w'.drawn; rw[<- hw]; exact Nat.le_refl _,rfl⟩;rintro rfl;rcases hq with hq|hq
    ·exact hbS.1 hq
    ·exact hbS.2 hq
   have hS:Same E E' M:=by
    intro q _ hq;refine⟨?_,rfl,rfl⟩;by_cases hqi:q=oo
    ·subst hqi; rw[fA]; rfl
    ·simpa [E',upd,hqi] using hq
   have hK:Keeps E E' M:=.of hext hS;have afw:(s.ev v').ids M:=jZ R hv;have hok':qM F E':=by
    refine⟨fun q oq hq=>?_,fun q oq b hq hb=>?_,fun p q op oq b hpq hp hq hbp hbq=>?_,fun b hb=>?_,fun b hb=>?_,R.hk.sf,hext.gl R.hk⟩
    ·by_cases hqi:q=oo
     ·subst hqi;simp only[E',upd,if_true,Option.some.injEq] at hq;subst hq;exact⟨.inr ⟨hmk,g,es',cl',hvv,hnew,Ij hK (QD afw (hhm _ ob fA).2) hent⟩,Gn,hsz⟩
     ·simp only[E',upd,hqi,if_false] at hq;obtain⟨k1,k2,k3⟩:=R.hk.obs q oq hq;refine⟨k1.keep hK (hhm q oq hq).2 fun b hb=>hsame b ?_,k2,k3⟩;rintro rfl;exact R.hk.sep q oo oq ob b hqi hq fA hb hrb
    ·by_cases hqi:q=oo
     ·subst hqi; exact R.hk.out q ob b fA hb
     ·simp only[E',upd,hqi,if_false] at hq; exact R.hk.out q oq b hq hb
    ·have key: ∀ q oq,E'.h q=some oq-> ∃ WY,E.h q=some WY:=by
      intro q oq hq;by_cases hqi:q=oo
      ·subst hqi; exact⟨ob,fA⟩
      ·exact⟨oq,by simpa [E',upd,hqi] using hq⟩
     obtain⟨op',hp'⟩:=key p op hp;obtain⟨WY,hq'⟩:=key q oq hq;exact R.hk.sep p q op' WY b hpq hp' hq' hbp hbq
    ·show b<w'.heap.size;rw[hsize]; exact R.hk.slt b hb
    ·show b<w'.heap.size;rw[hsize]; exact R.hk.flt b hb
   unfold Oper.wp;rw[hrun];show Bf F M n E K (a.put o.dst undef) _;rw[hd];refine⟨E',_,rfl,h,?_,hext,hS⟩;have mh:mQ (fun i=>M i\/i=n) E'.h:=by
    intro q oq hq;by_cases hqi:q=oo
    ·subst hqi;simp only[E',upd,if_true,Option.some.injEq] at hq;subst hq;exact⟨.inl (hhm q ob fA).1,T.aB (fun _ h=>.inl h) _ (QD afw (hhm q ob fA).2)⟩
    ·simp only[E',upd,hqi,if_false] at hq;exact⟨.inl (hhm q oq hq).1,T.aB (fun _ h=>.inl h) _ (hhm q oq hq).2⟩
   have:=R.next (M':=fun i=>M i\/i=n) (fun _ h=>.inl h) hok' hext hS (t:=.any) (v:=undef) (d:=none) (by simp[T.ids]) (.inr ⟨rfl,by simp[aN]⟩) mh;have e:({(s.put none .any) with hp:=E'.h}:AS)= {s with hp:=upd s.hp oo (some ⟨ob.ty,ob.k,AZ m (s.ev v') ob.l⟩)}:=by
    show({s with hp:=upd E.h oo _}:AS)=_;rw[R.he]
   rw[e] at this;exact this
  ·exact h.elim
 ·exact h.elim
theorem WZ{t e ty':TypeId}{x y:Operand}{ad:Option Addr}{n c:Nat}{o:Oper}(ht:P.underlying t=some (.slice e))(ho:o.op= .binOp .eql t x y ty')(hx:a.eval x= .slice ad n c)(hy:a.eval y= .slice none 0 0)(w:World) :
  (execOp a.eval o).run P w= .ok (.value (.bool ad.isNone)) w:=by
 have heq:(Op.equal t (.slice ad n c) (.slice none 0 0)).run P w= .ok ad.isNone w:=by
  have h: ∀ d,(Op.equalIn (d+1) t (.slice ad n c) (.slice none 0 0)).run P w= .ok ad.isNone w:=fun d=>by
   cases ad<;>simp only[Op.equalIn,underlying,Sem.run_bind,run_program,Result.andThen_ok,ht,Sem.run_pure,Option.isNone]
  exact h 9999
 have hg:eqGuard .eql t x y (.slice ad n c) (.slice none 0 0)=pure ():=by unfold eqGuard; rfl
 simp only[execOp,ho,hx,hy,hg,binOp,Sem.run_bind,Sem.run_pure,Result.andThen_ok,heq]
theorem Y9(R:Rel F M E s a){n:Nat}{t e ty':TypeId}{x y:Operand}{x':X}(hx:aU x=some x')(hy:aU y=some (.c (.sl 0 true [])))(ht:P.underlying t=some (.slice e)){o:Oper}(ho:o.op= .binOp .eql t x y ty')
  {dr:Bool} {K:AS->Prop} {Q:Exit->Act->World->Prop} (h:lU P dr n o.dst (.Ah x') K s):o.wp P a E.w (Bf F M n E K) Q:=by
 have rx:=bG R hx;have hya:a.eval y= .slice none 0 0:=by
  cases y with
  |tmp t=>simp[aU] at hy
  |global g=>simp[aU] at hy
  |func f=>simp[aU] at hy
  |const v =>
   simp only[aU] at hy;split at hy
   ·simp only[Option.some.injEq,X.c.injEq] at hy;show v=_;cases v<;>simp[Aj,JJ] at hy
    rename_i ad n c;split at hy
    ·rename_i heq; exact heq
    ·cases hy
   ·cases hy
 have fin: ∀ {ad:Option Addr} {m c:Nat},a.eval x= .slice ad m c->K (s.put o.dst (.lit (.bool ad.isNone)))->o.wp P a E.w (Bf F M n E K) Q:=by
  intro ad m c hxa hK;unfold Oper.wp;rw[WZ ht ho hxa hya];exact⟨E,_,rfl,hK,(R.put (by simp[T.ids]) (aK.2 rfl) _).weaken (fun _ h=>.inl h),Ext.refl _ _,Same.refl _ _⟩
 simp only[lU] at h;split at h
 ·rename_i k f l e1;rw[e1,ay rfl] at rx;simp only[aN] at rx;obtain⟨ad,c,hu,hle,_,hm⟩:=rx;have hxa:a.eval x= .slice ad l.length c:=by simpa using hu
  refine fin hxa ?_;cases ad with
  |some ad=>exact h.2
  |none =>
   rcases hm with hm|⟨b,off,cur,e,m,hq,_⟩
   ·exact h.1 hm
   ·cases hq
 ·rename_i i e1;split at h
  ·rename_i ob hob;rw[e1,ay rfl] at rx;simp only[aN] at rx;obtain⟨u,hu,hlive⟩:=rx;have fA:E.h i=some ob:=by rw[R.he]; exact hob
   have hφ:=hlive (by rw[fA]; rfl);obtain⟨hok,Gn,hsz⟩:=R.hk.obs i ob fA;have ha:a.eval x=E.φ i:=by rw[<- hφ]; simpa using hu
   rcases hok.row h.2.2 with ⟨ad,hv,hnil⟩|⟨g,c,cur,hv,_⟩
   ·refine fin (ha.trans hv) ?_;cases ad with
    |some ad=>exact h.2.1
    |none=>exact h.1 hnil
   ·exact fin (ha.trans hv) h.2.1
  ·exact h.elim
 ·exact h.elim
theorem Dx(z:Array Value)(n i:Nat)(h:i<n*z.size)(hz:0<z.size):(Builtin.zeroCells z n).toList[i]? =z.toList[i % z.size]? :=by
 have:i % z.size<z.size:=Nat.mod_lt _ hz
 simp[Builtin.zeroCells,h,this]
theorem ad3(R:Rel F M E s a){n:Nat}{t e k:Nat}{ts:Array TypeId}{z:Value}{x:Operand}{x':X}(hx:aU x=some x'){o:Oper}(ho:o.op= .call {callee:=.builtin .clear,args:= #[x],argTypes:=ts})(h0:ts[0]? =some t)
  (hu:P.underlying t=some (.slice e)) (hkd:kindOf P e=some k) (hz:zeroOf P e=some z) (ad4:jQ z=true) (W9:0<bg k)
  {dr:Bool} {K:AS->Prop} {Q:Exit->Act->World->Prop} (h:lU P dr n o.dst (.TW k (Aj z) x') K s):o.wp P a E.w (Bf F M n E K) Q:=by
 have rx:=bG R hx;simp only[lU] at h;split at h
 ·rename_i oo lo hi e1;split at h
  ·rename_i ob hob;simp only[Bool.and_eq_true,beq_iff_eq] at h;obtain⟨⟨⟨⟨hk1,hzk⟩,_⟩,hfree⟩,hle,h⟩:=h;rw[e1,ay rfl] at rx;simp only[aN] at rx;obtain⟨u,hu1,hlive⟩:=rx;have fA:E.h oo=some ob:=by rw[R.he]; exact hob
   obtain⟨ad,m,c,hφ,hl1,hl2,hl3,hu'⟩:=hlive (by rw[fA]; rfl);obtain⟨hok,Gn,hsz⟩:=R.hk.obs oo ob fA;have ha:a.eval x=u:=by simpa using hu1
   have hnm:ob.k≠fM:=by rw[hk1]; exact Bc hkd
   have hhm:mQ M E.h:=by rw[R.he]; exact R.mh
   have agM:(Aj z).ids M:=T.aZ (fun _ hf=>hf.elim) _ (fF hfree)
   have afx:T.aO M (ob.l.take lo++List.replicate (hi-lo) (Aj z)++ob.l.drop hi) :=
    fE.2 ⟨fE.2 ⟨vV (hhm oo ob fA).2 _,bK.2 fun q hq=>by rw[List.eq_of_mem_replicate hq]; exact agM⟩,yU (hhm oo ob fA).2 _⟩
   have hzero:(zeroValue e).run P E.w= .ok z E.w:=by
    unfold zeroOf at hz;cases hi':P.info? e with
    |none=>simp[hi'] at hz
    |some it =>
     have hz':it.zero=some z:=by simpa [hi'] using hz
     simp[zeroValue,typeInfo,hi',hz']
   obtain⟨adn,hzs⟩:=uK (E:=E) ad4;rw[hzk] at adn hzs
   have fin: ∀ w':World,w'.heap.size=E.w.heap.size->w'.os=E.w.os->w'.tape=E.w.tape->w'.output=E.w.output->E.w.drawn<=w'.drawn->(∀ g,rowB (E.φ oo)≠some g->w'.heap[g]? =E.w.heap[g]?) ->
     (∀ E',Keeps E E' M->E'.w=w'->Qu E' ⟨ob.ty,ob.k,ob.l.take lo++List.replicate (hi-lo) (Aj z)++ob.l.drop hi⟩ (E.φ oo)) ->
     (execOp a.eval o).run P E.w= .ok (.value (.tuple #[])) w'->o.wp P a E.w (Bf F M n E K) Q:=by
    intro w' hsize hos htape hout hdr hsame hrow hrun
    let E':Env:= {E with w:=w',h:=upd E.h oo (some ⟨ob.ty,ob.k,ob.l.take lo++List.replicate (hi-lo) (Aj z)++ob.l.drop hi⟩)}
    have hext:Ext F E E':=by
     refine⟨fun _ h=>h,fun q hq=>hsame q ?_,by show _<=w'.heap.size; omega,hos,htape,hout,hdr,rfl⟩;intro hrb;have:=R.hk.out oo ob q fA hrb;rcases hq with hq|hq
     ·exact this.1 hq
     ·exact this.2 hq
    have hS:Same E E' M:=by
     intro q _ hq;refine⟨?_,rfl,rfl⟩;by_cases hqi:q=oo
     ·subst hqi; rw[fA]; rfl
     ·simpa [E',upd,hqi] using hq
    have hK:Keeps E E' M:=.of hext hS;have hok':qM F E':=by
     refine⟨fun q oq hq=>?_,fun q oq b hq hb=>?_,fun p q op oq b hpq hp hq hbp hbq=>?_,fun b hb=>?_,fun b hb=>?_,R.hk.sf,hext.gl R.hk⟩
     ·by_cases hqi:q=oo
      ·subst hqi;simp only[E',upd,if_true,Option.some.injEq] at hq;subst hq;exact⟨.inl ⟨hnm,hrow E' hK rfl⟩,Gn,hsz⟩
      ·simp only[E',upd,hqi,if_false] at hq;obtain⟨k1,k2,k3⟩:=R.hk.obs q oq hq;refine⟨k1.keep hK (hhm q oq hq).2 fun b hb=>hsame b ?_,k2,k3⟩;intro hrb;exact R.hk.sep q oo oq ob b hqi hq fA hb hrb
     ·by_cases hqi:q=oo
      ·subst hqi; exact R.hk.out q ob b fA hb
      ·simp only[E',upd,hqi,if_false] at hq; exact R.hk.out q oq b hq hb
     ·have key: ∀ q oq,E'.h q=some oq-> ∃ WY,E.h q=some WY:=by
       intro q oq hq;by_cases hqi:q=oo
       ·subst hqi; exact⟨ob,fA⟩
       ·exact⟨oq,by simpa [E',upd,hqi] using hq⟩
      obtain⟨op',hp'⟩:=key p op hp;obtain⟨WY,hq'⟩:=key q oq hq;exact R.hk.sep p q op' WY b hpq hp' hq' hbp hbq
     ·show b<w'.heap.size;rw[hsize]; exact R.hk.slt b hb
     ·show b<w'.heap.size;rw[hsize]; exact R.hk.flt b hb
    unfold Oper.wp;rw[hrun];refine⟨E',_,rfl,h,?_,hext,hS⟩;have mh:mQ (fun i=>M i\/i=n) E'.h:=by
     intro q oq hq;by_cases hqi:q=oo
     ·subst hqi;simp only[E',upd,if_true,Option.some.injEq] at hq;subst hq;exact⟨.inl (hhm q ob fA).1,T.aB (fun _ h=>.inl h) _ afx⟩
     ·simp only[E',upd,hqi,if_false] at hq;exact⟨.inl (hhm q oq hq).1,T.aB (fun _ h=>.inl h) _ (hhm q oq hq).2⟩
    have:=R.next (M':=fun i=>M i\/i=n) (fun _ h=>.inl h) hok' hext hS (t:=T.un) (v:=.tuple #[]) (d:=o.dst) (by simp[T.ids]) (aK.2 rfl) mh;have e:({(s.put o.dst T.un) with hp:=E'.h}:AS)= {(s.put o.dst T.un) with hp:=upd s.hp oo (some ⟨ob.ty,ob.k,ob.l.take lo++List.replicate (hi-lo) (Aj z)++ob.l.drop hi⟩)}:=by
     show({(s.put o.dst T.un) with hp:=upd E.h oo _}:AS)=_;rw[R.he]
    rw[e] at this;exact this
   have Za: ∀ {w'},(Builtin.clear_ ts o.type #[a.eval x]).run P E.w= .ok (.tuple #[]) w'->(execOp a.eval o).run P E.w= .ok (.value (.tuple #[])) w':=by
    intro w' hr;simp only[execOp,ho,resolve,invoke,builtin,Sem.run_bind,Sem.run_pure,Result.andThen_ok,List.map_toArray,List.map_cons,List.map_nil,hr]
   rcases hok.row hnm with ⟨ad',hv,hnil⟩|⟨g,c',cur,hv,hc,hcm,hh,hcs,hr⟩
   ·
    have h00:lo=0/\hi=0:=by rw[hnil] at hle; simp at hle; omega
    obtain⟨rfl,rfl⟩:=h00;refine fin E.w rfl rfl rfl rfl (Nat.le_refl _) (fun _ _=>rfl) (fun E' _ _=>.inl ⟨ad',hv,by simp[hnil]⟩) (Za ?_);rw[ha,hu'];cases ad<;>simp[Builtin.clear_,h0,run_underlying hu,Result.andThen]<;>split<;>simp_all
   ·rw[hφ] at hv;simp only[Value.slice.injEq] at hv;obtain⟨rfl,rfl,rfl⟩:=hv;rw[hk1] at hcs hr Gn;by_cases hlh:lo=hi
    ·subst hlh;refine fin E.w rfl rfl rfl rfl (Nat.le_refl _) (fun _ _=>rfl) (fun E' hK hw=>.inr ⟨g,c',cur,by rw[hφ]; first|(simp; done)|(simp; omega),by first|(simp; done)|(simp; omega),hcm,by rw[hw]; exact hh,by rw[hk1]; exact hcs,?_⟩) (Za ?_)
     ·simp only[Nat.sub_self,List.replicate_zero,List.append_nil,List.take_append_drop,hk1];exact dI _ _ M hK (hhm oo ob fA).2 _ hr
     ·rw[ha,hu'];simp only[Nat.sub_self];split<;>simp[Builtin.clear_,h0,run_underlying hu,Result.andThen]
    ·have hlt:lo<hi:=by omega
     rw[if_neg (by omega),Gn] at hu';simp only[Option.map_some,addr_add,Nat.zero_add] at hu';have abz:z.cells.size=bg k:=hzs;have QE:(Builtin.zeroCells z.cells (hi-lo)).toList.length=(hi-lo)*bg k:=by simp[Builtin.zeroCells,abz]
     have Zb:lo*bg k+(hi-lo)*bg k<=cur.size:=by
      rw[<- Nat.add_mul,hcs]; exact Nat.mul_le_mul_right _ (by omega)
     have hone: ∀ v∈(Builtin.zeroCells z.cells (hi-lo)).toList,v.oneCell'=true:=by
      intro v hv;obtain⟨i,hi1,hi2⟩:=List.getElem_of_mem hv;have hg:(Builtin.zeroCells z.cells (hi-lo)).toList[i]? =some v:=by rw[List.getElem?_eq_getElem hi1,hi2]
      rw[Dx z.cells _ i (by rw[abz,<- QE]; exact hi1) (by omega)] at hg;have:=List.mem_of_getElem? hg;simp only[jQ,Array.all_eq_true_iff_forall_mem] at ad4;exact ad4 v (by simpa using this)
     generalize hcs':cur.toList.take (lo*bg k)++(Builtin.zeroCells z.cells (hi-lo)).toList++cur.toList.drop (lo*bg k+(Builtin.zeroCells z.cells (hi-lo)).toList.length)=cs';obtain⟨s1,s2,s3⟩:=D8 (cur:=cur.toList) (off:=lo*bg k) (vs:=(Builtin.zeroCells z.cells (hi-lo)).toList) (by rw[QE]; simpa using Zb);rw[hcs'] at s1 s2 s3;have hst:=run_storeCells_at P g (lo*bg k) ob.ty (Builtin.zeroCells z.cells (hi-lo)).toList 0 cur E.w hh (by rw[QE]; simpa using Zb) hone;simp only[Nat.add_zero,hcs'] at hst;refine fin (E.w.setRow g cs'.toArray) (by simp) rfl rfl rfl (Nat.le_refl _) (fun q hq=>setRow_other E.w g q cs'.toArray (fun e=>hq (by rw[hφ,e]; rfl))) (fun E' hK hw=>.inr ⟨g,c',cs'.toArray,by rw[hφ]; simp; omega,by simp; omega,hcm,by rw[hw]; exact setRow_heap _ _ _ _ _ _ hh,by simp only[List.size_toArray,s1,Array.length_toList]; rw[hk1]; exact hcs,?_⟩) (Za ?_)
     ·rw[hk1];refine dI (E:=E) _ _ M hK afx _ ?_;have hlo:(ob.l.take lo).length=lo:=by simp; omega
      rw[rV,rV];refine⟨⟨?_,?_⟩,?_⟩
      ·exact iM (vN hr lo) fun q hq=>by rw[hlo] at hq; exact s3 q (.inl hq)
      ·rw[hlo];refine nS adn (by simpa using hzs) _ _ fun q hq=>?_
       have hq':q<(Builtin.zeroCells z.cells (hi-lo)).toList.length:=by rw[QE]; exact hq
       rw[<- List.getElem?_take_of_lt (l:=cs'.drop (lo*bg k)) hq',s2,Dx z.cells _ q (by rw[abz]; exact hq) (by omega),abz]
      ·have e3:(ob.l.take lo++List.replicate (hi-lo) (Aj z)).length=hi:=by simp; omega
       rw[e3];refine iM (zN hr hi hle) fun q hq=>?_
       rw[List.getElem?_drop,List.getElem?_drop];refine s3 _ (.inr ?_);rw[QE,<- Nat.add_mul,show lo+(hi-lo)=hi by omega]; omega
     ·rw[ha,hu'];obtain⟨d,hd⟩: ∃ d,hi-lo=d+1:=⟨hi-lo-1,by omega⟩
      rw[hd] at hst ⊢;simp only[Builtin.clear_,h0,List.getElem?_toArray,List.getElem?_cons_zero,Sem.run_bind,run_underlying hu,Result.andThen_ok,hzero,hst,Sem.run_pure]
  ·exact h.elim
 ·exact h.elim
end ops
section ops
variable {P:Program} {F:Fr P} {M:Nat->Prop} {E:Env} {s:AS} {a:Act}
section run
variable {t t' ty e e':TypeId} {i:TypeInfo} (ht:P.underlying t=some (.slice e)) (ht':P.underlying t'=some (.slice e')) (hi:P.info? e=some i)
 {base:Option Addr} {sLen sCap m:Nat} {ad:Option Addr} {c:Nat} {w:World} {news:List Value}
include ht ht' hi
theorem zQ(hn:(Builtin.firstCells i.size m (.slice ad m c)).run P w= .ok news.toArray w)(h0:news=[])(hroom:sLen+m<=sCap)(hm:m=0) :
  (Builtin.append_ #[t,t'] ty #[.slice base sLen sCap,.slice ad m c]).run P w= .ok (.slice base sLen sCap) w:=by
 subst h0 hm;simp at hroom;cases base<;>simp[Builtin.append_,run_underlying ht,run_underlying ht',sizeOf,typeInfo,hi,Builtin.lenOf,hroom,hn,storeCells]
theorem Ox{g:Nat}{cur:Array Value}(hg:w.heap[g]? =some (.cells cur e (0,0)))(hn:(Builtin.firstCells i.size m (.slice ad m c)).run P w= .ok news.toArray w)
  (h1: ∀ u∈news,u.oneCell'=true) (hroom:sLen+m<=sCap) (hfit:sLen*i.size+news.length<=cur.size) :
  (Builtin.append_ #[t,t'] ty #[.slice (some ⟨g,0,none⟩) sLen sCap,.slice ad m c]).run P w =
   .ok (.slice (some ⟨g,0,none⟩) (sLen+m) sCap) (w.setRow g (cur.toList.take (sLen*i.size)++news++cur.toList.drop (sLen*i.size+news.length)).toArray):=by
 have hst:=run_storeCells_at P g (sLen*i.size) e news 0 cur w hg (by simpa using hfit) h1;simp only[Nat.add_zero] at hst;simp[Builtin.append_,run_underlying ht,run_underlying ht',sizeOf,typeInfo,hi,Builtin.lenOf,hroom,hn,Addr.add_lit,hst]
theorem Oy{z:Value}(hz:i.zero=some z){olds:List Value}(ho:(Builtin.firstCells i.size sLen (.slice base sLen sCap)).run P w.drew= .ok olds.toArray w.drew)
  (hn:(Builtin.firstCells i.size m (.slice ad m c)).run P w.drew= .ok news.toArray w.drew)
  (hg:sCap<sLen+m) (h63:((sLen+m:Nat):Int)<=9223372036854775807) (hfit:Builtin.nextslicecap (sLen+m) sCap*i.bytes<=281474976710656) :
  (Builtin.append_ #[t,t'] ty #[.slice base sLen sCap,.slice ad m c]).run P w =
   .ok (.slice (some ⟨w.heap.size,0,none⟩) (sLen+m) (grownCap w (sLen+m) sCap e))
    (w.drew.alloc (.cells (olds.toArray++news.toArray++Builtin.zeroCells z.cells (grownCap w (sLen+m) sCap e-(sLen+m))) e)):=by
 have hnn: ¬ (sLen+m<=sCap):=by omega
 have h63': ¬ (9223372036854775807<((sLen:Int)+(m:Int))):=by omega
 have h48': ¬ (281474976710656<Builtin.nextslicecap (sLen+m) sCap*i.bytes):=by omega
 simp[Builtin.append_,run_underlying ht,run_underlying ht',sizeOf,typeInfo,zeroValue,hi,hz,Builtin.lenOf,hnn,h63',h48',Question.forced,hn,ho,newRow,grownCap];simp[<- List.append_toArray,Array.append_assoc]
end run
def RowOf(P:Program)(E:Env)(k:Nat)(l:List T)(v:Value)(news:List Value):Prop :=
 news.length=l.length*bg k/\aF E k l news/\(∀ u∈news,u.oneCell'=true) /\
 ∀ w:World,w.heap=E.w.heap->(Builtin.firstCells (bg k) l.length v).run P w= .ok news.toArray w
theorem QF{k:Nat}{l:List T}{b off:Nat}{cur:Array Value}{e:TypeId}{m:Nat×Nat}(hh:E.w.heap[b]? =some (.cells cur e m))(hr:aF E k l (cur.toList.drop off))(n c:Nat) :
  RowOf P E k l (.slice (some ⟨b,off,none⟩) n c) ((cur.toList.drop off).take (l.length*bg k)):=by
 have hl:=A8 hr;refine⟨by simp only[List.length_take]; omega,iM hr fun i hi=>by rw[List.getElem?_take_of_lt hi],Qs hr,fun w hw=>?_⟩;refine run_firstCells_some w (bg k) l.length ⟨b,off,none⟩ n c _ (by simp only[List.length_take]; omega) fun j v hv=>?_
 rw[addr_add,Oq (by rw[hw]; exact hh)];by_cases hj:j<l.length*bg k
 ·rw[List.getElem?_take_of_lt hj,List.getElem?_drop] at hv; simpa using hv
 ·rw[List.getElem?_take_eq_none (by omega)] at hv; cases hv
theorem Nc{k:Nat}{ad:Option Addr}{n c:Nat}:RowOf P E k [] (.slice ad n c) []:=by
 refine⟨by simp,by simp[aF],by simp,fun w _=>?_⟩;cases ad<;>simp[Builtin.firstCells,loadCells,loadCellsFrom]
theorem JW{k:Nat}{f:Bool}{l:List T}{v:Value}(h:jo E (.sl k f l) v){k':Nat}(hk:k=k'\/l=[]): ∃ ad c news,v= .slice ad l.length c/\l.length<=c/\(f=true->c=l.length)/\RowOf P E k' l v news/\T.aO (fun _=>False) l:=by
 rw[ay rfl] at h;simp only[aN] at h;obtain⟨ad,c,hv,h1,h2,h3⟩:=h;have hv':v= .slice ad l.length c:=by simpa using hv
 by_cases hl:l=[]
 ·subst hl hv';exact⟨ad,c,[],rfl,h1,h2,Nc,by simp[T.aO]⟩
 ·obtain⟨b,off,cur,e,m,rfl,_,hh,hid,hr⟩:=h3.resolve_left hl;have:=hk.resolve_right hl;subst this hv';exact⟨_,c,_,rfl,h1,h2,QF hh hr _ _,hid⟩
theorem Nh(hk:qM F E){i:Nat}{ob:Ob}(hob:E.h i=some ob)(hnm:ob.k≠fM){v:Value}(h:jo E (.own i) v): ∃ ad c news,v= .slice ad ob.l.length c/\ob.l.length<=c/\v=E.φ i/\RowOf P E ob.k ob.l v news:=by
 rw[ay rfl] at h;simp only[aN] at h;obtain⟨u,hu,hl⟩:=h;have hv:v=E.φ i:=by rw[<- hl (by rw[hob]; rfl)]; simpa using hu
 rcases(hk.obs i ob hob).1.row hnm with ⟨ad,h1,h2⟩|⟨g,c,cur,h1,h2,_,hh,hcs,hr⟩
 ·refine⟨ad,0,[],by rw[hv,h1,h2]; rfl,by rw[h2]; simp,hv,?_⟩;rw[hv,h1,h2]; exact Nc
 ·refine⟨_,c+1,(cur.toList.drop 0).take (ob.l.length*bg ob.k),by rw[hv,h1],h2,hv,?_⟩;rw[hv,h1];exact QF hh (by simpa using hr) _ _
theorem abA(R:Rel F M E s a){k:Nat}(hnm:k≠fM){y:Operand}{y':X}(hy:aU y=some y'){m:List T}(h:Ua s.hp k (s.ev y')= .list m) :
  ∃ ad c news,a.eval y= .slice ad m.length c/\RowOf P E k m (a.eval y) news/\T.aO M m:=by
 have ry:=bG R hy;have iy:=jZ R hy;unfold Ua at h;split at h
 ·rename_i k' f l e1;rw[e1] at ry;split at h
  ·cases h;obtain⟨ad,c,news,h1,_,_,h4,_⟩:=JW (P:=P) ry (k':=k) (.inr rfl);exact⟨ad,c,news,h1,h4,by simp[T.aO]⟩
  ·rename_i x r;cases hk:(k'==k) with
   |false=>rw[hk] at h; cases h
   |true =>
    rw[hk] at h; cases h;obtain⟨ad,c,news,h1,_,_,h4,h5⟩:=JW (P:=P) ry (k':=k) (.inl (by simpa using hk));exact⟨ad,c,news,h1,h4,T.aB (fun _ hf=>hf.elim) _ h5⟩
 ·rename_i o e1;rw[e1] at ry;split at h
  ·rename_i ob hob;cases hk:(ob.k==k) with
   |false=>rw[hk] at h; cases h
   |true =>
    rw[hk] at h; cases h;simp only[beq_iff_eq] at hk;subst hk;have fA:E.h o=some ob:=by rw[R.he]; exact hob
    obtain⟨ad,c,news,h1,_,_,h4⟩:=Nh (P:=P) R.hk fA hnm ry;exact⟨ad,c,news,h1,h4,(R.mh o ob hob).2⟩
  ·cases h
 ·cases h
theorem Bf.quiet(R:Rel F M E s a){n:Nat}{t:T}{v:Value}(ht:t.ids M)(hv:jo E t v){K:AS->Prop}{d:Option Nat}(h:K (s.put d t)):Bf F M n E K (a.put d v) E.w :=
 ⟨E,_,rfl,h,(R.put ht hv d).weaken (fun _ h=>.inl h),Ext.refl _ _,Same.refl _ _⟩
theorem I9(R:Rel F M E s a){n:Nat}(hn: ¬ M n){ob:Ob}{h0:Hp}(h0': ∀ j oj,h0 j=some oj->E.h j=some oj){w':World}{v:Value}
  (hsize:E.w.heap.size<=w'.heap.size) (hos:w'.os=E.w.os) (htape:w'.tape=E.w.tape) (hout:w'.output=E.w.output) (hdr:E.w.drawn<=w'.drawn)
  (hsame: ∀ g,g<E.w.heap.size->rowB v≠some g->w'.heap[g]? =E.w.heap[g]?)
  (hnew: ∀ g,rowB v=some g->E.w.heap.size<=g\/ ∃ i oi,E.h i=some oi/\h0 i=none/\rowB (E.φ i)=some g)
  (hob: ∀ E',Keeps E E' M->E'.w=w'->tZ E' ob v) (hsz:0<bg ob.k) (hid:T.aO M ob.l) {K:AS->Prop} {d:Option Nat}
  (h:K {(s.put d (.own n)) with hp:=upd h0 n (some ob)}):Bf F M n E K (a.put d v) w':=by
 have hhm:mQ M E.h:=by rw[R.he]; exact R.mh
 have hS:=y5 (E:=E) (M:=M) (w':=w') (v:=v) (ob:=ob) (h0:=h0) hn h0';have hrow: ∀ g,E.S g->rowB v≠some g:=by
  intro g hg hv;rcases hnew g hv with hge|⟨i,oi,h1,_,h3⟩
  ·have:=R.hk.slt g hg; omega
  ·exact(R.hk.out i oi g h1 h3).1 hg
 have hK:Keeps E (E.obj w' n v ob h0) M:=⟨fun _ h=>h,fun g hg=>hsame g (R.hk.slt g hg) (hrow g hg),hS,rfl⟩
 have hok:=JQ (F:=F) R.hk hhm hn h0' hsize hos htape hout hdr hsame hnew (hob _ hK rfl) hsz;refine⟨E.obj w' n v ob h0,_,rfl,h,?_,hok.2,hS⟩
 refine R.next (M':=fun i=>M i\/i=n) (fun _ h=>.inl h) hok.1 hok.2 hS (t:=.own n) (v:=v) (d:=d) (.inr rfl) ?_
  (JR (fun j oj hj=>hhm j oj (h0' j oj hj)) (T.aB (fun _ h=>.inl h) _ hid))
 rw[ay rfl]; simp only[aN];exact⟨_,rfl,fun _=>by simp[Env.obj]⟩
theorem ad5(R:Rel F M E s a){n:Nat}(hn: ¬ M n){t t' e e' k:Nat}{i:TypeInfo}{z:Value}{x y:Operand}{x' y':X}(hx:aU x=some x')(hy:aU y=some y')
  (ht:P.underlying t=some (.slice e)) (ht':P.underlying t'=some (.slice e')) (hkd:kindOf P e=some k) (hi:P.info? e=some i) (hz:i.zero=some z) (hzs:z.cells.size=bg k) (hsz:0<bg k)
  {o:Oper} (ho:o.op= .call {callee:=.builtin .append,args:= #[x,y],argTypes:= #[t,t']})
  {dr:Bool} {K:AS->Prop} {Q:Exit->Act->World->Prop} (h:lU P dr n o.dst (.app e k i.bytes x' y') K s):o.wp P a E.w (Bf F M n E K) Q:=by
 have rx:=bG R hx;have ix:=jZ R hx;have hsize:i.size=bg k:=by
  obtain⟨i',d,g1,_,g3,_⟩:=vX hkd;rw[hi] at g1; cases g1; exact g3
 have hnm:=Bc hkd;have hrun: ∀ {v w'},(Builtin.append_ #[t,t'] o.type #[a.eval x,a.eval y]).run P E.w= .ok v w'->(execOp a.eval o).run P E.w= .ok (.value v) w':=by
  intro v w' h;simp only[execOp,ho,resolve,invoke,builtin,Sem.run_bind,Sem.run_pure,Result.andThen_ok,List.map_toArray,List.map_cons,List.map_nil,h]
 simp only[lU] at h;split at h
 ·rename_i m hm;obtain⟨ad,c,news,hya,⟨hnl,hnr,hn1,hnf⟩,hmid⟩:=abA (P:=P) R hnm hy hm
  have grow: ∀ (l:List T) (Vs:Option Addr) (cap:Nat) (olds:List Value) (h0:Hp),a.eval x= .slice Vs l.length cap->RowOf P E k l (a.eval x) olds->T.aO M l->cap<l.length+m.length ->
    (l.length+m.length)*i.bytes<=140737488355328->l.length+m.length<=1152921504606846976->(∀ j oj,h0 j=some oj->E.h j=some oj) ->
    K {(s.put o.dst (.own n)) with hp:=upd h0 n (some ⟨e,k,l++m⟩)}->o.wp P a E.w (Bf F M n E K) Q:=by
   intro l Vs cap olds h0 hxa ⟨hol,hor,ho1,hof⟩ abB hg hb1 hb2 h0' h;have h1:=hof E.w.drew rfl;have h2:=hnf E.w.drew rfl;rw[hxa,<- hsize] at h1;rw[hya,<- hsize] at h2;have hr:=Oy (ty:=o.type) ht ht' hi hz h1 h2 hg (by omega) (growslice_fits hg hb1);rw[<- hxa,<- hya] at hr;unfold Oper.wp;rw[hrun hr];generalize hgc:grownCap E.w (l.length+m.length) cap e=gc at hr ⊢;have hge:l.length+m.length<=gc:=by rw[<- hgc]; exact grownCap_ge _ _ _ _
   have hgm:gc<=maxLen:=by rw[<- hgc]; exact grownCap_le_maxLen _ _ _ _ (by simp only[maxLen]; omega)
   have hcells:(olds.toArray++news.toArray++Builtin.zeroCells z.cells (gc-(l.length+m.length))).toList=olds++news++(Builtin.zeroCells z.cells (gc-(l.length+m.length))).toList:=by simp
   have hrows:aF E k (l++m) (olds++news++(Builtin.zeroCells z.cells (gc-(l.length+m.length))).toList):=by
    rw[rV];refine⟨iM hor fun q hq=>by rw[List.append_assoc,List.getElem?_append_left (by omega)],?_⟩;rw[List.append_assoc,List.drop_append_of_le_length (by omega),List.drop_of_length_le (by omega),List.nil_append];exact iM hnr fun q hq=>by rw[List.getElem?_append_left (by omega)]
   obtain⟨gc',rfl⟩: ∃ q,gc=q+1:=⟨gc-1,by omega⟩
   refine I9 R hn (ob:=⟨e,k,l++m⟩) h0' (w':=E.w.drew.alloc _) (wZ E.w.drew _) rfl rfl rfl (Nat.le_succ _) (fun g hg _=>jC E.w.drew _ hg) (fun g hg=>.inl ?_) ?_ hsz (fE.2 ⟨abB,hmid⟩) h
   ·simp[rowB] at hg; rw[<- hg]; exact Nat.le_refl _
   ·intro E' hK hw';refine .inl ⟨hnm,.inr ⟨E.w.heap.size,gc',_,by simp,by simpa using hge,hgm,by rw[hw']; exact uf E.w.drew _,?_,?_⟩⟩
    ·simp only[Array.size_append,List.size_toArray,size_zeroCells,hzs,hol,hnl,<- Nat.add_mul]
     congr 1
     omega
    ·rw[hcells]; exact dI _ _ M hK (fE.2 ⟨abB,hmid⟩) _ hrows
  split at h
  ·
   rename_i k' l e1;obtain⟨hkk,hne,hb1,hb2,h⟩:=h;rw[e1] at rx;obtain⟨Vs,cap,olds,hxa,hlc,hfull,hrow,abB⟩:=JW (P:=P) rx (k':=k) hkk;have hcap:=hfull rfl;have h0': ∀ j oj,s.hp j=some oj->E.h j=some oj:=fun j oj hj=>by rw[R.he]; exact hj
   by_cases hg:cap<l.length+m.length
   ·exact grow l Vs cap olds s.hp hxa hrow (T.aB (fun _ hf=>hf.elim) _ abB) hg hb1 hb2 h0' h
   ·have hm0:m=[]:=List.eq_nil_of_length_eq_zero (by omega);have hn0:news=[]:=List.eq_nil_of_length_eq_zero (by subst hm0; simpa using hnl);have h2:=hnf E.w rfl;rw[hya,<- hsize] at h2;rcases hne with hne|⟨_,hsame⟩
    rotate_left
    ·subst hm0;have hrn:=zQ (ty:=o.type) (base:=Vs) (sLen:=l.length) (sCap:=cap) ht ht' hi h2 hn0 (by simp; omega) rfl;rw[<- hxa] at hrn;simp only[List.length_nil] at hrn hya;rw[<- hya] at hrn;unfold Oper.wp;rw[hrun hrn];exact Bf.quiet R (by rw[<- e1]; exact ix) (by rw[<- e1]; rw[e1]; exact rx) hsame
    have hl0:l=[]:=hne.resolve_right (by simp[hm0]);subst hm0 hl0;have hr:=zQ (ty:=o.type) (base:=Vs) (sLen:=0) (sCap:=cap) ht ht' hi h2 hn0 (by simp) rfl;simp only[List.length_nil] at hxa hya hcap;subst hcap;rw[<- hxa] at hr;simp only[List.length_nil] at hr;rw[<- hya] at hr;unfold Oper.wp;rw[hrun hr];show Bf F M n E K (a.put o.dst (a.eval x)) E.w;refine I9 R hn (ob:=⟨e,k,[]⟩) h0' (Nat.le_refl _) rfl rfl rfl (Nat.le_refl _) (fun _ _ _=>rfl) (fun g hg=>?_) (fun E' _ _=>.inl ⟨hnm,.inl ⟨Vs,hxa,rfl⟩⟩) hsz (by simp[T.aO]) h;rw[hxa] at hg; cases Vs<;>simp[rowB] at hg
  ·
   rename_i j e1;split at h
   ·rename_i ob hob;simp only[Bool.and_eq_true,beq_iff_eq] at h;obtain⟨⟨hk1,hty⟩,hb1,hb2,h⟩:=h;rw[e1] at rx;have fA:E.h j=some ob:=by rw[R.he]; exact hob
    obtain⟨Vs,cap,olds,hxa,hlc,hφ,hrow⟩:=Nh (P:=P) R.hk fA (by rw[hk1]; exact hnm) rx;rw[hk1] at hrow;have Vt:=(R.mh j ob hob).2;have h0': ∀ q oq,(upd s.hp j none) q=some oq->E.h q=some oq:=fun q oq hq=>by
     by_cases hqj:q=j
     ·simp[upd,hqj] at hq
     ·rw[R.he]; simpa [upd,hqj] using hq
    by_cases hg:cap<ob.l.length+m.length
    ·exact grow ob.l Vs cap olds _ hxa hrow Vt hg hb1 hb2 h0' h
    ·rcases(R.hk.obs j ob fA).1.row (by rw[hk1]; exact hnm) with ⟨ad',h1,h2⟩|⟨g,c',cur,h1,h2,h3,hh,hcs,hr⟩
     ·
      have hcap:cap=0:=by rw[hφ,h1] at hxa; simp at hxa; omega
      have hm0:m=[]:=List.eq_nil_of_length_eq_zero (by omega);subst hm0 hcap;have hn0:news=[]:=List.eq_nil_of_length_eq_zero (by simpa using hnl);have hf:=hnf E.w rfl;rw[hya,<- hsize] at hf;have hrn:=zQ (ty:=o.type) (base:=Vs) (sLen:=ob.l.length) (sCap:=0) ht ht' hi hf hn0 (by rw[h2]; simp) rfl;rw[<- hxa,<- hya] at hrn;unfold Oper.wp;rw[hrun hrn];refine I9 R hn (ob:=⟨e,k,ob.l++[]⟩) h0' (Nat.le_refl _) rfl rfl rfl (Nat.le_refl _) (fun _ _ _=>rfl) (fun g hg=>?_) (fun E' _ _=>.inl ⟨hnm,.inl ⟨Vs,by rw[hxa,h2]; rfl,by simp[h2]⟩⟩) hsz (by simpa using Vt) h;rw[hxa] at hg; cases Vs<;>simp[rowB] at hg
     ·
      have hbc:Vs=some ⟨g,0,none⟩/\cap=c'+1:=by rw[hφ,h1] at hxa; simp at hxa; exact⟨hxa.1.symm,hxa.2.symm⟩
      obtain⟨rfl,rfl⟩:=hbc;have hf:=hnf E.w rfl;rw[hya,<- hsize] at hf;rw[hk1] at hcs hr;rw[hty] at hh;have hfit:ob.l.length*i.size+news.length<=cur.size:=by
       rw[hsize,hnl,hcs,<- Nat.add_mul]; exact Nat.mul_le_mul_right _ (by omega)
      have hrn:=Ox (ty:=o.type) (sLen:=ob.l.length) (sCap:=c'+1) ht ht' hi hh hf hn1 (by omega) hfit;rw[<- hxa,<- hya] at hrn;rw[hsize] at hrn hfit;unfold Oper.wp;rw[hrun hrn];generalize hcs':cur.toList.take (ob.l.length*bg k)++news++cur.toList.drop (ob.l.length*bg k+news.length)=cs' at hrn ⊢;obtain⟨s1,s2,s3⟩:=D8 (cur:=cur.toList) (off:=ob.l.length*bg k) (vs:=news) (by simpa using hfit);rw[hcs'] at s1 s2 s3;have hrb:rowB (E.φ j)=some g:=by rw[h1]; rfl
      refine I9 R hn (ob:=⟨e,k,ob.l++m⟩) h0' (w':=E.w.setRow g cs'.toArray) (v:=.slice (some ⟨g,0,none⟩) (ob.l.length+m.length) (c'+1)) (by simp) rfl rfl rfl (Nat.le_refl _) (fun q _ hq=>setRow_other E.w g q cs'.toArray (fun e=>hq (by rw[e]; rfl))) (fun q hq=>.inr ⟨j,ob,fA,by simp[upd],?_⟩) ?_ hsz
       (fE.2 ⟨Vt,hmid⟩) h
      ·simp[rowB] at hq; rw[hrb,hq]
      ·intro E' hK hw';refine .inl ⟨hnm,.inr ⟨g,c',cs'.toArray,by simp,by simp; omega,h3,by rw[hw']; exact setRow_heap _ _ _ _ _ _ hh,by simp only[List.size_toArray,s1,Array.length_toList]; exact hcs,?_⟩⟩;refine dI _ _ M hK (fE.2 ⟨Vt,hmid⟩) _ ?_;rw[rV];refine⟨iM hr fun q hq=>s3 q (.inl hq),?_⟩;refine iM hnr fun q hq=>?_
       have:(cs'.drop (ob.l.length*bg k)).take news.length=news:=s2
       have hq':q<m.length*bg k:=hq;rw[<- List.getElem?_take_of_lt (l:=cs'.drop (ob.l.length*bg k)) (show q<news.length by omega),this]
   ·exact h.elim
  ·exact h.elim
 ·exact h.elim
end ops
section ops
variable {P:Program} {nd:Bool} {F:Fr P} {M:Nat->Prop} {E:Env} {s:AS} {a:Act}
theorem bY(R:Rel F M E s a){n:Nat}{o:Oper}{t:T}(ht:t.ids M)(hq:qY P E a o t){K:AS->Prop}{Q:Exit->Act->World->Prop}(h:K (s.put o.dst t)) :
  o.wp P a E.w (Bf F M n E K) Q:=by
 obtain⟨v,hrun,hv⟩:=hq;unfold Oper.wp;rw[hrun];exact Bf.quiet R ht hv h
theorem JX(R:Rel F M E s a){n:Nat}(hn: ¬ M n){f:FuncId}{ts:List T}{vs:List Value}(hts:bF E ts vs)(hid:T.aO M ts){o:Oper}{dr:Bool}{K:AS->Prop}{Q:Exit->Act->World->Prop}
  (hrun:callable P f->(execOp a.eval o).run P E.w= .ok (.enter f vs.toArray) E.w) (h:mV P dr n o.dst f ts K s):o.wp P a E.w (Bf F M n E K) Q:=by
 obtain⟨_,hc,hcall⟩:=h;unfold Oper.wp;rw[hrun hc];refine(hcall F M E vs R.hk R.he hts hid R.mh hn).mono ?_;rintro e w' ⟨v,t,E',rfl,rfl,⟨_,hK⟩,hv,hok,hext,hS,ht,hm⟩;exact⟨E',_,rfl,hK,R.next (M':=fun i=>M i\/i=n) (fun _ h=>.inl h) hok hext hS ht hv hm o.dst,hext,hS⟩
theorem abC(v:Value):(T.lit v).ids M:=by simp[T.ids]
theorem Xa{c x y:T}(hx:x.ids M)(hy:y.ids M):(AY c x y).ids M:=by
 unfold AY;split
 ·rename_i b;split
  ·exact abC _
  ·cases b<;>simpa
 ·simp[T.ids]
theorem Dy(R:Rel F M E s a): ∀ {ps:List (Nat×Operand)} {ps':List (Nat×X)},kF ps=some ps'->T.aO M (ps'.map fun p=>s.ev p.2):=by
 intro ps;induction ps with
 |nil=>intro ps' h; cases h; simp[T.aO]
 |cons p ps ih =>
  intro ps' h;obtain⟨i,x⟩:=p;simp only[kF] at h;split at h
  ·rename_i x' r' h1 h2;cases h;simp only[List.map_cons,T.aO]; exact⟨jZ R h1,ih h2⟩
  ·cases h
theorem ad6(R:Rel F M E s a){k:Nat}{x:Operand}{x':X}(hx:aU x=some x'):(qt s (.ld k x')).ids M:=by
 have rx:=bG R hx;simp only[qt];split
 ·rename_i k' t e1;rw[e1,ay rfl] at rx;simp only[aN] at rx;obtain⟨b,off,cur,e,m,_,_,_,_,hid,_⟩:=rx;exact T.aZ (fun _ hf=>hf.elim) _ hid
 ·rename_i i j off e1;split
  ·rename_i ob hob;have:=(R.mh i ob hob).2;have hg:=vU (i:=j) (d:=.any) this (by simp[T.ids]);cases (off==0&&ob.k==k)
   ·exact JD hg _ _
   ·exact hg
  ·simp[T.ids]
 ·simp[T.ids]
theorem Zc(R:Rel F M E s a){n:Nat}(hn: ¬ M n){o:Oper}{op:nR}(hc:rW P nd o.op=some op)(hd:((∃ k x v,op= .st k x v)\/ ∃ x i v,op= .Tn x i v)->o.dst=none){dr:Bool}{K:AS->Prop}{Q:Exit->Act->World->Prop}
  (h:lU P dr n o.dst op K s):o.wp P a E.w (Bf F M n E K) Q:=by
 cases hop:o.op<;>rw[hop] at hc<;>simp only[rW] at hc<;>try (cases hc; done)
 case move x =>
  simp only[Option.map_eq_some_iff] at hc; obtain⟨x',hx,rfl⟩:=hc;exact bY R (jZ R hx) (afk R hx (.inl hop)) h.2
 case assign x =>
  simp only[Option.map_eq_some_iff] at hc; obtain⟨x',hx,rfl⟩:=hc;exact bY R (jZ R hx) (afk R hx (.inr hop)) h.2
 case pick c x y =>
  split at hc
  ·rename_i c' x' y' h1 h2 h3;cases hc;exact bY R (Xa (jZ R h2) (jZ R h3)) (adR R h1 h2 h3 hop h.1) h.2
  ·cases hc
 case alloc ty =>
  split at hc
  ·rename_i k z h1 h2;split at hc
   ·rename_i h3;cases hc;exact afq R hn h2 h3 hop h
   ·cases hc
  ·cases hc
 case box ty x =>
  split at hc
  ·rename_i x' k h1 h2;cases hc;exact adW R hn h1 hop h
  ·cases hc
 case build ty ps =>
  split at hc
  ·rename_i fs cs ps' h1 h2 h3;split at hc
   ·rename_i h4;cases hc;refine bY R ?_ (agI R hop h1 h2 h3 h4.1 h4.2 h.1) h.2;obtain⟨places,hp⟩:=Option.isSome_iff_exists.1 h4.2;have hq:=h.1;simp only[qc,Bool.and_eq_true] at hq;obtain⟨_,yF⟩:=x8 R h1 hp h3 hq.2;simp only[qt,T.ids];refine Na (bK.2 fun t ht=>?_) (by simpa [Function.comp_def] using yF);obtain⟨u,_,rfl⟩:=List.mem_map.1 ht;exact T.aZ (fun _ hf=>hf.elim) _ (EZ u)
   ·cases hc
  ·rename_i h1 h2;split at hc
   ·rename_i ps' h3 h5;split at hc
    ·rename_i h4;cases hc;refine bY R ?_ (afr R hop h1 h2 h5 h3 h4 h.1) h.2;simp only[qt,T.ids];refine Na (bK.2 fun t ht=>?_) (by simpa [Function.comp_def] using Dy R h3);obtain⟨u,_,rfl⟩:=List.mem_map.1 ht;exact T.aZ (fun _ hf=>hf.elim) _ (EZ u)
    ·cases hc
   ·cases hc
  ·cases hc
 case buildSlice ty len ps =>
  split at hc
  ·rename_i e ps' h1 h2;split at hc
   ·rename_i k z h3 h4;split at hc
    ·rename_i h5;split at hc
     ·cases hc;exact ad1 R hn h1 h2 (Dy R h2) h3 h4 h5.1 hop h
     ·cases hc;exact afs R h1 h2 h3 h4 h5.1 hop h.1 h.2
    ·cases hc
   ·cases hc
  ·cases hc
 case load ty x =>
  split at hc
  ·rename_i x' k h1 h2;cases hc;exact bY R (ad6 R h1) (q_ld R h1 hop h2 h.1) h.2
  ·cases hc
 case store ty x v =>
  split at hc
  ·rename_i x' v' k h1 h2 h3;cases hc;exact aft R h1 h2 h3 hop (hd (.inl ⟨_,_,_,rfl⟩)) h
  ·cases hc
 case nilCheck x =>
  simp only[Option.map_eq_some_iff] at hc; obtain⟨x',hx,rfl⟩:=hc;exact bY R (jZ R hx) (agC R hx hop h.1) h.2
 case binOp op t x y ty' =>
  split at hc
  ·rename_i x' y' h1 h2;have hlit:(qt s (.bin op x' y')).ids M:=by
    simp only[qt]; split
    ·split<;>simp[T.ids]
    ·simp[T.ids]
   have ado: ∀ ne,(qt s (.bb ne x' y')).ids M:=by
    intro ne; simp only[qt]; split<;>simp[T.ids]
   split at hc
   ·cases hc; exact bY R hlit (adk R h1 h2 hop h.1) h.2
   ·cases hc; exact bY R hlit (adk R h1 h2 hop h.1) h.2
   ·rename_i h3;split at hc
    ·cases hc; exact bY R (ado _) (afl R h1 h2 hop rfl h3 h.1) h.2
    ·cases hc; exact bY R (ado _) (afl R h1 h2 hop rfl h3 h.1) h.2
    ·cases hc
   ·rename_i fs h3;have hlit2: ∀ ne n,(qt s (.eqs ne n x' y')).ids M:=by
     intro ne n; simp only[qt]; split<;>simp[T.ids]
    split at hc
    ·rename_i n h4; cases hc; exact bY R (hlit2 _ _) (adl R h1 h2 hop rfl h3 h4 h.1) h.2
    ·rename_i n h4; cases hc; exact bY R (hlit2 _ _) (adl R h1 h2 hop rfl h3 h4 h.1) h.2
    ·cases hc
   ·rename_i e h3;split at hc
    ·cases hc; exact Y9 R h1 h2 h3 hop h
    ·cases hc
   ·cases hc
  ·cases hc
 case makeMap t r =>
  cases r with
  |some r=>simp only at hc; cases hc
  |none =>
   simp only at hc;split at hc
   ·cases hc; exact adX R hn hop h
   ·cases hc
 case lookup t x i ok =>
  cases ok with
  |false=>simp only at hc; cases hc
  |true =>
   simp only at hc;split at hc
   ·rename_i x' i' kt et h1 h2 h3;split at hc
    ·rename_i z h4 h5 h6
     ·cases hc;refine bY R ?_ (afn R h1 h2 hop h3 h4 h5 h.1) h.2;have hz:(JJ z).ids M:=T.aZ (fun _ hf=>hf.elim) _ (EZ z);have hml: ∀ (n:Int) (l:List T),T.aO M l-> ∀ u,xY n l=some u->u.ids M:=by
       intro n l;induction l with
       |nil=>intro _ u hu; cases hu
       |cons t ts ih =>
        intro hl u hu;simp only[T.aO] at hl;unfold xY at hu;split at hu
        ·cases hu
        ·rename_i heq;cases heq;revert hu;cases (n==_)
         ·simp only[cond_false]; exact ih hl.2 u
         ·simp only[cond_true,Option.some.injEq]; rintro rfl; simp only[T.ids,T.aO] at hl; exact hl.1.2.1
        ·rename_i heq;cases heq;exact ih hl.2 u hu
      simp only[qt];split
      ·split
       ·rename_i ob hob;split
        ·rename_i u hu; simp only[T.ids,T.aO]; exact⟨hml _ _ (R.mh _ ob hob).2 u hu,trivial,trivial⟩
        ·simp only[T.ids,T.aO]; exact⟨hz,trivial,trivial⟩
       ·simp[T.ids]
      ·simp[T.ids]
    ·cases hc
   ·cases hc
 case mapUpdate t x i v =>
  split at hc
  ·rename_i x' i' v' kt et h1 h2 h3 h4;split at hc
   ·rename_i h5;cases hc;exact ad2 R h1 h2 h3 h4 h5 hop (hd (.inr ⟨_,_,_,rfl⟩)) h
   ·cases hc
  ·cases hc
 case unOp op t x =>
  cases op<;>try (cases hc; done)
  simp only[Option.map_eq_some_iff] at hc; obtain⟨x',hx,rfl⟩:=hc;refine bY R ?_ (afm R hx hop h.1) h.2;simp only[qt]; split<;>simp[T.ids]
 case convert src dst x =>
  split at hc
  ·rename_i x' d k h1 h2 h3;cases hc;refine bY R ?_ (adT R h1 hop h2 h3 h.1) h.2;simp only[qt]; split<;>simp[T.ids]
  ·cases hc
 case makeFunc fn first cap =>
  cases fn<;>simp only at hc<;>try (cases hc; done)
  split at hc
  ·rename_i h0;simp only[Option.map_eq_some_iff] at hc; obtain⟨c',hx,rfl⟩:=hc;refine bY R ?_ (agG R hx hop h0 h.1) h.2;simp only[qt,T.ids]; exact(wX hx R).2
  ·split at hc
   ·rename_i x e1 e2;simp only[Option.map_eq_some_iff] at hc; obtain⟨x',hx,rfl⟩:=hc;refine bY R ?_ (agH R hx hop e1 e2 h.1) h.2;have ix:=jZ R hx;simp only[qt];split
    ·rename_i l e3; rw[e3] at ix; simpa [T.ids] using ix
    ·simp[T.ids]
   ·cases hc
 case makeSlice ty x y =>
  split at hc
  ·rename_i x' y' e h1 h2 h3;split at hc
   ·rename_i k i h4 h5;split at hc
    ·rename_i z h6;split at hc
     ·rename_i h7;cases hc;exact aby R hn h1 h2 h3 h4 h5 h6 h7 hop h
     ·cases hc
    ·cases hc
   ·cases hc
  ·cases hc
 case slice ty x lo hi mx =>
  split at hc
  ·rename_i x' lo' hi' mx' h1 h2 h3 h4;split at hc
   ·rename_i e h5;simp only[Option.map_eq_some_iff] at hc; obtain⟨k,hk,hc⟩:=hc;have hsl:(Qq k (s.ev x') (lo'.map s.ev) (hi'.map s.ev) (mx'.map s.ev)).ids M:=by
     unfold Qq; split<;>simp[T.ids]
    cases nd with
    |false =>
     simp only[cond_false] at hc; subst hc;exact bY R hsl (afo R h1 h2 h3 h4 hop h5 hk h.1) h.2
    |true =>
     simp only[cond_true] at hc; subst hc;have hq:=h.1;have hK:=h.2;simp only[qc] at hq;simp only[qt] at hK;split at hq
     ·rename_i i ei;split at hq
      ·rename_i ob hob;obtain⟨g1,g2⟩:=adV R h1 h2 h3 h4 hop h5 hk ei hob hq;rw[ei] at hK;simp only[hob] at hK;exact bY R g2 g1 hK
      ·exact hq.elim
     ·rename_i hno;have hK':K (s.put o.dst (Qq k (s.ev x') (lo'.map s.ev) (hi'.map s.ev) (mx'.map s.ev))):=by
       split at hK
       ·rename_i i ei; exact absurd ei (hno i)
       ·exact hK
      exact bY R hsl (afo R h1 h2 h3 h4 hop h5 hk hq) hK'
   ·rename_i h5;split at hc
    ·cases hc
     have:mx=none:=by
      cases mx with
      |none=>rfl
      |some m=>simp[vI] at h4
     subst this;refine bY R ?_ (agK R h1 h2 h3 hop h5 h.1) h.2;simp only[qt]; split<;>simp[T.ids]
    ·cases hc
   ·rename_i n e h5;have no: ∀ {z:Option Operand},vI z=some none->z=none:=fun {z} hz=>by
     cases z with
     |none=>rfl
     |some m=>simp[vI] at hz
    split at hc
    ·rename_i h6;cases hc;have:=no h2; subst this;have:=no h3; subst this;have:=no h4; subst this;refine bY R ?_ (agJ R h1 hop h5 h6 h.1) h.2;simp only[qt]; split<;>simp[T.ids]
    ·cases hc
   ·cases hc
  ·cases hc
 case fieldAddr ty x f =>
  split at hc
  ·rename_i x' off k h1 h2;cases hc;refine bY R ?_ (agy R h1 hop h2 h.1) h.2;have hx:=jZ R h1;simp only[qt]; split
   ·rename_i e1; rw[e1] at hx; simpa [T.ids] using hx
   ·simp[T.ids]
   ·simp[T.ids]
  ·cases hc
 case field ty x f =>
  split at hc
  ·rename_i x' off k h1 h2;cases hc;exact bY R (JD (jZ R h1) _ _) (agz R h1 hop h2 h.1) h.2
  ·cases hc
 case indexAddr ty x i =>
  split at hc
  ·rename_i x' i' e h1 h2 h3;simp only[Option.map_eq_some_iff] at hc; obtain⟨k,hk,rfl⟩:=hc;refine bY R ?_ (agA R h1 h2 hop h3 hk h.1) h.2;have hx:=jZ R h1;simp only[qt]; split
   ·simp[T.ids]
   ·rename_i e1 _; rw[e1] at hx; simpa [T.ids] using hx
   ·rename_i e1 _; rw[e1] at hx; simpa [T.ids] using hx
   ·simp[T.ids]
  ·cases hc
 case makeInterface t x=>cases hc; exact h.elim
 case panic x=>cases hc; exact h.elim
 case index ty x i =>
  split at hc
  ·rename_i x' i' h1 h2 h3;cases hc;refine bY R ?_ (agB R h1 h2 hop h3 h.1) h.2;simp only[qt]; split<;>simp[T.ids]
  ·cases hc
 case extract x i =>
  simp only[Option.map_eq_some_iff] at hc; obtain⟨x',hx,rfl⟩:=hc;refine bY R ?_ (agF R hx hop h.1) h.2;have hi:=jZ R hx;simp only[qt]; split
  ·rename_i l e1; rw[e1] at hi; simp only[T.ids] at hi; exact vU hi (by simp[T.ids])
  ·simp[T.ids]
 case call c =>
  obtain⟨callee,args,argTypes⟩:=c;simp only at hc;split at hc
  ·rename_i xs hxs;obtain⟨hts,yF⟩:=wX hxs R;split at hc
   ·rename_i f;cases hc;refine JX R hn hts yF (fun hcl=>?_) h;have:=hcl (args.map a.eval) E.w;have e2:(args.toList.map a.eval).toArray=args.map a.eval:=by
     apply Array.ext'; simp
    rw[e2];simp only[execOp,hop,resolve,Act.eval,Deferred.ofValue,invoke,Sem.run_bind,Sem.run_pure,Result.andThen_ok,Array.empty_append,Array.append_empty];exact this
   ·rename_i x _;simp only[Option.map_eq_some_iff] at hc; obtain⟨x',hx,rfl⟩:=hc;simp only[lU] at h;split at h
    ·rename_i f cap e1;have rx:=bG R hx;have ix:=jZ R hx;rw[e1,ay rfl] at rx;rw[e1] at ix;simp only[aN] at rx;have h0:Nat.blt f 8192=true:=by
      cases hb:Nat.blt f 4096 with
      |true=>exact Nat.blt_eq.mpr (Nat.lt_trans (Nat.blt_eq.mp hb) (by decide))
      |false=>rw[hb] at h; exact h.1
     obtain⟨_,cs,hu,hr⟩:Nat.blt f 8192=true/\ ∃ cs:Array Value,[a.eval x]=[YA f cs]/\aW E cap cs.toList:=by
      rcases rx with rx|⟨rx,_⟩
      ·exact rx
      ·rw[h0] at rx; cases rx
     have ha':a.eval x=YA f cs:=by simpa using hu
     have hcv: ∀ {l:List T} {vs:List Value},aW E l vs->bF E l vs:=by
      intro l;induction l with
      |nil=>intro vs h; simp[aW] at h; subst h; simp[bF]
      |cons t ts ih =>
       intro vs h;simp only[aW] at h;obtain⟨hk,v,r,rfl,_,h1,h2⟩:=h;rw[bJ]; exact⟨v,r,rfl,.inr ⟨hk,h1⟩,ih h2⟩
     rcases GR f cs with ⟨hlt,hfv⟩|⟨hge,hfv⟩
     ·rw[Nat.blt_eq.mpr hlt] at h;have ha:a.eval x= .func (.func f) #[] cs:=by rw[ha',hfv]
      refine JX R hn (EU hts (hcv hr)) (fE.2 ⟨yF,by simpa [T.ids] using ix⟩) (fun hcl=>?_) h;have:=hcl (args.map a.eval++cs) E.w;have e2:(args.toList.map a.eval++cs.toList).toArray=args.map a.eval++cs:=by
       apply Array.ext'; simp
      rw[e2];simp only[execOp,hop,resolve,ha,Deferred.ofValue,invoke,Sem.run_bind,Sem.run_pure,Result.andThen_ok,Array.empty_append,this]
     ·have hb:Nat.blt f 4096=false:=by
       cases hq:Nat.blt f 4096 with
       |false=>rfl
       |true=>exact absurd (Nat.blt_eq.mp hq) hge
      rw[hb] at h;replace h:=h.2;have ha:a.eval x= .func (.func (f % 4096)) #[.agg cs] #[]:=by rw[ha',hfv]
      refine JX R hn (ts:=.agg cap::xs.map s.ev) (vs:=.agg cs::args.toList.map a.eval) (bJ.2 ⟨_,_,rfl,.inl ⟨by simp[T.kd],cs,rfl,by simpa [aN] using hr⟩,hts⟩) (by simp only[T.aO]; exact⟨by simpa [T.ids] using ix,yF⟩) (fun hcl=>?_) h;have:=hcl (#[.agg cs]++args.map a.eval) E.w;have e2:(Value.agg cs::args.toList.map a.eval).toArray= #[.agg cs]++args.map a.eval:=by
       apply Array.ext'; simp
      rw[e2];simp only[execOp,hop,resolve,ha,Deferred.ofValue,invoke,Sem.run_bind,Sem.run_pure,Result.andThen_ok,Array.append_empty,this]
    ·exact h.elim
   ·rename_i b;unfold qN at hc;have hargs: ∀ {x':X},xs=[x']-> ∃ x,args= #[x]/\aU x=some x':=by
     intro x' hx;subst hx;cases args with
     |mk l =>
      simp only at hxs;cases l with
      |nil=>simp[pz] at hxs
      |cons y r =>
       simp only[pz] at hxs;split at hxs
       ·rename_i y' r' g1 g2;simp only[Option.some.injEq,List.cons.injEq] at hxs;obtain⟨rfl,rfl⟩:=hxs;cases r with
        |nil=>exact⟨y,rfl,g1⟩
        |cons q r=>simp only[pz] at g2; split at g2<;>simp at g2
       ·cases hxs
    have Ue: ∀ {x' y':X},xs=[x',y']-> ∃ x y,args= #[x,y]/\aU x=some x'/\aU y=some y':=by
     intro x' y' hx;subst hx;cases args with
     |mk l =>
      simp only at hxs;cases l with
      |nil=>simp[pz] at hxs
      |cons y r =>
       simp only[pz] at hxs;split at hxs
       ·rename_i z' r' g1 g2;simp only[Option.some.injEq,List.cons.injEq] at hxs;obtain⟨rfl,rfl⟩:=hxs;cases r with
        |nil=>simp[pz] at g2
        |cons q r =>
         simp only[pz] at g2;split at g2
         ·rename_i u' r'' g3 g4;simp only[Option.some.injEq,List.cons.injEq] at g2;obtain⟨rfl,rfl⟩:=g2;cases r with
          |nil=>exact⟨y,q,rfl,g1,g3⟩
          |cons p r=>simp only[pz] at g4; split at g4<;>simp at g4
         ·cases g2
       ·cases hxs
    split at hc
    ·rename_i t ts x' hat;obtain⟨x,rfl,hx⟩:=hargs rfl;have h0:argTypes[0]? =some t:=by
      cases argTypes with
      |mk l=>simp only at hat; subst hat; rfl
     have hlen: ∀ str,(qt s (.len str x')).ids M:=by
      intro str; simp only[qt]; split
      ·simp[T.ids]
      ·split<;>simp[T.ids]
      ·simp[T.ids]
      ·simp[T.ids]
      ·simp[T.ids]
     split at hc
     ·rename_i e h1;cases hc;exact bY R (hlen _) (q_len R hx hop h0 (by simp only[Bool.false_eq_true,if_false]; exact⟨e,h1⟩) h.1) h.2
     ·rename_i h1;cases hc;exact bY R (hlen _) (q_len R hx hop h0 (by simp only[if_true]; exact h1) h.1) h.2
     ·cases hc
    ·rename_i t ts x' hat;obtain⟨x,rfl,hx⟩:=hargs rfl;have h0:argTypes[0]? =some t:=by
      cases argTypes with
      |mk l=>simp only at hat; subst hat; rfl
     split at hc
     ·rename_i e h1;cases hc;refine bY R ?_ (afp R hx hop h0 h1 h.1) h.2;simp only[qt]; split<;>simp[T.ids]
     ·cases hc
    ·rename_i t ts x' hat;obtain⟨x,rfl,hx⟩:=hargs rfl;have h0:argTypes[0]? =some t:=by
      cases argTypes with
      |mk l=>simp only at hat; subst hat; rfl
     split at hc
     ·rename_i e h1;split at hc
      ·rename_i k z h3 h4;split at hc
       ·rename_i h5;cases hc;exact ad3 R hx hop h0 h1 h3 h4 h5.1 h5.2 h
       ·cases hc
      ·cases hc
     ·cases hc
    ·rename_i x' y';obtain⟨x,y,rfl,hx,hy⟩:=Ue rfl;cases hc;refine bY R ?_ (agD R hx hy hop h.1) h.2;simp only[qt]; split<;>simp[T.ids]
    ·rename_i x' y';obtain⟨x,y,rfl,hx,hy⟩:=Ue rfl;cases hc;refine bY R ?_ (agE R hx hy hop h.1) h.2;simp only[qt]; split<;>simp[T.ids]
    ·rename_i t t' x' y' hat;obtain⟨x,y,rfl,hx,hy⟩:=Ue rfl;have hat':argTypes= #[t,t']:=by
      cases argTypes with
      |mk l=>simp only at hat; rw[hat]
     subst hat';split at hc
     ·rename_i e e' h1 h2;split at hc
      ·rename_i k i h3 h4;split at hc
       ·rename_i z h5;split at hc
        ·rename_i h6;cases hc;exact ad5 R hn hx hy h1 h2 h3 h4 h5 h6.2.1 h6.2.2 hop h
        ·cases hc
       ·cases hc
      ·cases hc
     ·cases hc
    ·cases hc
   ·cases hc
  ·cases hc
def afy(F:Fr P)(M:Nat->Prop)(n:Nat)(E:Env)(s:AS)(K:AS->Prop)(a':Act)(w':World):Prop :=
 ∃ E' s' k,E'.w=w'/\K s'/\s'.nx=s.nx+k/\s'.pin=s.pin/\Rel F (fun i=>M i\/n<=i/\i<=n+k) E' s' a'/\Ext F E E'/\Same E E' M
theorem GX{f:FuncId}{xs ys:List X}{b:Builtin}{ts:List TypeId}(h:qN P b ts ys=some (.call f xs)):False:=by
 unfold qN at h;repeat' (first|(cases h; done)|split at h)
theorem E8{f:X}{xs ys:List X}{b:Builtin}{ts:List TypeId}(h:qN P b ts ys=some (.ig f xs)):False:=by
 unfold qN at h;repeat' (first|(cases h; done)|split at h)
theorem Oz{x:X}{xs:List X}{o:Op}(h:rW P nd o=some (.ig x xs)): ∃ x0 args ty,o= .call ⟨.value x0,args,ty⟩/\aU x0=some x/\pz args.toList=some xs:=by
 unfold rW at h;split at h
 all_goals
  first
  |(cases h; done)
  |(simp only[Option.map_eq_some_iff] at h; obtain⟨_,_,h⟩:=h; cases h; done)
  |(repeat' (first|(cases h; done)|(exact(E8 h).elim)|(simp only[Option.map_eq_some_iff] at h; obtain⟨_,_,h⟩:=h; cases nd<;>cases h; done)|(simp only[Option.map_eq_some_iff] at h; obtain⟨_,_,h⟩:=h; cases h; done)|split at h))
 rename_i c _ _ hxs _ x1 _ Zd;obtain⟨callee,args,ty⟩:=c;simp only at Zd hxs;simp only[Option.map_eq_some_iff] at h;obtain⟨x',hx',h⟩:=h;cases h;subst Zd;exact⟨_,args,ty,rfl,hx',hxs⟩
theorem Xb(R:Rel F M E s a){n:Nat}(hn: ¬ M n){o:Oper}{x:X}{xs:List X}(hc:rW P nd o.op=some (.ig x xs)){dr:Bool}{K:AS->Prop}{Q:Exit->Act->World->Prop}
  (h:opW P dr n o.dst (.ig x xs) K s) (r:Option Nat):o.wpIn {Fence.wide with round:=r} 0 P a E.w (Bf F M n E K) Q:=by
 obtain⟨x0,args,ty,hop,hx0,hxs⟩:=Oz hc;obtain⟨hts,yF⟩:=wX hxs R;have rx:=bG R hx0;have ix:=jZ R hx0;replace h:=h.2;split at h
 ·rename_i f cap hx;obtain⟨hf,_,hY⟩:=h;rw[hx] at rx ix;have rx':=rx;rw[ay rfl] at rx';simp only[aN] at rx';rcases rx' with ⟨h0,_⟩|⟨_,p,hp,_,hu,_⟩
  ·rw[hf] at h0; cases h0
  have ha:a.eval x0= .func (.yield p.l) #[] #[]:=by simpa using hu
  obtain⟨fn,tm,as,bd,hy,hR⟩:=hY F M E _ _ R.hk R.he rx hts ix yF R.mh hn p hp;have e2:(args.toList.map a.eval).toArray=args.map a.eval:=by
   apply Array.ext'; simp
  rw[e2] at hy;have hrun:(execOp a.eval o).run P E.w= .ok (.round p.l fn tm as bd) E.w:=by
   simp only[execOp,hop,resolve,ha,Deferred.ofValue,invoke,Sem.run_bind,Sem.run_pure,Result.andThen_ok,Array.empty_append];exact hy
  refine⟨fun _ _=>trivial,?_⟩;rw[Oper.semAt_eq _ _ _ (by rw[hop]; intro c q; cases q),hrun,Oper.uponIn_round];refine⟨(fun q=>by cases q),?_⟩;refine RoundIn.mono (F:=Fence.wide) hR ?_;rintro e w' ⟨v,t,E',rfl,rfl,hK,hv,hok,hext,hS,ht,hm⟩;exact⟨E',_,rfl,hK,R.next (M':=fun i=>M i\/i=n) (fun _ h=>.inl h) hok hext hS ht hv hm o.dst,hext,hS⟩
 ·exact h.elim
theorem QG{f:FuncId}{xs:List X}{o:Op}(h:rW P nd o=some (.call f xs)): ∃ args ty,o= .call ⟨.value (.func f),args,ty⟩/\pz args.toList=some xs:=by
 unfold rW at h;split at h
 all_goals
  first
  |(cases h; done)
  |(simp only[Option.map_eq_some_iff] at h; obtain⟨_,_,h⟩:=h; cases h; done)
  |(repeat' (first|(cases h; done)|(exact(GX h).elim)|(simp only[Option.map_eq_some_iff] at h; obtain⟨_,_,h⟩:=h; cases nd<;>cases h; done)|(simp only[Option.map_eq_some_iff] at h; obtain⟨_,_,h⟩:=h; cases h; done)|split at h))
 rename_i c _ _ hxs _ _ Zd;obtain⟨callee,args,ty⟩:=c;simp only at Zd hxs;cases h;subst Zd;exact⟨args,ty,rfl,hxs⟩
theorem Xc(R:Rel F M E s a){n:Nat}(hn: ∀ i,M i->i<n){o:Oper}{op:nR}(hcv: ∀ x xs,op≠ .ig x xs)(hc:rW P nd o.op=some op){dr:Bool}{K:AS->Prop}{Q:Exit->Act->World->Prop}
  (h:opW P dr n o.dst op K s):o.wp P a E.w (afy F M n E s K) Q:=by
 cases op<;>try (exact h.elim)
 case ig=>exact(hcv _ _ rfl).elim
 case call f xs =>
  obtain⟨args,ty,hop,hxs⟩:=QG hc;obtain⟨hts,yF⟩:=wX hxs R;obtain⟨_,k,_,hcl,hcall⟩:=h;have hrun:(execOp a.eval o).run P E.w= .ok (.enter f (args.toList.map a.eval).toArray) E.w:=by
   have:=hcl (args.map a.eval) E.w;have e2:(args.toList.map a.eval).toArray=args.map a.eval:=by
    apply Array.ext'; simp
   rw[e2];simp only[execOp,hop,resolve,Act.eval,Deferred.ofValue,invoke,Sem.run_bind,Sem.run_pure,Result.andThen_ok,Array.empty_append,Array.append_empty];exact this
  unfold Oper.wp;rw[hrun];refine(hcall F M E _ R.hk R.he hts yF R.mh hn).mono ?_;rintro e w' ⟨v,t,E',rfl,rfl,hK,hv,hok,hext,hS,ht,hm⟩;have R':=R.next (M':=fun i=>M i\/n<=i/\i<=n+k) (fun _ h=>.inl h) hok hext hS ht hv hm o.dst;exact⟨E',_,k,rfl,hK,rfl,by cases o.dst<;>rfl,⟨R'.hk,R'.he,R'.fr,R'.df,R'.mf,R'.mh⟩,hext,hS⟩
end ops
def xQ(h h':Hp):Prop:= ∀ o ob,h o=some ob->h' o=some ob
theorem xQ.some{h h':Hp}(H:xQ h h'){i:Nat}(hi:(h i).isSome=true):(h' i).isSome=true:=by
 obtain⟨ob,hob⟩:=Option.isSome_iff_exists.1 hi;rw[H i ob hob]; rfl
def OA(N:Nat->Prop)(h h':Hp):Prop:= ∀ o ob,N o->h o=some ob->h' o=some ob
theorem xQ.n{h h':Hp}(H:xQ h h'):OA (fun _=>True) h h':=fun o ob _=>H o ob
theorem OA.some{N:Nat->Prop}{h h':Hp}(H:OA N h h'){i:Nat}(hn:N i)(hi:(h i).isSome=true):(h' i).isSome=true:=by
 obtain⟨ob,hob⟩:=Option.isSome_iff_exists.1 hi;rw[H i ob hn hob]; rfl
theorem Nj{N:Nat->Prop}{h h':Hp}(H:OA N h h'){t:T}(hn:t.ids N)(ht:t.yT h=true):t.yT h'=true:=by
 cases t<;>simp only[T.yT,T.ids] at ht hn ⊢ <;>first|exact ht|exact H.some hn ht
theorem Nk{N:Nat->Prop}{h h':Hp}(H:OA N h h'){t:T}(hn:t.ids N)(ht:t.jW h=true):t.jW h'=true:=by
 cases t<;>simp only[T.jW] at ht ⊢ <;>exact Nj H hn ht
theorem D9{N:Nat->Prop}{h h':Hp}(H:OA N h h'): ∀ {l:List T},T.aO N l->wQ h l=true->wQ h' l=true:=by
 intro l;induction l with
 |nil=>intro _ _; rfl
 |cons t ts ih=>intro hn hl; simp only[wQ,Bool.and_eq_true,T.aO] at hl hn ⊢; exact⟨Nk H hn.1 hl.1,ih hn.2 hl.2⟩
theorem QH{N:Nat->Prop}{h h':Hp}(H:OA N h h'): ∀ {l:List T},T.aO N l->zL h l=true->zL h' l=true:=by
 intro l;induction l with
 |nil=>intro _ _; rfl
 |cons t ts ih=>intro hn hl; simp only[zL,Bool.and_eq_true,T.aO] at hl hn ⊢; exact⟨Nj H hn.1 hl.1,ih hn.2 hl.2⟩
theorem lg(t:T):t.ids (fun _=>True):=by
 apply T.rec (motive_1:=fun t=>t.ids (fun _=>True)) (motive_2:=fun l=>T.aO (fun _=>True) l);all_goals (intros; simp_all[T.ids,T.aO])
theorem JY{h h':Hp}(H:xQ h h'){t:T}(ht:t.jW h=true):t.jW h'=true:=Nk H.n (lg t) ht
theorem ug{s s':AS}{x:Option X}(h: ∀ y∈x.toList,s.ev y=s'.ev y):x.map s.ev=x.map s'.ev:=by
 cases x with
 |none=>rfl
 |some y=>simp[h y (by simp)]
theorem Ze{N:Nat->Prop}{s s':AS}{op:nR}(hq:bC op=true)(hx: ∀ x∈op.xs,s.ev x=s'.ev x)(hn: ∀ x∈op.xs,(s.ev x).ids N)(H:OA N s.hp s'.hp)(h:qc s op):qc s' op/\qt s' op=qt s op:=by
 cases op<;>simp only[nR.xs,List.mem_cons,List.not_mem_nil,or_false,forall_eq_or_imp,forall_eq] at hx hn<;>try (simp[bC] at hq; done)
 case mv x=>simp only[qc,qt,hx,and_self]
 case pick c x y=>simp only[qc,qt] at h ⊢; rw[<- hx.1,<- hx.2.1,<- hx.2.2]; exact⟨h,rfl⟩
 case bin op x y=>simp only[qc,qt] at h ⊢; rw[<- hx.1,<- hx.2]; exact⟨h,rfl⟩
 case bb ne x y=>simp only[qc,qt] at h ⊢; rw[<- hx.1,<- hx.2]; exact⟨h,rfl⟩
 case not x=>simp only[qc,qt] at h ⊢; rw[<- hx]; exact⟨h,rfl⟩
 case conv k x=>simp only[qc,qt] at h ⊢; rw[<- hx]; exact⟨h,rfl⟩
 case fa off k x =>
  simp only[qc,qt] at h ⊢; rw[<- hx];refine⟨?_,rfl⟩;split at h
  ·rename_i e1; rw[e1] at hn; exact H.some hn h
  ·exact h
  ·exact h.elim
 case fv off k x=>simp only[qc,qt] at h ⊢; rw[<- hx]; exact⟨h,rfl⟩
 case ia k x i =>
  simp only[qc,qt] at h ⊢; rw[<- hx.1,<- hx.2];refine⟨?_,rfl⟩;split at h
  ·exact h
  ·rename_i e1 _;rw[e1] at hn;split at h
   ·rename_i ob hob; rw[H _ _ hn.1 hob]; exact h
   ·exact h.elim
  ·rename_i e1 _;rw[e1] at hn;split at h
   ·rename_i ob hob; rw[H _ _ hn.1 hob]; exact h
   ·exact h.elim
  ·exact h.elim
 case ch x i=>simp only[qc,qt] at h ⊢; rw[<- hx.1,<- hx.2]; exact⟨h,rfl⟩
 case ld k x =>
  simp only[qc,qt] at h ⊢; rw[<- hx];split at h
  ·exact⟨h,rfl⟩
  ·rename_i e1;rw[e1] at hn;split at h
   ·rename_i ob hob; rw[H _ _ hn hob]; exact⟨h,rfl⟩
   ·exact h.elim
  ·exact h.elim
 case nc x =>
  simp only[qc,qt] at h ⊢; rw[<- hx];refine⟨?_,rfl⟩;split at h
  ·rename_i e1; rw[e1] at hn; exact H.some hn h
  ·trivial
  ·trivial
  ·exact h.elim
 case len str x =>
  simp only[qc,qt] at h ⊢; rw[<- hx];split at h
  ·exact⟨h,rfl⟩
  ·rename_i e1;rw[e1] at hn;split at h
   ·rename_i ob hob; rw[H _ _ hn hob]; exact⟨h,rfl⟩
   ·exact h.elim
  ·rename_i e1;rw[e1] at hn;exact⟨⟨h.1,H.some hn h.2⟩,rfl⟩
  ·exact⟨h,rfl⟩
  ·exact h.elim
 case mx x y=>simp only[qc,qt] at h ⊢; rw[<- hx.1,<- hx.2]; exact⟨h,rfl⟩
 case mn x y=>simp only[qc,qt] at h ⊢; rw[<- hx.1,<- hx.2]; exact⟨h,rfl⟩
 case mk z ps =>
  have e: ∀ p∈ps,s.ev p.2.2=s'.ev p.2.2:=fun p hp=>hx _ (List.mem_map.2 ⟨p,hp,rfl⟩)
  have e1:(ps.map fun p=>(p.1,p.2.1,s.ev p.2.2))=ps.map fun p=>(p.1,p.2.1,s'.ev p.2.2):=List.map_congr_left fun p hp=>by rw[e p hp]
  have e2:(ps.map fun p=>s.ev p.2.2)=ps.map fun p=>s'.ev p.2.2:=List.map_congr_left fun p hp=>e p hp
  simp only[qc,qt,Bool.and_eq_true] at h ⊢;rw[<- e1,<- e2];exact⟨⟨h.1,D9 H (bK.2 fun t ht=>by obtain⟨p,hp,rfl⟩:=List.mem_map.1 ht; exact hn _ (List.mem_map.2 ⟨p,hp,rfl⟩)) h.2⟩,rfl⟩
 case ms ty k z n ps =>
  have e: ∀ p∈ps,s.ev p.2=s'.ev p.2:=fun p hp=>hx _ (List.mem_map.2 ⟨p,hp,rfl⟩)
  have e1:(ps.map fun p=>(p.1,s.ev p.2))=ps.map fun p=>(p.1,s'.ev p.2):=List.map_congr_left fun p hp=>by rw[e p hp]
  have e2:(ps.map fun p=>s.ev p.2)=ps.map fun p=>s'.ev p.2:=List.map_congr_left fun p hp=>e p hp
  simp only[qc,qt,Bool.and_eq_true] at h ⊢;rw[<- e1,<- e2];obtain⟨⟨⟨⟨⟨⟨h1,h2⟩,h3⟩,h4⟩,h5⟩,h6⟩,h7⟩:=h;exact⟨⟨⟨⟨⟨⟨⟨h1,h2⟩,h3⟩,D9 H (bK.2 fun t ht=>by obtain⟨p,hp,rfl⟩:=List.mem_map.1 ht; exact hn _ (List.mem_map.2 ⟨p,hp,rfl⟩)) h4⟩,h5⟩,h6⟩,h7⟩,rfl⟩
 case sl k x lo hi mx =>
  have e1:=ug (s:=s) (s':=s') (x:=lo) fun y hy=>hx.2 y (by simp[hy])
  have e2:=ug (s:=s) (s':=s') (x:=hi) fun y hy=>hx.2 y (by simp[hy])
  have e3:=ug (s:=s) (s':=s') (x:=mx) fun y hy=>hx.2 y (by simp[hy])
  simp only[qc,qt] at h ⊢;rw[<- hx.1,<- e1,<- e2,<- e3]; exact⟨h,rfl⟩
 case ss x lo hi =>
  have e1:=ug (s:=s) (s':=s') (x:=lo) fun y hy=>hx.2 y (by simp[hy])
  have e2:=ug (s:=s) (s':=s') (x:=hi) fun y hy=>hx.2 y (by simp[hy])
  simp only[qc,qt] at h ⊢;rw[<- hx.1,<- e1,<- e2]; exact⟨h,rfl⟩
 case ex x i=>simp only[qc,qt] at h ⊢; rw[<- hx]; exact⟨h,rfl⟩
 case eqs ne n x y=>simp only[qc,qt] at h ⊢; rw[<- hx.1,<- hx.2]; exact⟨h,rfl⟩
 case Oj x=>simp only[qc,qt] at h ⊢; rw[<- hx]; exact⟨h,rfl⟩
 case sa n x=>simp only[qc,qt] at h ⊢; rw[<- hx]; exact⟨h,rfl⟩
 case Yz k x lo hi mx =>
  have e1:=ug (s:=s) (s':=s') (x:=lo) fun y hy=>hx.2 y (by simp[hy])
  have e2:=ug (s:=s) (s':=s') (x:=hi) fun y hy=>hx.2 y (by simp[hy])
  have e3:=ug (s:=s) (s':=s') (x:=mx) fun y hy=>hx.2 y (by simp[hy])
  simp only[qc,qt] at h ⊢;rw[<- hx.1,<- e1,<- e2,<- e3];split at h
  ·rename_i i ei;rw[ei] at hn;split at h
   ·rename_i ob hob; rw[H _ _ hn.1 hob]; exact⟨h,rfl⟩
   ·exact h.elim
  ·exact⟨h,rfl⟩
 case mlk z x i =>
  simp only[qc,qt] at h ⊢; rw[<- hx.1,<- hx.2];split at h
  ·rename_i e1 e2;rw[e1] at hn;split at h
   ·rename_i ob hob; rw[e1,e2]; simp only; rw[H _ _ hn.1 hob,hob]; exact⟨h,rfl⟩
   ·exact h.elim
  ·exact h.elim
 case mf f cap =>
  have e:cap.map s.ev=cap.map s'.ev:=List.map_congr_left fun x hx'=>hx x hx'
  simp only[qc,qt] at h ⊢;rw[Bool.and_eq_true] at h;rw[<- e,Bool.and_eq_true]; exact⟨⟨QH H (bK.2 fun t ht=>by obtain⟨x,hx',rfl⟩:=List.mem_map.1 ht; exact hn x hx') h.1,h.2⟩,rfl⟩
 case mb f x=>simp only[qc,qt] at h ⊢; rw[<- hx]; exact⟨h,rfl⟩
theorem Dz{s s':AS}{op:nR}(hq:bC op=true)(hx: ∀ x∈op.xs,s.ev x=s'.ev x)(H:xQ s.hp s'.hp)(h:qc s op):qc s' op/\qt s' op=qt s op :=
 Ze hq hx (fun _ _=>lg _) H.n h
def xg:nR->Bool
 | .mv _=>true
 | .pick .. =>true
 | .bin .. =>true
 | .bb .. =>true
 | .not _=>true
 | .conv .. =>true
 | .fv .. =>true
 | .ch .. =>true
 | .mx .. =>true
 | .mn .. =>true
 | .sl .. =>true
 | .ss .. =>true
 | .ex .. =>true
 | .eqs .. =>true
 | .sa .. =>true
 |_=>false
theorem Uf{s s':AS}{op:nR}(hq:xg op=true)(hx: ∀ x∈op.xs,s.ev x=s'.ev x)(h:qc s op):qc s' op/\qt s' op=qt s op:=by
 cases op<;>simp only[nR.xs,List.mem_cons,List.not_mem_nil,or_false,forall_eq_or_imp,forall_eq] at hx<;>try (simp[xg] at hq; done)
 case mv x=>simp only[qc,qt,hx,and_self]
 case pick c x y=>simp only[qc,qt] at h ⊢; rw[<- hx.1,<- hx.2.1,<- hx.2.2]; exact⟨h,rfl⟩
 case bin op x y=>simp only[qc,qt] at h ⊢; rw[<- hx.1,<- hx.2]; exact⟨h,rfl⟩
 case bb ne x y=>simp only[qc,qt] at h ⊢; rw[<- hx.1,<- hx.2]; exact⟨h,rfl⟩
 case not x=>simp only[qc,qt] at h ⊢; rw[<- hx]; exact⟨h,rfl⟩
 case conv k x=>simp only[qc,qt] at h ⊢; rw[<- hx]; exact⟨h,rfl⟩
 case fv off k x=>simp only[qc,qt] at h ⊢; rw[<- hx]; exact⟨h,rfl⟩
 case ch x i=>simp only[qc,qt] at h ⊢; rw[<- hx.1,<- hx.2]; exact⟨h,rfl⟩
 case mx x y=>simp only[qc,qt] at h ⊢; rw[<- hx.1,<- hx.2]; exact⟨h,rfl⟩
 case mn x y=>simp only[qc,qt] at h ⊢; rw[<- hx.1,<- hx.2]; exact⟨h,rfl⟩
 case sl k x lo hi mx =>
  have e1:=ug (s:=s) (s':=s') (x:=lo) fun y hy=>hx.2 y (by simp[hy])
  have e2:=ug (s:=s) (s':=s') (x:=hi) fun y hy=>hx.2 y (by simp[hy])
  have e3:=ug (s:=s) (s':=s') (x:=mx) fun y hy=>hx.2 y (by simp[hy])
  simp only[qc,qt] at h ⊢;rw[<- hx.1,<- e1,<- e2,<- e3]; exact⟨h,rfl⟩
 case ss x lo hi =>
  have e1:=ug (s:=s) (s':=s') (x:=lo) fun y hy=>hx.2 y (by simp[hy])
  have e2:=ug (s:=s) (s':=s') (x:=hi) fun y hy=>hx.2 y (by simp[hy])
  simp only[qc,qt] at h ⊢;rw[<- hx.1,<- e1,<- e2]; exact⟨h,rfl⟩
 case sa n x=>simp only[qc,qt] at h ⊢; rw[<- hx]; exact⟨h,rfl⟩
 case ex x i=>simp only[qc,qt] at h ⊢; rw[<- hx]; exact⟨h,rfl⟩
 case eqs ne n x y=>simp only[qc,qt] at h ⊢; rw[<- hx.1,<- hx.2]; exact⟨h,rfl⟩
def gv(g:Option (Nat×Bool))(s:AS):Option Bool :=
 match g with
 |none=>some true
 |some (d,want) =>
  match s.fr.getD d .any with
  | .lit (.bool b)=>some (b==want)
  | .lit (.tuple _)=>some false
  |_=>none
theorem set_self{l:List T}{d:Nat}{t:T}(h:l.getD d .any=t)(ht:t≠ .any):l.set d t=l:=by
 rw[List.getD_eq_getElem?_getD] at h;cases hd:l[d]? with
 |none=>rw[hd] at h; simp at h; exact absurd h.symm ht
 |some u =>
  rw[hd] at h; simp at h; subst h;rw[List.getElem?_eq_some_iff] at hd;obtain⟨hlt,rfl⟩:=hd;exact List.set_getElem_self hlt
theorem Ea{g:Option (Nat×Bool)}{s:AS}{yes no:AS->Prop}:GN g s yes no↔(gv g s=some true/\yes s)\/(gv g s=some false/\no s):=by
 unfold GN gv;cases g with
 |none=>simp
 |some p =>
  obtain⟨d,want⟩:=p;simp only;generalize hq:s.fr.getD d .any=q;cases q with
  |lit v =>
   cases v with
   |bool b =>
    have hput: ∀ c,b=c->s.put (some d) (.lit (.bool c))=s:=by
     rintro c rfl;show({s with fr:=s.fr.set d (.lit (.bool b))}:AS)=s;rw[set_self hq (by simp)]
    simp only;cases b<;>cases want<;>simp[hput]
   |_=>simp
  |_=>simp
def JZ(P:Program)(dr:Bool)(n:Nat)(o:aJ)(K:AS->Prop)(s:AS):Prop :=
 (gv o.g s=some true/\iZ o s/\lU P (o.dr dr) n o.d o.op K s)\/(gv o.g s=some false/\K (s.put o.d T.un))
def J3(P:Program)(dr:Bool)(n:Nat)(o:aJ)(K:AS->Prop)(s:AS):Prop :=
 (gv o.g s=some true/\iZ o s/\opR P dr n o K s)\/(gv o.g s=some false/\K (s.put o.d T.un))
def Ug(P:Program)(dr:Bool)(n:Nat)(o:aJ)(K:AS->Prop)(s:AS):Prop :=
 (gv o.g s=some true/\iZ o s/\lU P (o.dr dr) n o.d o.op (mkK o s K) s)\/(gv o.g s=some false/\K (s.put o.d T.un))
def aJ.reads(o:aJ)(d:Nat):Bool :=
 ((o.op.xs.any fun x=>match x with| .t n=>n==d| .c _=>false)||(match o.g with|some (g,_)=>g==d|none=>false))||o.ne.any (· ==d)
def xk(j i:aJ):Bool :=
 (match j.d with|some d=> !i.reads d&&(match i.d with|some e=> !(d==e)|none=>true)|none=>true) &&
 (match i.d with|some d=> !j.reads d|none=>true)
theorem ad7{s:AS}{d:Option Nat}{t:T}{x:X}(h: ∀ e,d=some e->x≠ .t e):(s.put d t).ev x=s.ev x:=by
 cases d with
 |none=>rfl
 |some e =>
  cases x with
  |c v=>rfl
  |t n =>
   have hne:e≠n:=fun he=>h e rfl (by rw[he])
   show(s.fr.set e t).getD n T.un=s.fr.getD n T.un;rw[List.getD_eq_getElem?_getD,List.getD_eq_getElem?_getD,List.getElem?_set_ne hne]
theorem fZ{s:AS}{d:Option Nat}{t:T}{o:aJ}(h: ∀ e,d=some e->o.reads e=false): ∀ x∈o.op.xs,s.ev x=(s.put d t).ev x:=by
 intro x hx;refine(ad7 fun e he hxe=>?_).symm;have:=h e he;simp only[aJ.reads,Bool.or_eq_false_iff,List.any_eq_false] at this;have:=this.1.1 x hx;rw[hxe] at this;simp at this
theorem yG{s:AS}{d:Option Nat}{t:T}{o:aJ}(h: ∀ e,d=some e->o.reads e=false):gv o.g (s.put d t)=gv o.g s:=by
 cases hg:o.g with
 |none=>rfl
 |some p =>
  obtain⟨g,want⟩:=p;cases d with
  |none=>rfl
  |some e =>
   have:=h e rfl;simp only[aJ.reads,hg,Bool.or_eq_false_iff] at this;have hne:e≠g:=by have:=this.1.2; simp at this; exact fun h=>this h.symm
   have e1:(s.put (some e) t).fr.getD g .any=s.fr.getD g .any:=by
    show(s.fr.set e t).getD g .any=_;rw[List.getD_eq_getElem?_getD,List.getD_eq_getElem?_getD,List.getElem?_set_ne hne]
   simp only[gv,e1]
theorem pO{s:AS}{g:Option (Nat×Bool)}{h:Hp}:gv g {s with hp:=h}=gv g s:=rfl
theorem put_comm{s:AS}{d e:Option Nat}{t u:T}(h: ∀ x,d=some x->e≠some x):(s.put d t).put e u=(s.put e u).put d t:=by
 cases d with
 |none=>rfl
 |some x =>
  cases e with
  |none=>rfl
  |some y =>
   have:x≠y:=fun he=>h x rfl (by rw[he])
   show({s with fr:=(s.fr.set x t).set y u}:AS)= {s with fr:=(s.fr.set y u).set x t};rw[List.set_comm _ _ this]
theorem bQ{s:AS}{d:Option Nat}{t:T}{h:Hp}:({(s.put d t) with hp:=h}:AS)=({s with hp:=h}:AS).put d t:=by
 cases d<;>rfl
structure Apart(j i:aJ):Prop where
 ji: ∀ e,j.d=some e->i.reads e=false
 ij: ∀ e,i.d=some e->j.reads e=false
 dd: ∀ e,j.d=some e->i.d≠some e
theorem uM{j i:aJ}(h:xk j i=true):Apart j i:=by
 simp only[xk,Bool.and_eq_true] at h;refine⟨fun e he=>?_,fun e he=>?_,fun e he hi=>?_⟩
 ·rw[he] at h; simp only[Bool.and_eq_true,Bool.not_eq_true'] at h; exact h.1.1
 ·rw[he] at h; simp only[Bool.not_eq_true'] at h; exact h.2
 ·rw[he,hi] at h; simp at h
theorem Ja{s:AS}{d:Option Nat}{t:T}{o:aJ}(h: ∀ e,d=some e->o.reads e=false): ∀ m∈o.ne,(s.put d t).obj m=s.obj m:=by
 intro m hm;cases d with
 |none=>rfl
 |some e =>
  have:=h e rfl;simp only[aJ.reads,Bool.or_eq_false_iff,List.any_eq_false] at this;have hne:e≠m:=by have:=this.2 m hm; simp at this; exact fun h=>this h.symm
  have e1:(s.put (some e) t).fr.getD m .any=s.fr.getD m .any:=by
   show(s.fr.set e t).getD m .any=_;rw[List.getD_eq_getElem?_getD,List.getElem?_set_ne hne,<- List.getD_eq_getElem?_getD]
  unfold AS.obj;rw[e1]
theorem Ik{s s':AS}{xs:List X}{f:T->Bool}(hx: ∀ x∈xs,s.ev x=s'.ev x):(xs.all fun x=>f (s.ev x))=xs.all fun x=>f (s'.ev x):=by
 rw[Bool.eq_iff_iff,List.all_eq_true,List.all_eq_true];exact⟨fun H x hx'=>by rw[<- hx x hx']; exact H x hx',fun H x hx'=>by rw[hx x hx']; exact H x hx'⟩
theorem Uh{s s':AS}{xs:List X}(hx: ∀ x∈xs,s.ev x=s'.ev x): ∀ {l:List Nat},(∀ m∈l,s'.obj m=s.obj m)->GL s xs l=GL s' xs l:=by
 intro l;induction l with
 |nil=>intro _; rfl
 |cons m l ih =>
  intro h;simp only[GL];rw[ih fun m hm=>h m (by simp[hm]),h m (by simp)]
  congr 1
  cases Nat.blt m 1000000 with
  |true =>
   cases s.obj m with
   |none=>rfl
   |some i=>exact Ik hx
  |false =>
   cases Nat.beq m 1000000 with
   |true=>exact Ik hx
   |false =>
    cases xs with
    |nil=>rfl
    |cons x r=>simp only[cond_false]; rw[hx x (by simp)]
theorem xq{s s':AS}{o:aJ}(hx: ∀ x∈o.op.xs,s.ev x=s'.ev x)(hne: ∀ m∈o.ne,s'.obj m=s.obj m)(hnx:s'.nx=s.nx)(h:iZ o s):iZ o s':=by
 obtain⟨h1,h2⟩:=h;refine⟨fun hf=>?_,by rw[<- Uh hx hne]; exact h2⟩;have:=h1 hf;have hall:(o.op.xs.all fun x=>T.lt s.nx (s.ev x))=o.op.xs.all fun x=>T.lt s'.nx (s'.ev x):=by
  rw[hnx,Bool.eq_iff_iff,List.all_eq_true,List.all_eq_true];exact⟨fun H x hx'=>by rw[<- hx x hx']; exact H x hx',fun H x hx'=>by rw[hx x hx']; exact H x hx'⟩
 revert this;cases hop:o.op<;>simp only[hop] at hall<;>simp only[hall]<;>try exact id
 ·rename_i k x v;rw[hop] at hx;rw[hnx,<- hx x (by simp[nR.xs])]; exact id
 ·rename_i ty k by' x y
  rw[hop] at hx;rw[hnx,<- hx x (by simp[nR.xs])]; exact id
theorem iO{s:AS}{d:Option Nat}{t:T}{o:aJ}(h: ∀ e,d=some e->o.reads e=false)(hf:iZ o s):iZ o (s.put d t) :=
 xq (fZ h) (Ja h) (eU _ _ _) hf
theorem iU{s:AS}{d:Option Nat}{t:T}{o:aJ}(h: ∀ e,d=some e->o.reads e=false)(hf:iZ o (s.put d t)):iZ o s :=
 xq (fun x hx=>(fZ h x hx).symm) (fun m hm=>(Ja h m hm).symm) (eU _ _ _).symm hf
theorem x9{s:AS}{o:aJ}{h:Hp}(hf:iZ o s):iZ o {s with hp:=h} :=
 xq (s:=s) (s':= {s with hp:=h}) (fun x _=>by cases x<;>rfl) (fun _ _=>rfl) rfl hf
theorem GY{n:Nat}{t:T}:t.lt n=true->t.ids (· <n):=by
 apply T.rec (motive_1:=fun t=>t.lt n=true->t.ids (· <n)) (motive_2:=fun l=>T.P5 n l=true->T.aO (· <n) l);all_goals simp_all[T.lt,T.P5,T.ids,T.aO]
theorem abD{i:Nat}{t:T}:t.nid i=true->t.ids (· ≠i):=by
 apply T.rec (motive_1:=fun t=>t.nid i=true->t.ids (· ≠i)) (motive_2:=fun l=>T.WT i l=true->T.aO (· ≠i) l);all_goals simp_all[T.nid,T.WT,T.ids,T.aO]
theorem Xd{s:AS}{xs:List X}: ∀ {l:List Nat},GL s xs l=true-> ∀ m∈l,Nat.blt m 1000000=true-> ∃ i,s.obj m=some i/\ ∀ x∈xs,(s.ev x).ids (· ≠i):=by
 intro l;induction l with
 |nil=>intro _ m hm; cases hm
 |cons q l ih =>
  intro h m hm hb;simp only[GL,Bool.and_eq_true] at h;rcases List.mem_cons.1 hm with rfl|hm
  ·have h1:=h.1;rw[hb,cond_true] at h1;cases ho:s.obj m with
   |none=>rw[ho] at h1; simp at h1
   |some i =>
    rw[ho] at h1;simp only[List.all_eq_true] at h1;exact⟨i,rfl,fun x hx=>abD (h1 x hx)⟩
  ·exact ih h.2 m hm hb
theorem Zf{s:AS}{xs:List X}: ∀ {l:List Nat},GL s xs l=true->1000000∈l-> ∀ x∈xs,(s.ev x).ids (· <10000):=by
 intro l;induction l with
 |nil=>intro _ hm; cases hm
 |cons q l ih =>
  intro h hm;simp only[GL,Bool.and_eq_true] at h;rcases List.mem_cons.1 hm with rfl|hm
  ·have h1:(xs.all fun x=>T.lt 10000 (s.ev x))=true:=h.1;exact fun x hx=>GY (List.all_eq_true.1 h1 x hx)
  ·exact ih h.2 hm
theorem Zg{s:AS}{x:X}{r:List X}: ∀ {l:List Nat},GL s (x::r) l=true->1000001∈l->T.newer 10000 (s.ev x)=true:=by
 intro l;induction l with
 |nil=>intro _ hm; cases hm
 |cons q l ih =>
  intro h hm;simp only[GL,Bool.and_eq_true] at h;rcases List.mem_cons.1 hm with rfl|hm
  ·exact h.1
  ·exact ih h.2 hm
end Go.Ab
