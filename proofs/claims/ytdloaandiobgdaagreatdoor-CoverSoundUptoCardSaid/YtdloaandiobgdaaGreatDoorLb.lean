/-
 The abstract layer, part 8: operations that make or write memory.
-/
import Derived.Laws.MakeOwn
import Derived.Test.YtdloaandiobgdaaGreatDoorLa
namespace Go.Ab
section ops
variable {P:Program} {F:Fr P} {M:Nat->Prop} {E:Env} {s:AS} {a:Act}
theorem uN.lt{ob:Ob}{v:Value}(h:uN E ob v){g:Nat}(hg:rowB v=some g):g<E.w.heap.size:=by
 rcases h with ⟨_,⟨ad,rfl,_⟩|⟨g',c,cur,rfl,_,_,hh,_⟩⟩|⟨_,g',es,cl,rfl,hh,_⟩
 ·cases ad<;>simp[rowB] at hg
 ·simp[rowB] at hg; subst hg; exact(cm.1 hh).1
 ·simp[rowB] at hg; subst hg; exact(cm.1 hh).1
theorem MF{E':Env}(hK:Keeps E E' M): ∀ {l:List T} {es:List MapEntry},T.aO M l->fK E l es->fK E' l es:=by
 intro l;induction l with
 |nil=>intro es _ h; exact h
 |cons t ts ih =>
  intro es hid h;simp only[fK] at h ⊢;obtain⟨n,u,e,r,rfl,rfl,h1,h2,h3,h4,h5⟩:=h;simp only[T.aO,T.ids] at hid;exact⟨n,u,e,r,rfl,rfl,h1,h2,h3,iE _ M hK hid.1.2.1 _ h4,ih hid.2 h5⟩
theorem uN.keep{E':Env}{ob:Ob}{v:Value}(h:uN E ob v)(hK:Keeps E E' M)(hid:T.aO M ob.l)
  (hg: ∀ g,rowB v=some g->E'.w.heap[g]? =E.w.heap[g]?):uN E' ob v:=by
 rcases h with ⟨hk,h|⟨g',c,cur,rfl,h1,h2,hh,h3,h4⟩⟩|⟨hk,g',es,cl,rfl,hh,h1⟩
 ·exact .inl ⟨hk,.inl h⟩
 ·exact .inl ⟨hk,.inr ⟨g',c,cur,rfl,h1,h2,by rw[hg g' rfl]; exact hh,h3,eX _ _ _ hK hid _ h4⟩⟩
 ·exact .inr ⟨hk,g',es,cl,rfl,by rw[hg g' rfl]; exact hh,MF hK hid h1⟩
def Env.obj(E:Env)(w':World)(n:Nat)(v:Value)(ob:Ob)(h0:Hp):Env :=
 {w:=w',S:=E.S,φ:=fun i=>if i=n then v else E.φ i,κ:=fun i=>if i=n then ob.k else E.κ i,h:=upd h0 n (some ob),y:=E.y}
theorem Ce{w':World}{n:Nat}{v:Value}{ob:Ob}{h0:Hp}(hn: ¬ M n)(h0': ∀ j oj,h0 j=some oj->E.h j=some oj):Same E (E.obj w' n v ob h0) M:=by
 intro i hi hs;have hne:i≠n:=fun e=>hn (e▸hi)
 simp only[Env.obj,upd,hne,cW] at hs ⊢;obtain⟨oj,hoj⟩:=am.1 hs;rw[h0' i oj hoj]; exact⟨rfl,trivial,trivial⟩
theorem OE{w':World}{n:Nat}{v:Value}{ob:Ob}{h0:Hp}(hk:qY F E)(hm:pq M E.h)(hn: ¬ M n)
  (h0': ∀ j oj,h0 j=some oj->E.h j=some oj) (hsize:E.w.heap.size<=w'.heap.size) (hos:w'.os=E.w.os) (htape:w'.tape=E.w.tape) (hout:w'.output=E.w.output) (hdr:E.w.drawn<=w'.drawn)
  (hsame: ∀ g,g<E.w.heap.size->rowB v≠some g->w'.heap[g]? =E.w.heap[g]?)
  (hnew: ∀ g,rowB v=some g->E.w.heap.size<=g\/ ∃ i oi,E.h i=some oi/\h0 i=none/\rowB (E.φ i)=some g)
  (hob:uN (E.obj w' n v ob h0) ob v) (hsz:0<bD ob.k) :
  qY F (E.obj w' n v ob h0)/\Ext F E (E.obj w' n v ob h0):=by
 have hS: ∀ g,E.S g\/F g->rowB v≠some g:=by
  intro g hg hv;rcases hnew g hv with hge|⟨i,oi,h1,_,h3⟩
  ·rcases hg with hg|hg
   ·have:=hk.slt g hg; omega
   ·have:=hk.flt g hg; omega
  ·have:=hk.out i oi g h1 h3;rcases hg with hg|hg
   ·exact this.1 hg
   ·exact this.2 hg
 have hext:Ext F E (E.obj w' n v ob h0):=by
  refine⟨fun _ h=>h,fun g hg=>hsame g ?_ (hS g hg),hsize,hos,htape,hout,hdr,rfl⟩;rcases hg with hg|hg
  ·exact hk.slt g hg
  ·exact hk.flt g hg
 have hK:Keeps E (E.obj w' n v ob h0) M:=.of hext (Ce hn h0');have hne: ∀ j oj g,h0 j=some oj->rowB (E.φ j)=some g->rowB v≠some g:=by
  intro j oj g hj hg hv;rcases hnew g hv with hge|⟨i,oi,h1,h2,h3⟩
  ·have:=(hk.obs j oj (h0' j oj hj)).1.lt hg; omega
  ·refine hk.sep i j oi oj g ?_ h1 (h0' j oj hj) h3 hg;rintro rfl; rw[h2] at hj; cases hj
 refine⟨⟨?_,?_,?_,fun g hg=>cU (hk.slt g hg) hsize,fun g hg=>cU (hk.flt g hg) hsize,hk.sf,hext.gl hk⟩,hext⟩
 ·intro j oj hj;by_cases hjn:j=n
  ·subst hjn;simp only[Env.obj,upd,cn,bi] at hj;subst hj;exact⟨by simpa [Env.obj] using hob,by simp[Env.obj],hsz⟩
  ·simp only[Env.obj,upd,hjn,cW] at hj;have hj':=h0' j oj hj;obtain⟨k1,k2,k3⟩:=hk.obs j oj hj';refine⟨?_,by simp[Env.obj,hjn,k2],k3⟩
   have:(E.obj w' n v ob h0).φ j=E.φ j:=by simp[Env.obj,hjn]
   rw[this];exact k1.keep hK (hm j oj hj').2 fun g hg=>hsame g (k1.lt hg) (hne j oj g hj hg)
 ·intro j oj g hj hg;by_cases hjn:j=n
  ·subst hjn;simp only[Env.obj,cn] at hg;exact⟨fun h=>hS g (.inl h) hg,fun h=>hS g (.inr h) hg⟩
  ·simp only[Env.obj,upd,hjn,cW] at hj hg;exact hk.out j oj g (h0' j oj hj) hg
 ·intro i j oi oj g hij hi hj hgi hgj;by_cases hin:i=n
  ·subst hin;have hjn:j≠i:=fun e=>hij e.symm
   simp only[Env.obj,upd,hjn,cW,cn] at hj hgi hgj;exact hne j oj g hj hgj hgi
  ·by_cases hjn:j=n
   ·subst hjn;simp only[Env.obj,upd,hin,cW,cn] at hi hgi hgj;exact hne i oi g hi hgi hgj
   ·simp only[Env.obj,upd,hin,hjn,cW] at hi hj hgi hgj;exact hk.sep i j oi oj g hij (h0' i oi hi) (h0' j oj hj) hgi hgj
theorem TP(s:AS)(d:Option Nat)(t:T):(s.put d t).fr=(match d with|some i=>s.fr.set i t|none=>s.fr):=by cases d<;>rfl
theorem rU(s:AS)(d:Option Nat)(t:T):(s.put d t).hp=s.hp:=by cases d<;>rfl
theorem fQ(s:AS)(d:Option Nat)(t:T):(s.put d t).nx=s.nx:=by cases d<;>rfl
theorem ZP{t:T}{v:Value}{l:List T}{tmps:Array Value}(h:bg E l tmps.toList)(hv:lZ E t v)(d:Option Nat)(df:List Deferred) :
  bg E (match d with|some i=>l.set i t|none=>l) (Act.put {tmps:=tmps,defers:=df} d v).tmps.toList:=by
 cases d with
 |none=>exact h
 |some i=>simpa [Act.put] using F6 h i hv
theorem ZQ{t:T}{l:List T}(h:T.aO M l)(ht:t.ids M)(d:Option Nat):T.aO M (match d with|some i=>l.set i t|none=>l):=by
 cases d with
 |none=>exact h
 |some i=>exact xW h ht
theorem Act.VP(a:Act)(d:Option Tmp)(v:Value):(a.put d v).defers=a.defers:=by cases d<;>rfl
theorem Rel.put(R:Rel F M E s a){t:T}{v:Value}(ht:t.ids M)(hv:lZ E t v)(d:Option Nat):Rel F M E (s.put d t) (a.put d v) where
 hk:=R.hk
 he:=by rw[rU]; exact R.he
 fr:=by rw[TP]; exact ZP R.fr hv d a.defers
 df:=by rw[Act.VP]; exact R.df
 mf:=by rw[TP]; exact ZQ R.mf ht d
 mh:=by rw[rU]; exact R.mh
theorem Rel.weaken{M':Nat->Prop}(R:Rel F M E s a)(h: ∀ i,M i->M' i):Rel F M' E s a :=
 ⟨R.hk,R.he,R.fr,R.df,T.aA h _ R.mf,fun i ob hi=>⟨h i (R.mh i ob hi).1,T.aA h _ (R.mh i ob hi).2⟩⟩
theorem Rel.next{M':Nat->Prop}{E':Env}(R:Rel F M E s a)(hM: ∀ i,M i->M' i)(hk:qY F E')(hext:Ext F E E')(hs:Same E E' M){t:T}{v:Value}(ht:t.ids M')(hv:lZ E' t v)
  (mh:pq M' E'.h) (d:Option Nat):Rel F M' E' {(s.put d t) with hp:=E'.h} (a.put d v) where
 hk:=hk
 he:=rfl
 fr:=by
  show bg E' (s.put d t).fr _;rw[TP]; exact ZP (jd _ M (.of hext hs) R.mf _ R.fr) hv d a.defers
 df:=by rw[Act.VP]; exact R.df
 mf:=by
  show T.aO M' (s.put d t).fr;rw[TP]; exact ZQ (T.aA hM _ R.mf) ht d
 mh:=mh
def EP(F:Fr P)(M:Nat->Prop)(n:Nat)(E:Env)(K:AS->Prop)(a':Act)(w':World):Prop :=
 ∃ E' s',E'.w=w'/\K s'/\Rel F (fun i=>M i\/i=n) E' s' a'/\Ext F E E'/\Same E E' M
theorem Same.refl(E:Env)(M:Nat->Prop):Same E E M:=fun _ _ h=>⟨h,rfl,rfl⟩
theorem Same.trans{E E' E'':Env}{M M':Nat->Prop}(h:Same E E' M)(h':Same E' E'' M')(hM: ∀ i,M i->M' i):Same E E'' M:=fun i hi hs =>
 let ⟨a,b,c⟩:=h' i (hM i hi) hs
 let ⟨a',b',c'⟩:=h i hi a
 ⟨a',b.trans b',c.trans c'⟩
theorem Same.weaken{E E':Env}{M M':Nat->Prop}(h:Same E E' M)(hM: ∀ i,M' i->M i):Same E E' M':=fun i hi=>h i (hM i hi)
theorem OG{h:Hp}{n:Nat}{ob:Ob}(hm:pq M h)(hid:T.aO (fun i=>M i\/i=n) ob.l):pq (fun i=>M i\/i=n) (upd h n (some ob)):=by
 intro j oj hj;by_cases hjn:j=n
 ·subst hjn;simp only[upd,cn,bi] at hj;subst hj;exact⟨.inr rfl,hid⟩
 ·simp only[upd,hjn,cW] at hj;exact⟨.inl (hm j oj hj).1,T.aA (fun _ h=>.inl h) _ (hm j oj hj).2⟩
theorem xg(w:World)(o:Obj):(w.alloc o).heap[w.heap.size]? =some o:=by
 show(w.heap.push o)[w.heap.size]? =_;simp
theorem iU(w:World)(o:Obj){g:Nat}(h:g<w.heap.size):(w.alloc o).heap[g]? =w.heap[g]? :=by
 show(w.heap.push o)[g]? =_;rw[Array.getElem?_push,bB (by omega)]
theorem zO(w:World)(o:Obj):w.heap.size<=(w.alloc o).heap.size:=by
 show _<=(w.heap.push o).size;simp
theorem Nz(R:Rel F M E s a){n:Nat}(hn: ¬ M n){ob:Ob}{cs:Array Value}{c:Nat}(hsz:0<bD ob.k)(hnm:ob.k≠gK)(hc:cs.size=c*bD ob.k)(hl:ob.l.length<=c)(hcm:c<=maxLen)
  (hid:T.aO M ob.l) (hr:aJ E ob.k ob.l cs.toList) {K:AS->Prop} {t:T} {d:Option Nat} {v:Value}
  (hv:t= .own n/\v= .slice (some ⟨E.w.heap.size,0,none⟩) ob.l.length c\/t= .ptr n 0 0/\v= .pointer (some ⟨E.w.heap.size,0,none⟩))
  (h:K {(s.put d t) with hp:=upd s.hp n (some ob)}):EP F M n E K (a.put d v) (E.w.alloc (.cells cs ob.ty)):=by
 have hhm:pq M E.h:=by rw[R.he]; exact R.mh
 generalize hrv:Value.slice (some ⟨E.w.heap.size,0,none⟩) ob.l.length c=rv;have hrow: ∀ g,rowB rv=some g->g=E.w.heap.size:=by
  intro g hg; subst hrv;cases c with
  |zero=>simp[rowB] at hg
  |succ c=>simp[rowB] at hg; exact hg.symm
 have hS:=Ce (E:=E) (M:=M) (w':=E.w.alloc (.cells cs ob.ty)) (v:=rv) (ob:=ob) (h0:=E.h) hn (fun _ _ h=>h);have hpre: ∀ g,E.S g->(E.w.alloc (.cells cs ob.ty)).heap[g]? =E.w.heap[g]? :=fun g hg=>iU _ _ (R.hk.slt g hg)
 have hK:Keeps E (E.obj (E.w.alloc (.cells cs ob.ty)) n rv ob E.h) M:=⟨fun _ h=>h,hpre,hS,rfl⟩
 have hob:uN (E.obj (E.w.alloc (.cells cs ob.ty)) n rv ob E.h) ob rv:=by
  subst hrv;cases c with
  |zero=>exact .inl ⟨hnm,.inl ⟨_,by rw[show ob.l.length=0 by omega],ai (by omega)⟩⟩
  |succ c=>exact .inl ⟨hnm,.inr ⟨_,c,cs,rfl,hl,hcm,xg _ _,hc,eX _ _ M hK hid _ hr⟩⟩
 have hok:=OE (F:=F) R.hk hhm hn (w':=E.w.alloc (.cells cs ob.ty)) (v:=rv) (ob:=ob) (h0:=E.h) (fun _ _ h=>h) (zO _ _) rfl rfl rfl (ba _)
  (fun g hg _=>iU _ _ hg) (fun g hg=>.inl (by rw[hrow g hg]; exact ba _)) hob hsz
 refine⟨E.obj (E.w.alloc (.cells cs ob.ty)) n rv ob E.h,_,rfl,h,?_,hok.2,hS⟩
 have:=R.next (M':=fun i=>M i\/i=n) (fun _ h=>.inl h) hok.1 hok.2 hS (t:=t) (v:=v) (d:=d) (by rcases hv with ⟨rfl,_⟩|⟨rfl,_⟩<;>exact .inr rfl) ?_
  (OG hhm (T.aA (fun _ h=>.inl h) _ hid))
 ·have e:(E.obj (E.w.alloc (.cells cs ob.ty)) n rv ob E.h).h=upd s.hp n (some ob):=by simp only[Env.obj,R.he]
  rw[e] at this; exact this
 ·rcases hv with ⟨rfl,rfl⟩|⟨rfl,rfl⟩
  ·rw[aB rfl]; simp only[aN];exact⟨_,rfl,fun _=>by simp[Env.obj,<- hrv]⟩
  ·rw[aB rfl]; simp only[aN];exact⟨_,rfl,fun _=>⟨E.w.heap.size,ob.l.length,c,by simp[Env.obj,<- hrv],by simp⟩⟩
theorem OH{t:T}{v:Value}(hk:qY F E)(h:lZ E t v)(h1:t.nR E.h=true):aJ E t.kd [t] v.cells.toList:=by
 have hc:=zN hk h h1;have hl:=qp hc;refine zL rfl (by rw[hl,rP]) (F5 hc) ?_;by_cases h0:t.kd=0
 ·rw[GH h0] at hc;simp only[aX] at hc;obtain⟨_,u,r,hu,_,h2,rfl⟩:=hc;rw[hu]; exact h2
 ·rw[zI h0]; exact hc
theorem aj3(R:Rel F M E s a){n:Nat}(hn: ¬ M n){ty k:Nat}{x:Operand}{x':X}(hx:aY x=some x'){o:Oper}(ho:o.op= .box ty x)
  {dr:Bool} {K:AS->Prop} {Q:Exit->Act->World->Prop} (h:nS P dr n o.dst (.box ty k x') K s):o.wp P a E.w (EP F M n E K) Q:=by
 simp only[nS,aD,bt] at h;obtain⟨⟨⟨hk,hst⟩,hkp⟩,h⟩:=h;obtain⟨hsz,hnm⟩:=DK hkp;have rx:=bY R hx;rw[<- R.he] at hst;have hrow:=OH R.hk rx hst;have hcl:=qp (zN R.hk rx hst);unfold Oper.wp;have hrun:(execOp a.eval o).run P E.w= .ok (.value (.pointer (some ⟨E.w.heap.size,0,none⟩))) (E.w.alloc (.cells (a.eval x).cells ty)):=by
  simp[execOp,ho,Instr.box,newVar,newRow]
 rw[hrun];refine Nz R hn (ob:=⟨ty,k,[s.ev x']⟩) (c:=1) hsz hnm ?_ (by simp) (by simp[maxLen]) ?_ (by rw[<- hk]; exact hrow) (.inr ⟨rfl,rfl⟩) h
 ·have:=hcl; rw[<- rP,hk] at this; simpa using this
 ·simp only[T.aO]; exact⟨mX R hx,trivial⟩
theorem aj6(R:Rel F M E s a){n:Nat}(hn: ¬ M n){ty:Nat}{o:Oper}(ho:o.op= .makeMap ty none)
  {dr:Bool} {K:AS->Prop} {Q:Exit->Act->World->Prop} (h:nS P dr n o.dst (.mmk ty) K s):o.wp P a E.w (EP F M n E K) Q:=by
 simp only[nS] at h;have hrun:(execOp a.eval o).run P E.w= .ok (.value (.map (some E.w.heap.size))) (E.w.alloc (.map #[] 0)):=by
  simp[execOp,ho,Instr.makeMap]
 unfold Oper.wp;rw[hrun];show EP F M n E K (a.put o.dst (.map (some E.w.heap.size))) (E.w.alloc (.map #[] 0));have hhm:pq M E.h:=by rw[R.he]; exact R.mh
 have hS:=Ce (E:=E) (M:=M) (w':=E.w.alloc (.map #[] 0)) (v:=.map (some E.w.heap.size)) (ob:=⟨ty,gK,[]⟩) (h0:=E.h) hn (fun _ _ h=>h)
 have hob:uN (E.obj (E.w.alloc (.map #[] 0)) n (.map (some E.w.heap.size)) ⟨ty,gK,[]⟩ E.h) ⟨ty,gK,[]⟩ (.map (some E.w.heap.size)) :=
  .inr ⟨rfl,E.w.heap.size,#[],0,rfl,xg _ _,by simp[fK]⟩
 have hok:=OE (F:=F) R.hk hhm hn (w':=E.w.alloc (.map #[] 0)) (v:=.map (some E.w.heap.size)) (ob:=⟨ty,gK,[]⟩) (h0:=E.h) (fun _ _ h=>h) (zO _ _) rfl rfl rfl (ba _)
  (fun g hg _=>iU _ _ hg) (fun g hg=>.inl (by simp[rowB] at hg; omega)) hob (by simp[bD])
 refine⟨E.obj (E.w.alloc (.map #[] 0)) n (.map (some E.w.heap.size)) ⟨ty,gK,[]⟩ E.h,_,rfl,h,?_,hok.2,hS⟩
 have:=R.next (M':=fun i=>M i\/i=n) (fun _ h=>.inl h) hok.1 hok.2 hS (t:=.own n) (v:=.map (some E.w.heap.size)) (d:=o.dst) (.inr rfl) ?_
  (OG hhm (by simp[T.aO]))
 ·have e:(E.obj (E.w.alloc (.map #[] 0)) n (.map (some E.w.heap.size)) ⟨ty,gK,[]⟩ E.h).h=upd s.hp n (some ⟨ty,gK,[]⟩):=by simp only[Env.obj,R.he]
  rw[e] at this; exact this
 ·rw[aB rfl]; simp only[aN];exact⟨_,rfl,fun _=>by simp[Env.obj]⟩
theorem eY{t:T}:t.free=true->t.ids (fun _=>False):=by
 apply T.rec (motive_1:=fun t=>t.free=true->t.ids (fun _=>False)) (motive_2:=fun l=>T.bn l=true->T.aO (fun _=>False) l);all_goals simp_all[T.free,T.bn,T.ids,T.aO]
theorem dh: ∀ {l:List T},T.bn l=true->T.aO (fun _=>False) l:=by
 intro l;induction l with
 |nil=>intro _; simp[T.aO]
 |cons t ts ih=>intro h; simp only[T.bn,aD] at h; simp only[T.aO]; exact⟨eY h.1,ih h.2⟩
theorem xX{z:Value}(h:nN z=true):aJ E (Ed z).kd [Ed z] z.cells.toList/\z.cells.size=bD (Ed z).kd:=by
 have h1: ∀ v∈z.cells.toList,v.oneCell'=true:=fun v hv=>by
  simp only[nN,bj,Array.mem_toList_iff] at h;exact h v (by simpa using hv)
 cases z with
 |agg cs =>
  have hl:cs.toList.length=bD (Ed (.agg cs)).kd:=by simp[Ed,T.kd,bD]
  refine⟨zL rfl hl h1 ?_,by simpa [Value.cells] using hl⟩;simp only[Ed,aN]; exact F7 h1
 |_ =>
  rw[Ym (by intro cs hcs; cases hcs)];refine⟨zL rfl (by rw[OA]; rfl) h1 Jj,by rw[OA]; rfl⟩
theorem alU(R:Rel F M E s a){n:Nat}(hn: ¬ M n){ty k:Nat}{z:Value}(hz:zeroOf P ty=some z)(hok:nN z=true){o:Oper}(ho:o.op= .alloc ty)
  {dr:Bool} {K:AS->Prop} {Q:Exit->Act->World->Prop} (h:nS P dr n o.dst (.al ty k (Ed z)) K s):o.wp P a E.w (EP F M n E K) Q:=by
 simp only[nS,aD,bt] at h;obtain⟨⟨⟨⟨hk,_⟩,hfree⟩,hkp⟩,h⟩:=h;obtain⟨hsz,hnm⟩:=DK hkp;obtain⟨hrow,hcs⟩:=xX (E:=E) hok;unfold Oper.wp;have hrun:(execOp a.eval o).run P E.w= .ok (.value (.pointer (some ⟨E.w.heap.size,0,none⟩))) (E.w.alloc (.cells z.cells ty)):=by
  unfold zeroOf at hz;cases hi:P.info? ty with
  |none=>simp[hi] at hz
  |some it =>
   have hz':it.zero=some z:=by simpa [hi] using hz
   simp[execOp,ho,Instr.alloc,zeroValue,typeInfo,hi,hz',newVar,newRow]
 rw[hrun];refine Nz R hn (ob:=⟨ty,k,[Ed z]⟩) (c:=1) hsz hnm (by rw[hcs,hk]; simp) (by simp) (by simp[maxLen]) ?_ (by rw[<- hk]; exact hrow) (.inr ⟨rfl,rfl⟩) h;simp only[T.aO]; exact⟨T.aW (fun _ hf=>hf.elim) _ (eY hfree),trivial⟩
theorem qZ{k:Nat}{t:T}{vs:List Value}(h:aJ E k [t] vs)(hl:vs.length=bD k): ∀ (n:Nat) (ws:List Value),(∀ i,i<n*bD k->ws[i]? =vs[i % bD k]?)->aJ E k (List.replicate n t) ws:=by
 have hpos:bD k=0\/0<bD k:=by omega
 simp only[aJ] at h;obtain⟨hk,_,h1,h2,_⟩:=h;have hv:vs.take (bD k)=vs:=by rw[<- hl,bx]
 rw[hv] at h1 h2;intro n;induction n with
 |zero=>intro ws _; simp[aJ]
 |succ n ih =>
  intro ws hw;rw[de,gO] at hw;have ht:ws.take (bD k)=vs:=by
   rw[<- hv];refine zJ fun i hi=>?_
   rw[hw i (by omega),Nat.mod_eq_of_lt hi]
  rw[du];simp only[aJ];refine⟨hk,?_,by rw[ht]; exact h1,by rw[ht]; exact h2,ih _ fun i hi=>?_⟩
  ·have:=dC List.length ht; simp only[bR] at this; omega
  ·rw[cT,hw _ (by omega),Nat.add_mod_left]
theorem KT(z:Array Value)(n:Nat)(i:Nat)(h:i<n)(hz:0<z.size):((Array.range n).map (z[· % z.size]!)).toList[i]? =z.toList[i % z.size]? :=by
 have:i % z.size<z.size:=Nat.mod_lt _ hz
 simp[h,this]
theorem ahc(R:Rel F M E s a){n:Nat}(hn: ¬ M n){ty e k:Nat}{i:TypeInfo}{z:Value}{x y:Operand}{x' y':X}(hx:aY x=some x')(hy:aY y=some y')
  (he:elemOf P ty=some e) (hkd:kindOf P e=some k) (hi:P.info? e=some i) (hz:i.zero=some z) (hok:nN z=true) {o:Oper} (ho:o.op= .makeSlice ty x y)
  {dr:Bool} {K:AS->Prop} {Q:Exit->Act->World->Prop} (h:nS P dr n o.dst (.make e k i.bytes (Ed z) x' y') K s):o.wp P a E.w (EP F M n E K) Q:=by
 have rx:=bY R hx; have ry:=bY R hy;simp only[nS] at h;split at h
 ·rename_i k1 l k2 c e1 e2;rw[e1,aQ] at rx; rw[e2,aQ] at ry;simp only[aD,bt] at h;obtain⟨⟨⟨⟨hk,_⟩,hfree⟩,hkp⟩,⟨h0,h1,h2,h3⟩,h⟩:=h;obtain⟨hsz,hnm⟩:=DK hkp;obtain⟨hrow,hcs⟩:=xX (E:=E) hok;have hsize:i.size=bD k:=by
   obtain⟨i',d,g1,_,g3,_⟩:=yY hkd;rw[hi] at g1; cases g1; exact g3
  generalize hcells:madeCells z.cells (c.toNat*bD k)=cs;have hrun:(execOp a.eval o).run P E.w= .ok (.value (.slice (some ⟨E.w.heap.size,0,none⟩) l.toNat c.toNat)) (E.w.alloc (.cells cs e)):=by
   have hm:=run_make (P:=P) E.w ty e i z (yZ he) hi hz k1 k2 l c h0 h1 (by rw[Int.mul_comm]; omega) (by omega);rw[hsize,hcells] at hm;simp only[execOp,ho,rx,ry,Sem.run_bind,hm,Result.andThen_ok,Sem.run_pure]
  unfold Oper.wp;rw[hrun];have hcsz:cs.size=c.toNat*bD k:=by rw[<- hcells]; exact size_madeCells _ _
  refine Nz R hn (ob:=⟨e,k,List.replicate l.toNat (Ed z)⟩) (c:=c.toNat) hsz hnm hcsz (by simp; omega) (by simp only[maxLen]; omega) ?_ ?_ (.inl ⟨rfl,by simp⟩) h
  ·exact cu.2 fun t ht=>by rw[fb ht]; exact T.aW (fun _ hf=>hf.elim) _ (eY hfree)
  ·rw[hk] at hrow hcs;refine qZ hrow (by simpa using hcs) _ _ fun j hj=>?_
   have hj':j<c.toNat*bD k:=cU hj (cr _ (by omega));rw[<- hcells,madeCells,KT z.cells _ j hj' (by omega),hcs]
 ·exact h.elim
theorem aj7(R:Rel F M E s a){n:Nat}{ty k:Nat}{l:List T}{cs:Array Value}{f:Bool}(hid:T.aO (fun _=>False) l)(hr:aJ E k l cs.toList)
  {K:AS->Prop} {d:Option Nat} (h:K (s.put d (.sl k f l))) :
  EP F M n E K (a.put d (.slice (some ⟨E.w.heap.size,0,none⟩) l.length l.length)) (E.w.alloc (.cells cs ty)):=by
 generalize hw:E.w.alloc (.cells cs ty)=w';have hold: ∀ g,g<E.w.heap.size->w'.heap[g]? =E.w.heap[g]? :=fun g hg=>by rw[<- hw]; exact iU _ _ hg
 have hlast:w'.heap[E.w.heap.size]? =some (.cells cs ty):=by rw[<- hw]; exact xg _ _
 have hsz:w'.heap.size=E.w.heap.size+1:=by rw[<- hw]; simp
 let E':Env:= {E with w:=w',S:=fun g=>E.S g\/g=E.w.heap.size}
 have hext:Ext F E E':=by
  refine⟨fun g hg=>.inl hg,fun g hg=>hold g ?_,by show _<=w'.heap.size; omega,by show w'.os=_; rw[<- hw]; rfl,by show w'.tape=_; rw[<- hw]; rfl,by show w'.output=_; rw[<- hw]; rfl,by show _<=w'.drawn; rw[<- hw]; exact ba _,rfl⟩;rcases hg with hg|hg
  ·exact R.hk.slt g hg
  ·exact R.hk.flt g hg
 have hs:Same E E' M:=fun i _ h=>⟨h,rfl,rfl⟩
 have hK:Keeps E E' M:=.of hext hs;have hhm:pq M E.h:=by rw[R.he]; exact R.mh
 have hok:qY F E':=by
  refine⟨fun i ob hi=>?_,fun i ob g hi hg=>?_,R.hk.sep,fun g hg=>?_,fun g hg=>?_,fun g hg hf=>?_,?_⟩
  ·obtain⟨k1,k2,k3⟩:=R.hk.obs i ob hi;exact⟨k1.keep hK (hhm i ob hi).2 fun g hg=>hold g (k1.lt hg),k2,k3⟩
  ·have:=R.hk.out i ob g hi hg;refine⟨fun h=>?_,this.2⟩;rcases h with h|h
   ·exact this.1 h
   ·have:=(R.hk.obs i ob hi).1.lt hg; omega
  ·show g<w'.heap.size;rcases hg with hg|hg
   ·have:=R.hk.slt g hg; omega
   ·omega
  ·show g<w'.heap.size;have:=R.hk.flt g hg; omega
  ·rcases hg with hg|hg
   ·exact R.hk.sf g hg hf
   ·have:=R.hk.flt g hf; omega
  ·exact hext.gl R.hk
 refine⟨E',_,rfl,h,?_,hext,hs⟩
 have:=R.next (M':=fun i=>M i\/i=n) (fun _ h=>.inl h) hok hext hs (t:=.sl k f l) (v:=.slice (some ⟨E.w.heap.size,0,none⟩) l.length l.length) (d:=d) (by simp[T.ids]) ?_
  (fun i ob hi=>⟨.inl (hhm i ob hi).1,T.aA (fun _ h=>.inl h) _ (hhm i ob hi).2⟩)
 ·have e:({(s.put d (.sl k f l)) with hp:=E'.h}:AS)=s.put d (.sl k f l):=by
   show({(s.put d (.sl k f l)) with hp:=E.h}:AS)=_;rw[R.he]; cases d<;>rfl
  rw[e] at this; exact this
 ·rw[aB rfl]; simp only[aN];refine⟨_,_,rfl,ba _,fun _=>rfl,.inr ⟨_,0,cs,ty,(0,0),rfl,.inr rfl,hlast,hid,?_⟩⟩;simpa using eX _ _ _ hK.no hid _ hr
theorem Ci(R:Rel F M E s a): ∀ {ps:List (Nat×Operand)} {ps':List (Nat×X)},nY ps=some ps'->zG s.hp (ps'.map fun p=>s.ev p.2)=true ->
   VL (fun(p:Nat×Value) (q:Nat×T)=>p.1=q.1/\lZ E q.2 p.2/\q.2.nR E.h=true) (ps.map fun p=>(p.1,a.eval p.2)) (ps'.map fun p=>(p.1,s.ev p.2)):=by
 intro ps;induction ps with
 |nil=>intro ps' h _; cases h; exact .nil
 |cons p ps ih =>
  intro ps' h hst;obtain⟨i,x⟩:=p;simp only[nY] at h;split at h
  ·rename_i x' r' h1 h2;cases h;simp only[bl,zG,aD] at hst;exact .cons ⟨rfl,bY R h1,by rw[R.he]; exact hst.1⟩ (ih h2 hst.2)
  ·cases h
theorem QA(R:Rel F M E s a): ∀ {ps:List (Nat×Operand)} {ps':List (Nat×X)},nY ps=some ps'->zG s.hp (ps'.map fun p=>s.ev p.2)=true ->
   VL (fun(p:Nat×Value) (q:Nat×Nat×T)=>some (p.1*1,1)=some (q.1,q.2.1)/\lZ E q.2.2 p.2/\q.2.2.nR E.h=true) (ps.map fun p=>(p.1,a.eval p.2)) (ps'.map fun p=>(p.1,1,s.ev p.2)):=by
 intro ps;induction ps with
 |nil=>intro ps' h _; cases h; exact .nil
 |cons p ps ih =>
  intro ps' h hst;obtain⟨i,x⟩:=p;simp only[nY] at h;split at h
  ·rename_i x' r' h1 h2;cases h;simp only[bl,zG,aD] at hst;exact .cons ⟨by simp,bY R h1,by rw[R.he]; exact hst.1⟩ (ih h2 hst.2)
  ·cases h
theorem alV(R:Rel F M E s a){ty n e:Nat}{parts:Array (Nat×Operand)}{cs:Array Value}{ps:List (Nat×X)}{o:Oper}
  (ho:o.op= .build ty parts) (hu:P.underlying ty=some (.array n e)) (hz:zeroOf P ty=some (.agg cs)) (hk:kindOf P e=some 0) (hc:nY parts.toList=some ps)
  (hok:nN (.agg cs)=true) (h:qc s (.mk (cs.toList.map MQ) (ps.map fun p=>(p.1,1,p.2)))):uO P E a o (qt s (.mk (cs.toList.map MQ) (ps.map fun p=>(p.1,1,p.2)))):=by
 simp only[qc,aD,cy,Function.comp_def] at h;have hF:=QA R hc h.2;have hzr:aX E (cs.toList.map MQ) cs.toList:=F7 fun v hv=>by
  simp only[nN,Value.cells,bj,Array.mem_toList_iff] at hok;exact hok v (by simpa using hv)
 obtain⟨cs',h1,h2⟩:=VO R.hk (fun i=>some (i*1,1)) _ _ _ cs hF hzr h.1;obtain⟨ie,d,k1,_,k3,_⟩:=yY hk;have hsz:ie.size=1:=k3;have hb:P.built ty ((parts.map fun(i,x)=>(i,a.eval x)).toList)=some cs':=by
  unfold zeroOf at hz;cases hi:P.info? ty with
  |none=>simp[hi] at hz
  |some it =>
   have hz':it.zero=some (.agg cs):=by simpa [hi] using hz
   simp only[Program.built,hi,hu,hz',k1,hsz,Value.cells];simpa using h1
 refine⟨.agg cs',?_,?_⟩
 ·simp only[execOp,ho,Sem.run_bind,run_build E.w ty _ cs' hb,Result.andThen_ok,Sem.run_pure]
 ·simp only[qt,cy,Function.comp_def]; rw[BZ]; exact⟨cs',rfl,h2⟩
theorem RN(hk:qY F E){k n:Nat}: ∀ (ps:List (Nat×Value)) (qs:List (Nat×T)) (z:List T) (cs:Array Value),
  VL (fun(p:Nat×Value) (q:Nat×T)=>p.1=q.1/\lZ E q.2 p.2/\q.2.nR E.h=true) ps qs->aJ E k z cs.toList->z.length=n->cs.size=n*bD k->Oo k n qs=true ->
  ∃ cs',Instr.fill (fun i=>some (i*bD k,bD k)) cs ps=some cs'/\aJ E k (wu z qs) cs'.toList:=by
 intro ps;induction ps with
 |nil=>intro qs z cs h hz _ _ _; cases h; exact⟨cs,rfl,hz⟩
 |cons p ps ih =>
  intro qs z cs h hz hl hcs hf;obtain⟨i,v⟩:=p;cases h with
  |cons hpq hrest =>
   rename_i q qs;obtain⟨j,t⟩:=q;obtain⟨h1,h2,h3⟩:=hpq;simp only at h1;subst h1;simp only[Oo,aD,bt,cF] at hf;obtain⟨⟨hf1,hf2⟩,hf3⟩:=hf;have hc:=zN hk h2 h3;have hrow:=OH hk h2 h3;have hlen:=qp hc;simp only[bu] at hlen;rw[<- rP,hf1] at hlen;have hfit:i*bD k+bD k<=cs.size:=by
    rw[hcs]
    have:(i+1)*bD k<=n*bD k:=cr _ hf2
    rw[de] at this; omega
   simp only[Instr.fill,wu];rw[bB (by simp; omega)];have hst:=RI (i*bD k) v cs (by omega);generalize Array.foldl (fun(cs:Array Value) (x:Value×Nat)=>cs.setIfInBounds (i*bD k+x.2) x.1) cs v.cells.zipIdx=cs1 at hst ⊢;have hl1:cs1.toList.length=cs.toList.length:=by
    rw[hst]; simp only[aL,bR,cA,bu]; omega
   have hmid:(cs1.toList.drop (i*bD k)).take (bD k)=v.cells.toList:=by
    rw[hst,bO,gD (by simp; omega)];rw[gP (by simp; omega),fX];rw[List.take_append_of_le_length (by simp; omega),bm (by simp; omega)]
   refine ih _ _ _ hrest ?_ (by simpa using hl) (by simp only[bu] at hl1; omega) hf3;refine Md hz hf1 (by omega) hl1 ?_ ?_ ?_
   ·rw[hmid]; exact F5 hc
   ·rw[hmid];simp only[aJ] at hrow;obtain⟨_,_,_,hr,_⟩:=hrow;rw[hf1,bm (by simp; omega)] at hr; exact hr
   ·intro m hm;rw[hst];rcases hm with hm|hm
    ·rw[bO,co (by simp; omega),cN hm]
    ·rw[ck (by simp; omega),cT]
     congr 1
     simp only[aL,bR,bu]; omega
theorem OI: ∀ {qs:List (Nat×T)} {z:List T},T.aO M z->T.aO M (qs.map fun q=>q.2)->T.aO M (wu z qs):=by
 intro qs;induction qs with
 |nil=>intro z h _; exact h
 |cons q qs ih =>
  obtain⟨j,t⟩:=q;intro z h h';simp only[bl,T.aO] at h';exact ih (xW h h'.1) h'.2
theorem GN: ∀ {qs:List (Nat×T)} {z:List T},(wu z qs).length=z.length:=by
 intro qs;induction qs with
 |nil=>intro z; rfl
 |cons q qs ih=>obtain⟨j,t⟩:=q; intro z; simp only[wu]; rw[ih]; simp
theorem alW(R:Rel F M E s a){n:Nat}{ty e k len:Nat}{z:Value}{parts:Array (Nat×Operand)}{ps:List (Nat×X)}(he:elemOf P ty=some e)(hps:nY parts.toList=some ps)
  (hkd:kindOf P e=some k) (hz:zeroOf P e=some z) (hok:nN z=true) {o:Oper} (ho:o.op= .buildSlice ty len parts)
  {K:AS->Prop} {Q:Exit->Act->World->Prop} (hq:qc s (.ms e k (Ed z) len ps)) (h:K (s.put o.dst (qt s (.ms e k (Ed z) len ps)))):o.wp P a E.w (EP F M n E K) Q:=by
 simp only[qc,aD,bt,cF,ff] at hq;obtain⟨⟨⟨⟨⟨⟨hk,hzf⟩,hset⟩,hst⟩,hfree⟩,hbig⟩,hsz⟩:=hq;obtain⟨hrow,hcs⟩:=xX (E:=E) hok;rw[hk] at hrow hcs;simp only[qt] at h;have hF:=Ci R hps hst;generalize hcells:(Array.range (len*bD k)).map (fun j=>z.cells[j % z.cells.size]!)=cs0;have hz0:aJ E k (List.replicate len (Ed z)) cs0.toList:=by
  refine qZ hrow (by simpa using hcs) _ _ fun j hj=>?_
  rw[<- hcells,KT z.cells _ j hj (by omega),hcs]
 obtain⟨cs',h1,h2⟩:=RN R.hk _ _ _ cs0 hF hz0 (by simp) (by rw[<- hcells]; simp) hset;have hlen:(wu (List.replicate len (Ed z)) (ps.map fun p=>(p.1,s.ev p.2))).length=len:=by rw[GN]; simp
 have hrun:(execOp a.eval o).run P E.w= .ok (.value (.slice (some ⟨E.w.heap.size,0,none⟩) len len)) (E.w.alloc (.cells cs' e)):=by
  have adX: ¬ (len*bD k>2 ^ 24):=by omega
  unfold zeroOf at hz;cases hi:P.info? e with
  |none=>simp[hi] at hz
  |some it =>
   have hz':it.zero=some z:=by simpa [hi] using hz
   have hzv:(zeroValue e).run P E.w= .ok z E.w:=by simp[zeroValue,typeInfo,hi,hz']
   have h1':Instr.fill (fun i=>some (i*bD k,bD k)) cs0 (parts.map fun(i,x)=>(i,a.eval x)).toList=some cs':=by simpa using h1
   by_cases h0:len*bD k=0
   ·have hc0:(Array.range 0).map (fun x=>(#[]:Array Value)[x % (#[]:Array Value).size]!)=cs0:=by rw[<- hcells,h0]; simp[Array.range_zero']
    have hg0: ¬ (0>2 ^ 24):=by omega
    simp only[execOp,ho,Instr.buildSlice,underlying,Sem.run_bind,run_program,Result.andThen_ok,yZ he,Sem.run_pure,jo hkd,h0,hg0,cW,cn,hc0,h1',newRow,run_newObj];rfl
   ·simp only[execOp,ho,Instr.buildSlice,underlying,Sem.run_bind,run_program,Result.andThen_ok,yZ he,Sem.run_pure,jo hkd,adX,cW,h0,hzv,hcells,h1',newRow,run_newObj];rfl
 unfold Oper.wp;rw[hrun]
 have:=aj7 R (n:=n) (ty:=e) (f:=true) (OI (cu.2 fun t ht=>by rw[fb ht]; exact eY hzf) (by
  have:=dh hfree; simpa [Function.comp_def] using this)) h2 h
 rw[hlen] at this;exact this
theorem abA{place:Nat->Option (Nat×Nat)}: ∀ {ps:List (Nat×Value)} {cs cs':Array Value},Instr.fill place cs ps=some cs'->cs'.size=cs.size:=by
 intro ps;induction ps with
 |nil=>intro cs cs' h; simp only[Instr.fill] at h; cases h; rfl
 |cons p ps ih =>
  obtain⟨i,v⟩:=p;intro cs cs' h;simp only[Instr.fill] at h;split at h
  ·cases h
  ·split at h
   ·cases h
   ·have:=ih h;rw[this];generalize v.cells.zipIdx=zs
    have: ∀ (l:List (Value×Nat)) (c0:Array Value) (off:Nat),(l.foldl (fun(cs:Array Value) (x:Value×Nat)=>cs.setIfInBounds (off+x.2) x.1) c0).size=c0.size:=by
     intro l;induction l with
     |nil=>intro c0 off; rfl
     |cons x l ih'=>intro c0 off; rw[eB,ih']; simp
    rw[<- Array.foldl_toList];exact this _ _ _
theorem aj8(R:Rel F M E s a){n:Nat}(hn: ¬ M n){ty e k len:Nat}{z:Value}{parts:Array (Nat×Operand)}{ps:List (Nat×X)}(he:elemOf P ty=some e)(hps:nY parts.toList=some ps)(anz:T.aO M (ps.map fun p=>s.ev p.2))
  (hkd:kindOf P e=some k) (hz:zeroOf P e=some z) (hok:nN z=true) {o:Oper} (ho:o.op= .buildSlice ty len parts)
  {dr:Bool} {K:AS->Prop} {Q:Exit->Act->World->Prop} (h:nS P dr n o.dst (.mso e k (Ed z) len ps) K s):o.wp P a E.w (EP F M n E K) Q:=by
 simp only[nS,aD,bt,ff] at h;obtain⟨⟨⟨⟨⟨⟨hk,hzf⟩,hset⟩,hst⟩,hbig⟩,hkp⟩,h⟩:=h;obtain⟨hsz,hnm⟩:=DK hkp;obtain⟨hrow,hcs⟩:=xX (E:=E) hok;rw[hk] at hrow hcs;have hF:=Ci R hps hst;generalize hcells:(Array.range (len*bD k)).map (fun j=>z.cells[j % z.cells.size]!)=cs0;have hz0:aJ E k (List.replicate len (Ed z)) cs0.toList:=by
  refine qZ hrow (by simpa using hcs) _ _ fun j hj=>?_
  rw[<- hcells,KT z.cells _ j hj (by omega),hcs]
 obtain⟨cs',h1,h2⟩:=RN R.hk _ _ _ cs0 hF hz0 (by simp) (by rw[<- hcells]; simp) hset;have hsize:cs'.size=len*bD k:=by rw[abA h1,<- hcells]; simp
 have hlen:(wu (List.replicate len (Ed z)) (ps.map fun p=>(p.1,s.ev p.2))).length=len:=by rw[GN]; simp
 have hrun:(execOp a.eval o).run P E.w= .ok (.value (.slice (some ⟨E.w.heap.size,0,none⟩) len len)) (E.w.alloc (.cells cs' e)):=by
  have adX: ¬ (len*bD k>2 ^ 24):=by omega
  unfold zeroOf at hz;cases hi:P.info? e with
  |none=>simp[hi] at hz
  |some it =>
   have hz':it.zero=some z:=by simpa [hi] using hz
   have hzv:(zeroValue e).run P E.w= .ok z E.w:=by simp[zeroValue,typeInfo,hi,hz']
   have h1':Instr.fill (fun i=>some (i*bD k,bD k)) cs0 (parts.map fun(i,x)=>(i,a.eval x)).toList=some cs':=by simpa using h1
   by_cases h0:len*bD k=0
   ·have hc0:(Array.range 0).map (fun x=>(#[]:Array Value)[x % (#[]:Array Value).size]!)=cs0:=by rw[<- hcells,h0]; simp[Array.range_zero']
    have hg0: ¬ (0>2 ^ 24):=by omega
    simp only[execOp,ho,Instr.buildSlice,underlying,Sem.run_bind,run_program,Result.andThen_ok,yZ he,Sem.run_pure,jo hkd,h0,hg0,cW,cn,hc0,h1',newRow,run_newObj];rfl
   ·simp only[execOp,ho,Instr.buildSlice,underlying,Sem.run_bind,run_program,Result.andThen_ok,yZ he,Sem.run_pure,jo hkd,adX,cW,h0,hzv,hcells,h1',newRow,run_newObj];rfl
 unfold Oper.wp;rw[hrun]
 have:=Nz R hn (ob:=⟨e,k,wu (List.replicate len (Ed z)) (ps.map fun p=>(p.1,s.ev p.2))⟩) (c:=len) (cs:=cs') (t:=.own n) (d:=o.dst) (v:=.slice (some ⟨E.w.heap.size,0,none⟩) len len) hsz hnm ?_ (by rw[hlen]; exact ba _) ?_
  (OI (cu.2 fun t ht=>by rw[fb ht]; exact T.aW (fun _ hf=>hf.elim) _ (eY hzf)) (by simpa [Function.comp_def] using anz)) h2 (.inl ⟨rfl,by rw[hlen]⟩) h
 ·exact this
 ·exact hsize
 ·simp only[maxLen];have h3:len*1<=len*bD k:=Nat.mul_le_mul_left len hsz;omega
end ops
section ops
variable {P:Program} {F:Fr P} {M:Nat->Prop} {E:Env} {s:AS} {a:Act}
theorem H6{cur:List Value}{off:Nat}{vs:List Value}(h:off+vs.length<=cur.length) :
  (cur.take off++vs++cur.drop (off+vs.length)).length=cur.length /\
  ((cur.take off++vs++cur.drop (off+vs.length)).drop off).take vs.length=vs /\
  ∀ i,i<off\/off+vs.length<=i->(cur.take off++vs++cur.drop (off+vs.length))[i]? =cur[i]? :=by
 refine⟨by simp only[aL,bR,cA]; omega,?_,?_⟩
 ·rw[bO,gD (by simp; omega),gP (by simp; omega),fX,
   List.take_append_of_le_length (ba _),bx]
 ·intro i hi;rcases hi with hi|hi
  ·rw[bO,co (by simp; omega),cN hi]
  ·rw[ck (by simp; omega),cT]
   congr 1
   simp only[aL,bR]; omega
theorem alX(R:Rel F M E s a){n:Nat}{ty k:Nat}{x v:Operand}{x' v':X}(hx:aY x=some x')(hv:aY v=some v')(hkd:kindOf P ty=some k){o:Oper}(ho:o.op= .store ty x v)(hd:o.dst=none)
  {dr:Bool} {K:AS->Prop} {Q:Exit->Act->World->Prop} (h:nS P dr n o.dst (.st k x' v') K s):o.wp P a E.w (EP F M n E K) Q:=by
 have rx:=bY R hx; have rv:=bY R hv;simp only[nS] at h;split at h
 ·rename_i i j off e1;split at h
  ·rename_i ob hob;simp only[aD,bt] at h;obtain⟨⟨hvk,hst⟩,hj,hcond,h⟩:=h;rw[e1,aB rfl] at rx;simp only[aN] at rx;obtain⟨u,hu,hlive⟩:=rx;have fF:E.h i=some ob:=by rw[R.he]; exact hob
   obtain⟨b,nn,c,hφ,hu'⟩:=hlive (by rw[fF]; rfl);obtain⟨hok,GI,hsz⟩:=R.hk.obs i ob fF;have hnm:=(hok.of_slice hφ).2;rcases(hok.of_slice hφ).1 with ⟨ad,_,hnil⟩|⟨g,c',cur,hvv,hc,hcm,hh,hcs,hr⟩
   ·rw[hnil] at hj; simp at hj
   have hbg:b=g:=by rw[hφ] at hvv; simp at hvv; exact hvv.1
   subst hbg;have ha:a.eval x= .pointer (some ⟨b,j*bD ob.k+off,none⟩):=by rw[<- GI,<- hu']; simpa using hu
   obtain⟨r1,r2,r3,r4⟩:=vF hr hj;simp only[bu] at r2;rw[<- R.he] at hst;have hcells:=zN R.hk rv hst;have hrow:=OH R.hk rv hst;have hone:=F5 hcells;have hlen:=qp hcells;simp only[bu] at hlen;have hlen':(a.eval v).cells.size=bD k:=by rw[hlen,<- rP,hvk]
   have hoff:off+bD k<=bD ob.k:=by
    cases hw:(off==0&&ob.k==k) with
    |true=>simp only[aD,bt] at hw; obtain⟨rfl,rfl⟩:=hw; omega
    |false=>rw[hw,cz,aD] at hcond; have:=hcond.2; simpa [o9] using this
   generalize ht:(bif (off==0&&ob.k==k) then s.ev v' else(ob.l.getD j .any).splice off (s.ev v'))=t at h;generalize hcs':cur.toList.take (j*bD ob.k+off)++(a.eval v).cells.toList++cur.toList.drop (j*bD ob.k+off+(a.eval v).cells.toList.length)=cs';have hfit:j*bD ob.k+off+(a.eval v).cells.toList.length<=cur.toList.length:=by simp only[bu]; omega
   obtain⟨s1,s2,s3⟩:=H6 hfit;rw[hcs'] at s1 s2 s3;have hrun:(execOp a.eval o).run P E.w= .ok .skip (E.w.setRow b cs'.toArray):=by
    have hs:=run_storeCells_at P b (j*bD ob.k+off) ob.ty (a.eval v).cells.toList 0 cur E.w hh (by simpa using hfit) hone;simp only[fo,hcs'] at hs;simp only[execOp,ho,Instr.storeAt,ha,Instr.sureAddr,Sem.run_bind,Sem.run_pure,Result.andThen_ok,storeVar,jo hkd,hlen',ne_eq,not_true_eq_false,cW,hs]
   let E':Env:= {E with w:=E.w.setRow b cs'.toArray,h:=upd E.h i (some ⟨ob.ty,ob.k,ob.l.set j t⟩)}
   have hrb:rowB (E.φ i)=some b:=by rw[hvv]; rfl
   have hbS:=R.hk.out i ob b fF hrb;have hsame: ∀ g,g≠b->(E.w.setRow b cs'.toArray).heap[g]? =E.w.heap[g]? :=fun g hg=>setRow_other _ _ _ _ hg
   have hext:Ext F E E':=by
    refine⟨fun _ h=>h,fun g hg=>hsame g ?_,by show _<=(E.w.setRow b cs'.toArray).heap.size; simp,rfl,rfl,rfl,ba _,rfl⟩;rintro rfl;rcases hg with hg|hg
    ·exact hbS.1 hg
    ·exact hbS.2 hg
   have hS:Same E E' M:=by
    intro m _ hm;refine⟨?_,rfl,rfl⟩;by_cases KU:m=i
    ·subst KU; rw[fF]; rfl
    ·simpa [E',upd,KU] using hm
   have hK:Keeps E E' M:=.of hext hS;have hhm:pq M E.h:=by rw[R.he]; exact R.mh
   have VQ:t.ids M:=by
    rw[<- ht];cases (off==0&&ob.k==k) with
    |true=>exact mX R hv
    |false =>
     simp only[ap,T.splice,T.ids];have he:=yU (d:=.any) (i:=j) (hhm i ob fF).2 (by simp[T.ids]);exact gB.2 ⟨gB.2 ⟨yV (yX he) _,yX (mX R hv)⟩,BX (yX he) _⟩
   have Yo:t.kd=ob.k/\(∀ v∈(cs'.drop (j*bD ob.k)).take (bD ob.k),v.oneCell'=true)/\aN E t ((cs'.drop (j*bD ob.k)).take (bD ob.k)):=by
    cases hw:(off==0&&ob.k==k) with
    |true =>
     simp only[aD,bt] at hw;obtain⟨rfl,rfl⟩:=hw;simp only[beq_self_eq_true,fI,bE] at ht;subst ht;simp only[fo] at s2;have e1:(a.eval v).cells.toList.length=bD ob.k:=by simpa using hlen'
     rw[e1] at s2;rw[s2];refine⟨hvk,hone,?_⟩;simp only[aJ] at hrow;obtain⟨_,_,_,hr',_⟩:=hrow;rw[hvk,bm (by omega)] at hr'; exact hr'
    |false =>
     rw[hw] at ht;rw[hw,cz,aD,bq,cE] at hcond;simp only[ap] at ht;subst ht;have aj1:(ob.l.getD j .any).kd≠0:=by rw[r1]; exact hcond.1
     have hel:(ob.l.getD j .any).cells.length=bD ob.k:=by rw[<- rP,r1]
     rw[zI aj1] at r4
     have hmid:(cs'.drop (j*bD ob.k)).take (bD ob.k) =
       ((cur.toList.drop (j*bD ob.k)).take (bD ob.k)).take off++(a.eval v).cells.toList++((cur.toList.drop (j*bD ob.k)).take (bD ob.k)).drop (off+(s.ev v').cells.length):=by
      apply List.ext_getElem?;intro q;have hvl:(a.eval v).cells.toList.length=bD k:=by simpa using hlen'
      have alY:(s.ev v').cells.length=bD k:=by rw[<- rP,hvk]
      by_cases hq:q<bD ob.k
      ·rw[cN hq,cT,<- hcs'];by_cases hq1:q<off
       ·rw[bO,co (by simp; omega),cN (by omega)];rw[bO,co (by simp; omega),cN hq1,cN hq,cT]
       ·by_cases hq2:q<off+bD k
        ·rw[bO,ck (by simp; omega),co (by simp only[bR,bu] at *; omega)];rw[bO,ck (by simp; omega),co (by simp only[bR,cA,bu] at *; omega)]
         congr 1
         simp only[bR,cA,bu] at *; omega
        ·rw[ck (by simp only[aL,bR,bu] at *; omega),cT];rw[ck (by simp only[aL,bR,cA,bu] at *; omega),cT];have hidx:off+(s.ev v').cells.length+(q-(((cur.toList.drop (j*bD ob.k)).take (bD ob.k)).take off++(a.eval v).cells.toList).length)=q:=by
          simp only[aL,bR,cA,bu] at *; omega
         rw[hidx,cN hq,cT]
         congr 1
         simp only[aL,bR,bu] at *; omega
      ·rw[eO (by omega),cv];simp only[aL,bR,cA,bu] at *; omega
     have hrep:aX E ((ob.l.getD j .any).cells.take off++(s.ev v').cells++(ob.l.getD j .any).cells.drop (off+(s.ev v').cells.length)) ((cs'.drop (j*bD ob.k)).take (bD ob.k)):=by
      rw[hmid]; exact Jl r4 hcells
     refine⟨?_,F5 hrep,by simp only[T.splice,aN]; exact hrep⟩;have alY:(s.ev v').cells.length=bD k:=by rw[<- rP,hvk]
     simp only[T.splice,T.kd,aL,bR,cA,hel,alY]
     have:ob.k≠0:=hcond.1
     obtain⟨m,hm⟩:=Nat.exists_eq_succ_of_ne_zero this;rw[hm] at hoff ⊢;simp only[bD,Nat.succ_eq_add_one] at hoff ⊢;omega
   have hok':qY F E':=by
    refine⟨fun m om hm=>?_,fun m om g hm hg=>?_,fun p q op oq g hpq hp hq hgp hgq=>?_,fun g hg=>?_,fun g hg=>?_,R.hk.sf,hext.gl R.hk⟩
    ·by_cases KU:m=i
     ·subst KU;simp only[E',upd,cn,bi] at hm;subst hm;refine⟨.inl ⟨hnm,.inr ⟨b,c',cs'.toArray,by rw[hvv]; simp,by simpa using hc,hcm,setRow_heap _ _ _ _ _ _ hh,?_,?_⟩⟩,GI,hsz⟩
      ·simp only[gh,s1,bu]; exact hcs
      ·have hrows:aJ E ob.k (ob.l.set j t) cs':=by
        refine Md hr Yo.1 hj s1 Yo.2.1 Yo.2.2 fun q hq=>s3 q ?_
        have hvl:(a.eval v).cells.toList.length=bD k:=by simpa using hlen'
        rcases hq with hq|hq
        ·exact .inl (by omega)
        ·exact .inr (by omega)
       exact eX _ _ M hK (xW (hhm _ ob fF).2 VQ) _ hrows
     ·simp only[E',upd,KU,cW] at hm;obtain⟨k1,k2,k3⟩:=R.hk.obs m om hm;refine⟨k1.keep hK (hhm m om hm).2 fun g hg=>hsame g ?_,k2,k3⟩;rintro rfl;exact R.hk.sep m i om ob g KU hm fF hg hrb
    ·by_cases KU:m=i
     ·subst KU; exact R.hk.out m ob g fF hg
     ·simp only[E',upd,KU,cW] at hm; exact R.hk.out m om g hm hg
    ·have key: ∀ q oq,E'.h q=some oq-> ∃ Yp,E.h q=some Yp:=by
      intro q oq hq;by_cases hqi:q=i
      ·subst hqi; exact⟨ob,fF⟩
      ·exact⟨oq,by simpa [E',upd,hqi] using hq⟩
     obtain⟨op',hp'⟩:=key p op hp;obtain⟨Yp,hq'⟩:=key q oq hq;exact R.hk.sep p q op' Yp g hpq hp' hq' hgp hgq
    ·show g<(E.w.setRow b cs'.toArray).heap.size;simpa using R.hk.slt g hg
    ·show g<(E.w.setRow b cs'.toArray).heap.size;simpa using R.hk.flt g hg
   unfold Oper.wp;rw[hrun];show EP F M n E K (a.put o.dst undef) _;rw[hd];refine⟨E',_,rfl,h,?_,hext,hS⟩;have mh:pq (fun i=>M i\/i=n) E'.h:=by
    intro m om hm;by_cases KU:m=i
    ·subst KU;simp only[E',upd,cn,bi] at hm;subst hm;exact⟨.inl (hhm m ob fF).1,T.aA (fun _ h=>.inl h) _ (xW (hhm m ob fF).2 VQ)⟩
    ·simp only[E',upd,KU,cW] at hm;exact⟨.inl (hhm m om hm).1,T.aA (fun _ h=>.inl h) _ (hhm m om hm).2⟩
   have:=R.next (M':=fun i=>M i\/i=n) (fun _ h=>.inl h) hok' hext hS (t:=.any) (v:=undef) (d:=none) (by simp[T.ids]) (.inr ⟨rfl,by simp[aN]⟩) mh;have e:({(s.put none .any) with hp:=E'.h}:AS)= {s with hp:=upd s.hp i (some ⟨ob.ty,ob.k,ob.l.set j t⟩)}:=by
    show({s with hp:=upd E.h i _}:AS)=_;rw[R.he]
   rw[e] at this;exact this
  ·exact h.elim
 ·exact h.elim
theorem Yq{b:Bool}{n:Value}(hn:vC b n=true){v:T}{u:Value}(hk:v.kd=0)(ho:u.oneCell'=true)(hv:aN E v [u])(cl:Nat): ∀ {l:List T} {es:List MapEntry},l.all (Mc b)=true->fK E l es ->
  (yG n l=none->fK E (DF n v l) (es++[{key:=n,val:=u,born:=cl}])) /\
  (∀ j,Instr.findNow (Eo b) n es 0=some (some j)->fK E (DF n v l) (es.modify j.1 fun e=> {e with key:=n,val:=u})):=by
 have gen: ∀ {l:List T} {es:List MapEntry} (i:Nat),l.all (Mc b)=true->fK E l es->(yG n l=none->fK E (DF n v l) (es++[{key:=n,val:=u,born:=cl}])) /\
  (∀ j,Instr.findNow (Eo b) n es i=some (some j)->i<=j.1/\fK E (DF n v l) (es.modify (j.1-i) fun e=> {e with key:=n,val:=u})):=by
  intro l;induction l with
  |nil =>
   intro es i _ h;simp only[fK] at h; subst h;refine⟨fun _=>?_,fun j hj=>by simp[Instr.findNow] at hj⟩;simp only[DF,fX,fK];exact⟨n,v,_,[],rfl,rfl,rfl,hk,ho,hv,rfl⟩
  |cons t ts ih =>
   intro es i ha h;simp only[fK] at h;obtain⟨m,u',e,r,rfl,rfl,h1,h2,h3,h4,h5⟩:=h;simp only[eC,Mc,aD] at ha;have hsn:=VK hn ha.1;rw[<- h1] at hsn;simp only[yG,DF];cases hb:Gq n m with
   |true =>
    rw[h1,hb] at hsn;simp only[bE];refine⟨nofun,fun j hj=>?_⟩;simp only[Instr.findNow,h1,hsn,bi] at hj;subst hj;refine⟨ba _,?_⟩;simp only[eN,List.modify_zero_cons,fK];exact⟨n,v,_,r,rfl,rfl,rfl,hk,ho,hv,h5⟩
   |false =>
    simp only[ap];obtain⟨g1,g2⟩:=ih (i+1) ha.2 h5;rw[h1,hb] at hsn;refine⟨fun h=>?_,fun j hj=>?_⟩
    ·simp only[cj,fK];exact⟨m,u',e,_,rfl,rfl,h1,h2,h3,h4,g1 h⟩
    ·simp only[Instr.findNow,h1,hsn] at hj;obtain⟨g3,g4⟩:=g2 j hj;refine⟨by omega,?_⟩;rw[show j.1-i=(j.1-(i+1))+1 by omega,List.modify_succ_cons];simp only[fK];exact⟨m,u',e,_,rfl,rfl,h1,h2,h3,h4,g4⟩
 intro l es ha h;obtain⟨g1,g2⟩:=gen 0 ha h;exact⟨g1,fun j hj=>by simpa using (g2 j hj).2⟩
theorem VR{n:Value}{v:T}(hv:v.ids M): ∀ {l:List T},T.aO M l->T.aO M (DF n v l):=by
 intro l;induction l with
 |nil=>intro _; simp[DF,T.aO,T.ids,hv]
 |cons t ts ih =>
  intro h;simp only[T.aO] at h;unfold DF;split
  ·simp[T.aO,T.ids,hv]
  ·rename_i m u r heq;cases heq;cases (Gq n m)
   ·simp only[ap,T.aO]; exact⟨h.1,ih h.2⟩
   ·simp only[bE,T.aO,T.ids]; exact⟨⟨trivial,hv,trivial⟩,h.2⟩
  ·rename_i heq;cases heq;simp only[T.aO]; exact⟨h.1,ih h.2⟩
end ops
section ops
variable {P:Program} {F:Fr P} {M:Nat->Prop} {E:Env} {s:AS} {a:Act}
theorem ahd(x:ByteArray):(x==x)=true:=by
 cases x with|mk a=>exact(beq_self_eq_true a:(a==a)=true)
theorem QB{w:World}{t kt et:TypeId}{g:Nat}{es:Array MapEntry}{cl:Nat}(ht:P.underlying t=some (.map kt et)){b:Bool}(hkt:P.underlying kt=some (Eo b))(hh:w.heap[g]? =some (.map es cl))(n:Value)(v:Value){l:List T}(hkk:Bq b n l=true)(hr:fK E l es.toList) :
  ∃ es' cl',(Instr.mapUpdate t (.map (some g)) n v).run P w= .ok () {w with heap:=w.heap.setIfInBounds g (.map es' cl')} /\
   ((yG n l=none/\es'.toList=es.toList++[{key:=n,val:=v,born:=cl}]) \/
    ∃ j,Instr.findNow (Eo b) n es.toList 0=some (some j)/\es'.toList=es.toList.modify j.1 fun e=> {e with key:=n,val:=v}):=by
 have hget:(getObj g).run P w= .ok (.map es cl) w:=by simp[getObj,Sem.run,hh]
 have hset: ∀ o,(setObj g o).run P w= .ok () {w with heap:=w.heap.setIfInBounds g o}:=fun o=>by simp[setObj,Sem.run,hh]
 simp only[Bq,aD] at hkk;have hf:=MC hkk.1 0 hkk.2 hr;have hrun: ∀ r,Instr.findNow (Eo b) n es.toList 0=some r->(Instr.findKey kt n es.toList).run P w= .ok r w:=by
  intro r hr';simp only[Instr.findKey,Sem.run_bind,run_underlying hkt,Result.andThen_ok,hr',Sem.run_pure]
 split at hf
 ·obtain⟨j,v',g1,g2,g3,_,_,_,g7⟩:=hf;have hkey:((es[0+j]?).map (·.key)).getD n=n:=by
   have:(es[0+j]?).map (·.key)=some n:=by simpa using g7
   rw[this]; rfl
  have alZ:(Instr.keyThatStays n n).run P w= .ok n w:=by
   have: ∀ d,Instr.sameBits d n n=true:=fun d=>by
    obtain⟨h1,-⟩:=hkk;revert h1;cases b<;>cases n<;>intro h1<;>first|(simp[vC] at h1; done)|(cases d<;>simp[Instr.sameBits]; done)|(cases d<;>simp only[Instr.sameBits]<;>exact ahd _)
   simp[Instr.keyThatStays,this]
  refine⟨es.modify (0+j) fun e=> {e with key:=n,val:=v},cl,?_,.inr ⟨_,g1,by simp⟩⟩;simp only[Instr.mapUpdate,Sem.run_bind,run_underlying ht,Result.andThen_ok,hget,run_checkKey hkt hkk.1,hrun _ g1,hkey,alZ,hset]
 ·rename_i hm;refine⟨es.push {key:=n,val:=v,born:=cl},cl+1,?_,.inl ⟨hm,by simp⟩⟩;simp only[Instr.mapUpdate,Sem.run_bind,run_underlying ht,Result.andThen_ok,hget,run_checkKey hkt hkk.1,hrun _ hf,hset]
theorem adY(R:Rel F M E s a){n:Nat}{t kt et:TypeId}{x i v:Operand}{x' i' v':X}(hx:aY x=some x')(hi:aY i=some i')(hv:aY v=some v')(ht:P.underlying t=some (.map kt et)){b:Bool}(hkt:P.underlying kt=some (Eo b))
  {o:Oper} (ho:o.op= .mapUpdate t x i v) (hd:o.dst=none)
  {dr:Bool} {K:AS->Prop} {Q:Exit->Act->World->Prop} (h:nS P dr n o.dst (.Vb b x' i' v') K s):o.wp P a E.w (EP F M n E K) Q:=by
 have rx:=bY R hx; have ri:=bY R hi; have rv:=bY R hv;simp only[nS] at h;split at h
 ·rename_i oo m e1 e2;split at h
  ·rename_i ob hob;simp only[aD,bt] at h;obtain⟨hmk,hkk,⟨hvk,hone⟩,h⟩:=h;rw[e2,aQ] at ri;rw[e1,aB rfl] at rx;simp only[aN] at rx;obtain⟨u,hu,hlive⟩:=rx;have fF:E.h oo=some ob:=by rw[R.he]; exact hob
   have hφ:=hlive (by rw[fF]; rfl);obtain⟨hok,GI,hsz⟩:=R.hk.obs oo ob fF;have ha:a.eval x=E.φ oo:=by rw[<- hφ]; simpa using hu
   obtain⟨g,es,cl,hvv,hh,hr⟩:=hok.map hmk;rw[<- R.he] at hone;obtain⟨_,w1,w2⟩:=OC R.hk rv hone;obtain⟨es',cl',hrun0,hes⟩:=QB (P:=P) (E:=E) ht hkt hh m (a.eval v) hkk hr;have hent:fK E (DF m (s.ev v') ob.l) es'.toList:=by
    have hkk':=hkk;simp only[Bq,aD] at hkk';have hp:=Yq hkk'.1 hvk w1 w2 cl hkk'.2 hr;rcases hes with ⟨h1,h2⟩|⟨j,h1,h2⟩
    ·rw[h2]; exact hp.1 h1
    ·rw[h2]; exact hp.2 j h1
   have hrun:(execOp a.eval o).run P E.w= .ok .skip {E.w with heap:=E.w.heap.setIfInBounds g (.map es' cl')}:=by
    simp only[execOp,ho,ha,hvv,ri,Sem.run_bind,hrun0,Result.andThen_ok,Sem.run_pure]
   generalize hw:({E.w with heap:=E.w.heap.setIfInBounds g (.map es' cl')}:World)=w' at hrun;have hlt:g<E.w.heap.size:=(cm.1 hh).1;have hnew:w'.heap[g]? =some (.map es' cl'):=by rw[<- hw]; simp[hlt]
   have hsame: ∀ q,q≠g->w'.heap[q]? =E.w.heap[q]? :=fun q hq=>by rw[<- hw]; simp[Ne.symm hq]
   have hsize:w'.heap.size=E.w.heap.size:=by rw[<- hw]; simp
   let E':Env:= {E with w:=w',h:=upd E.h oo (some ⟨ob.ty,ob.k,DF m (s.ev v') ob.l⟩)}
   have hrb:rowB (E.φ oo)=some g:=by rw[hvv]; rfl
   have hbS:=R.hk.out oo ob g fF hrb;have hhm:pq M E.h:=by rw[R.he]; exact R.mh
   have hext:Ext F E E':=by
    refine⟨fun _ h=>h,fun q hq=>hsame q ?_,by show _<=w'.heap.size; omega,by show w'.os=_; rw[<- hw],by show w'.tape=_; rw[<- hw],by show w'.output=_; rw[<- hw],by show _<=w'.drawn; rw[<- hw]; exact ba _,rfl⟩;rintro rfl;rcases hq with hq|hq
    ·exact hbS.1 hq
    ·exact hbS.2 hq
   have hS:Same E E' M:=by
    intro q _ hq;refine⟨?_,rfl,rfl⟩;by_cases hqi:q=oo
    ·subst hqi; rw[fF]; rfl
    ·simpa [E',upd,hqi] using hq
   have hK:Keeps E E' M:=.of hext hS;have al0:(s.ev v').ids M:=mX R hv;have hok':qY F E':=by
    refine⟨fun q oq hq=>?_,fun q oq b hq hb=>?_,fun p q op oq b hpq hp hq hbp hbq=>?_,fun b hb=>?_,fun b hb=>?_,R.hk.sf,hext.gl R.hk⟩
    ·by_cases hqi:q=oo
     ·subst hqi;simp only[E',upd,cn,bi] at hq;subst hq;exact⟨.inr ⟨hmk,g,es',cl',hvv,hnew,MF hK (VR al0 (hhm _ ob fF).2) hent⟩,GI,hsz⟩
     ·simp only[E',upd,hqi,cW] at hq;obtain⟨k1,k2,k3⟩:=R.hk.obs q oq hq;refine⟨k1.keep hK (hhm q oq hq).2 fun b hb=>hsame b ?_,k2,k3⟩;rintro rfl;exact R.hk.sep q oo oq ob b hqi hq fF hb hrb
    ·by_cases hqi:q=oo
     ·subst hqi; exact R.hk.out q ob b fF hb
     ·simp only[E',upd,hqi,cW] at hq; exact R.hk.out q oq b hq hb
    ·have key: ∀ q oq,E'.h q=some oq-> ∃ Yp,E.h q=some Yp:=by
      intro q oq hq;by_cases hqi:q=oo
      ·subst hqi; exact⟨ob,fF⟩
      ·exact⟨oq,by simpa [E',upd,hqi] using hq⟩
     obtain⟨op',hp'⟩:=key p op hp;obtain⟨Yp,hq'⟩:=key q oq hq;exact R.hk.sep p q op' Yp b hpq hp' hq' hbp hbq
    ·show b<w'.heap.size;rw[hsize]; exact R.hk.slt b hb
    ·show b<w'.heap.size;rw[hsize]; exact R.hk.flt b hb
   unfold Oper.wp;rw[hrun];show EP F M n E K (a.put o.dst undef) _;rw[hd];refine⟨E',_,rfl,h,?_,hext,hS⟩;have mh:pq (fun i=>M i\/i=n) E'.h:=by
    intro q oq hq;by_cases hqi:q=oo
    ·subst hqi;simp only[E',upd,cn,bi] at hq;subst hq;exact⟨.inl (hhm q ob fF).1,T.aA (fun _ h=>.inl h) _ (VR al0 (hhm q ob fF).2)⟩
    ·simp only[E',upd,hqi,cW] at hq;exact⟨.inl (hhm q oq hq).1,T.aA (fun _ h=>.inl h) _ (hhm q oq hq).2⟩
   have:=R.next (M':=fun i=>M i\/i=n) (fun _ h=>.inl h) hok' hext hS (t:=.any) (v:=undef) (d:=none) (by simp[T.ids]) (.inr ⟨rfl,by simp[aN]⟩) mh;have e:({(s.put none .any) with hp:=E'.h}:AS)= {s with hp:=upd s.hp oo (some ⟨ob.ty,ob.k,DF m (s.ev v') ob.l⟩)}:=by
    show({s with hp:=upd E.h oo _}:AS)=_;rw[R.he]
   rw[e] at this;exact this
  ·exact h.elim
 ·exact h.elim
theorem abB{t e ty':TypeId}{x y:Operand}{ad:Option Addr}{n c:Nat}{o:Oper}(ht:P.underlying t=some (.slice e))(ho:o.op= .binOp .eql t x y ty')(hx:a.eval x= .slice ad n c)(hy:a.eval y= .slice none 0 0)(w:World) :
  (execOp a.eval o).run P w= .ok (.value (.bool ad.isNone)) w:=by
 have heq:(Op.equal t (.slice ad n c) (.slice none 0 0)).run P w= .ok ad.isNone w:=by
  have h: ∀ d,(Op.equalIn (d+1) t (.slice ad n c) (.slice none 0 0)).run P w= .ok ad.isNone w:=fun d=>by
   cases ad<;>simp only[Op.equalIn,underlying,Sem.run_bind,run_program,Result.andThen_ok,ht,Sem.run_pure,Option.isNone]
  exact h 9999
 have hg:eqGuard .eql t x y (.slice ad n c) (.slice none 0 0)=pure ():=by unfold eqGuard; rfl
 simp only[execOp,ho,hx,hy,hg,binOp,Sem.run_bind,Sem.run_pure,Result.andThen_ok,heq]
theorem ad1(R:Rel F M E s a){n:Nat}{t e ty':TypeId}{x y:Operand}{x':X}(hx:aY x=some x')(hy:aY y=some (.c (.sl 0 true [])))(ht:P.underlying t=some (.slice e)){o:Oper}(ho:o.op= .binOp .eql t x y ty')
  {dr:Bool} {K:AS->Prop} {Q:Exit->Act->World->Prop} (h:nS P dr n o.dst (.Gz x') K s):o.wp P a E.w (EP F M n E K) Q:=by
 have rx:=bY R hx;have hya:a.eval y= .slice none 0 0:=by
  cases y with
  |tmp t=>simp[aY] at hy
  |global g=>simp[aY] at hy
  |func f=>simp[aY] at hy
  |const v =>
   simp only[aY] at hy;split at hy
   ·simp only[bi,X.c.injEq] at hy;show v=_;cases v<;>simp[Ed,MQ] at hy
    rename_i ad n c;split at hy
    ·rename_i heq; exact heq
    ·cases hy
   ·cases hy
 have fin: ∀ {ad:Option Addr} {m c:Nat},a.eval x= .slice ad m c->K (s.put o.dst (.lit (.bool ad.isNone)))->o.wp P a E.w (EP F M n E K) Q:=by
  intro ad m c hxa hK;unfold Oper.wp;rw[abB ht ho hxa hya];exact⟨E,_,rfl,hK,(R.put (by simp[T.ids]) (aQ.2 rfl) _).weaken (fun _ h=>.inl h),Ext.refl _ _,Same.refl _ _⟩
 simp only[nS] at h;split at h
 ·rename_i k f l e1;rw[e1,aB rfl] at rx;simp only[aN] at rx;obtain⟨ad,c,hu,hle,_,hm⟩:=rx;have hxa:a.eval x= .slice ad l.length c:=by simpa using hu
  refine fin hxa ?_;cases ad with
  |some ad=>exact h.2
  |none =>
   rcases hm with hm|⟨b,off,cur,e,m,hq,_⟩
   ·exact h.1 hm
   ·cases hq
 ·rename_i i e1;split at h
  ·rename_i ob hob;rw[e1,aB rfl] at rx;simp only[aN] at rx;obtain⟨u,hu,hlive⟩:=rx;have fF:E.h i=some ob:=by rw[R.he]; exact hob
   have hφ:=hlive (by rw[fF]; rfl);obtain⟨hok,GI,hsz⟩:=R.hk.obs i ob fF;have ha:a.eval x=E.φ i:=by rw[<- hφ]; simpa using hu
   rcases hok.row h.2.2 with ⟨ad,hv,hnil⟩|⟨g,c,cur,hv,_⟩
   ·refine fin (ha.trans hv) ?_;cases ad with
    |some ad=>exact h.2.1
    |none=>exact h.1 hnil
   ·exact fin (ha.trans hv) h.2.1
  ·exact h.elim
 ·exact h.elim
theorem GR(z:Array Value)(n i:Nat)(h:i<n*z.size)(hz:0<z.size):(Builtin.zeroCells z n).toList[i]? =z.toList[i % z.size]? :=by
 have:i % z.size<z.size:=Nat.mod_lt _ hz
 simp[Builtin.zeroCells,h,this]
theorem aj9(R:Rel F M E s a){n:Nat}{t e k:Nat}{ts:Array TypeId}{z:Value}{x:Operand}{x':X}(hx:aY x=some x'){o:Oper}(ho:o.op= .call {callee:=.builtin .clear,args:= #[x],argTypes:=ts})(h0:ts[0]? =some t)
  (hu:P.underlying t=some (.slice e)) (hkd:kindOf P e=some k) (hz:zeroOf P e=some z) (akb:nN z=true) (abC:0<bD k)
  {dr:Bool} {K:AS->Prop} {Q:Exit->Act->World->Prop} (h:nS P dr n o.dst (.ZN k (Ed z) x') K s):o.wp P a E.w (EP F M n E K) Q:=by
 have rx:=bY R hx;simp only[nS] at h;split at h
 ·rename_i oo lo hi e1;split at h
  ·rename_i ob hob;simp only[aD,bt] at h;obtain⟨⟨⟨⟨hk1,hzk⟩,_⟩,hfree⟩,hle,h⟩:=h;rw[e1,aB rfl] at rx;simp only[aN] at rx;obtain⟨u,hu1,hlive⟩:=rx;have fF:E.h oo=some ob:=by rw[R.he]; exact hob
   obtain⟨ad,m,c,hφ,hl1,hl2,hl3,hu'⟩:=hlive (by rw[fF]; rfl);obtain⟨hok,GI,hsz⟩:=R.hk.obs oo ob fF;have ha:a.eval x=u:=by simpa using hu1
   have hnm:ob.k≠gK:=by rw[hk1]; exact EO hkd
   have hhm:pq M E.h:=by rw[R.he]; exact R.mh
   have anA:(Ed z).ids M:=T.aW (fun _ hf=>hf.elim) _ (eY hfree)
   have al1:T.aO M (ob.l.take lo++List.replicate (hi-lo) (Ed z)++ob.l.drop hi) :=
    gB.2 ⟨gB.2 ⟨yV (hhm oo ob fF).2 _,cu.2 fun q hq=>by rw[fb hq]; exact anA⟩,BX (hhm oo ob fF).2 _⟩
   have hzero:(zeroValue e).run P E.w= .ok z E.w:=by
    unfold zeroOf at hz;cases hi':P.info? e with
    |none=>simp[hi'] at hz
    |some it =>
     have hz':it.zero=some z:=by simpa [hi'] using hz
     simp[zeroValue,typeInfo,hi',hz']
   obtain⟨ajq,hzs⟩:=xX (E:=E) akb;rw[hzk] at ajq hzs
   have fin: ∀ w':World,w'.heap.size=E.w.heap.size->w'.os=E.w.os->w'.tape=E.w.tape->w'.output=E.w.output->E.w.drawn<=w'.drawn->(∀ g,rowB (E.φ oo)≠some g->w'.heap[g]? =E.w.heap[g]?) ->
     (∀ E',Keeps E E' M->E'.w=w'->VI E' ⟨ob.ty,ob.k,ob.l.take lo++List.replicate (hi-lo) (Ed z)++ob.l.drop hi⟩ (E.φ oo)) ->
     (execOp a.eval o).run P E.w= .ok (.value (.tuple #[])) w'->o.wp P a E.w (EP F M n E K) Q:=by
    intro w' hsize hos htape hout hdr hsame hrow hrun
    let E':Env:= {E with w:=w',h:=upd E.h oo (some ⟨ob.ty,ob.k,ob.l.take lo++List.replicate (hi-lo) (Ed z)++ob.l.drop hi⟩)}
    have hext:Ext F E E':=by
     refine⟨fun _ h=>h,fun q hq=>hsame q ?_,by show _<=w'.heap.size; omega,hos,htape,hout,hdr,rfl⟩;intro hrb;have:=R.hk.out oo ob q fF hrb;rcases hq with hq|hq
     ·exact this.1 hq
     ·exact this.2 hq
    have hS:Same E E' M:=by
     intro q _ hq;refine⟨?_,rfl,rfl⟩;by_cases hqi:q=oo
     ·subst hqi; rw[fF]; rfl
     ·simpa [E',upd,hqi] using hq
    have hK:Keeps E E' M:=.of hext hS;have hok':qY F E':=by
     refine⟨fun q oq hq=>?_,fun q oq b hq hb=>?_,fun p q op oq b hpq hp hq hbp hbq=>?_,fun b hb=>?_,fun b hb=>?_,R.hk.sf,hext.gl R.hk⟩
     ·by_cases hqi:q=oo
      ·subst hqi;simp only[E',upd,cn,bi] at hq;subst hq;exact⟨.inl ⟨hnm,hrow E' hK rfl⟩,GI,hsz⟩
      ·simp only[E',upd,hqi,cW] at hq;obtain⟨k1,k2,k3⟩:=R.hk.obs q oq hq;refine⟨k1.keep hK (hhm q oq hq).2 fun b hb=>hsame b ?_,k2,k3⟩;intro hrb;exact R.hk.sep q oo oq ob b hqi hq fF hb hrb
     ·by_cases hqi:q=oo
      ·subst hqi; exact R.hk.out q ob b fF hb
      ·simp only[E',upd,hqi,cW] at hq; exact R.hk.out q oq b hq hb
     ·have key: ∀ q oq,E'.h q=some oq-> ∃ Yp,E.h q=some Yp:=by
       intro q oq hq;by_cases hqi:q=oo
       ·subst hqi; exact⟨ob,fF⟩
       ·exact⟨oq,by simpa [E',upd,hqi] using hq⟩
      obtain⟨op',hp'⟩:=key p op hp;obtain⟨Yp,hq'⟩:=key q oq hq;exact R.hk.sep p q op' Yp b hpq hp' hq' hbp hbq
     ·show b<w'.heap.size;rw[hsize]; exact R.hk.slt b hb
     ·show b<w'.heap.size;rw[hsize]; exact R.hk.flt b hb
    unfold Oper.wp;rw[hrun];refine⟨E',_,rfl,h,?_,hext,hS⟩;have mh:pq (fun i=>M i\/i=n) E'.h:=by
     intro q oq hq;by_cases hqi:q=oo
     ·subst hqi;simp only[E',upd,cn,bi] at hq;subst hq;exact⟨.inl (hhm q ob fF).1,T.aA (fun _ h=>.inl h) _ al1⟩
     ·simp only[E',upd,hqi,cW] at hq;exact⟨.inl (hhm q oq hq).1,T.aA (fun _ h=>.inl h) _ (hhm q oq hq).2⟩
    have:=R.next (M':=fun i=>M i\/i=n) (fun _ h=>.inl h) hok' hext hS (t:=T.un) (v:=.tuple #[]) (d:=o.dst) (by simp[T.ids]) (aQ.2 rfl) mh;have e:({(s.put o.dst T.un) with hp:=E'.h}:AS)= {(s.put o.dst T.un) with hp:=upd s.hp oo (some ⟨ob.ty,ob.k,ob.l.take lo++List.replicate (hi-lo) (Ed z)++ob.l.drop hi⟩)}:=by
     show({(s.put o.dst T.un) with hp:=upd E.h oo _}:AS)=_;rw[R.he]
    rw[e] at this;exact this
   have ad2: ∀ {w'},(Builtin.clear_ ts o.type #[a.eval x]).run P E.w= .ok (.tuple #[]) w'->(execOp a.eval o).run P E.w= .ok (.value (.tuple #[])) w':=by
    intro w' hr;simp only[execOp,ho,resolve,invoke,builtin,Sem.run_bind,Sem.run_pure,Result.andThen_ok,List.map_toArray,bl,List.map_nil,hr]
   rcases hok.row hnm with ⟨ad',hv,hnil⟩|⟨g,c',cur,hv,hc,hcm,hh,hcs,hr⟩
   ·
    have h00:lo=0/\hi=0:=by rw[hnil] at hle; simp at hle; omega
    obtain⟨rfl,rfl⟩:=h00;refine fin E.w rfl rfl rfl rfl (ba _) (fun _ _=>rfl) (fun E' _ _=>.inl ⟨ad',hv,by simp[hnil]⟩) (ad2 ?_);rw[ha,hu'];cases ad<;>simp[Builtin.clear_,h0,run_underlying hu,Result.andThen]<;>split<;>simp_all
   ·rw[hφ] at hv;simp only[Value.slice.injEq] at hv;obtain⟨rfl,rfl,rfl⟩:=hv;rw[hk1] at hcs hr GI;by_cases hlh:lo=hi
    ·subst hlh;refine fin E.w rfl rfl rfl rfl (ba _) (fun _ _=>rfl) (fun E' hK hw=>.inr ⟨g,c',cur,by rw[hφ]; first|(simp; done)|(simp; omega),by first|(simp; done)|(simp; omega),hcm,by rw[hw]; exact hh,by rw[hk1]; exact hcs,?_⟩) (ad2 ?_)
     ·simp only[eN,List.replicate_zero,cS,cK,hk1];exact eX _ _ M hK (hhm oo ob fF).2 _ hr
     ·rw[ha,hu'];simp only[eN];split<;>simp[Builtin.clear_,h0,run_underlying hu,Result.andThen]
    ·have hlt:lo<hi:=by omega
     rw[bB (by omega),GI] at hu';simp only[bp,addr_add,fS] at hu';have ahe:z.cells.size=bD k:=hzs;have VT:(Builtin.zeroCells z.cells (hi-lo)).toList.length=(hi-lo)*bD k:=by simp[Builtin.zeroCells,ahe]
     have ad3:lo*bD k+(hi-lo)*bD k<=cur.size:=by
      rw[<- de,hcs]; exact cr _ (by omega)
     have hone: ∀ v∈(Builtin.zeroCells z.cells (hi-lo)).toList,v.oneCell'=true:=by
      intro v hv;obtain⟨i,hi1,hi2⟩:=dt hv;have hg:(Builtin.zeroCells z.cells (hi-lo)).toList[i]? =some v:=by rw[bS hi1,hi2]
      rw[GR z.cells _ i (by rw[ahe,<- VT]; exact hi1) (by omega)] at hg;have:=cx hg;simp only[nN,bj,Array.mem_toList_iff] at akb;exact akb v (by simpa using this)
     generalize hcs':cur.toList.take (lo*bD k)++(Builtin.zeroCells z.cells (hi-lo)).toList++cur.toList.drop (lo*bD k+(Builtin.zeroCells z.cells (hi-lo)).toList.length)=cs';obtain⟨s1,s2,s3⟩:=H6 (cur:=cur.toList) (off:=lo*bD k) (vs:=(Builtin.zeroCells z.cells (hi-lo)).toList) (by rw[VT]; simpa using ad3);rw[hcs'] at s1 s2 s3;have hst:=run_storeCells_at P g (lo*bD k) ob.ty (Builtin.zeroCells z.cells (hi-lo)).toList 0 cur E.w hh (by rw[VT]; simpa using ad3) hone;simp only[fo,hcs'] at hst;refine fin (E.w.setRow g cs'.toArray) (by simp) rfl rfl rfl (ba _) (fun q hq=>setRow_other E.w g q cs'.toArray (fun e=>hq (by rw[hφ,e]; rfl))) (fun E' hK hw=>.inr ⟨g,c',cs'.toArray,by rw[hφ]; simp; omega,by simp; omega,hcm,by rw[hw]; exact setRow_heap _ _ _ _ _ _ hh,by simp only[gh,s1,bu]; rw[hk1]; exact hcs,?_⟩) (ad2 ?_)
     ·rw[hk1];refine eX (E:=E) _ _ M hK al1 _ ?_;have hlo:(ob.l.take lo).length=lo:=by simp; omega
      rw[wz,wz];refine⟨⟨?_,?_⟩,?_⟩
      ·exact kL (yL hr lo) fun q hq=>by rw[hlo] at hq; exact s3 q (.inl hq)
      ·rw[hlo];refine qZ ajq (by simpa using hzs) _ _ fun q hq=>?_
       have hq':q<(Builtin.zeroCells z.cells (hi-lo)).toList.length:=by rw[VT]; exact hq
       rw[<- cN (l:=cs'.drop (lo*bD k)) hq',s2,GR z.cells _ q (by rw[ahe]; exact hq) (by omega),ahe]
      ·have e3:(ob.l.take lo++List.replicate (hi-lo) (Ed z)).length=hi:=by simp; omega
       rw[e3];refine kL (DJ hr hi hle) fun q hq=>?_
       rw[cT,cT];refine s3 _ (.inr ?_);rw[VT,<- de,show lo+(hi-lo)=hi by omega]; omega
     ·rw[ha,hu'];obtain⟨d,hd⟩: ∃ d,hi-lo=d+1:=⟨hi-lo-1,by omega⟩
      rw[hd] at hst ⊢;simp only[Builtin.clear_,h0,List.getElem?_toArray,List.getElem?_cons_zero,Sem.run_bind,run_underlying hu,Result.andThen_ok,hzero,hst,Sem.run_pure]
  ·exact h.elim
 ·exact h.elim
end ops
section ops
variable {P:Program} {F:Fr P} {M:Nat->Prop} {E:Env} {s:AS} {a:Act}
section run
variable {t t' ty e e':TypeId} {i:TypeInfo} (ht:P.underlying t=some (.slice e)) (ht':P.underlying t'=some (.slice e')) (hi:P.info? e=some i)
 {base:Option Addr} {sLen sCap m:Nat} {ad:Option Addr} {c:Nat} {w:World} {news:List Value}
include ht ht' hi
theorem DN(hn:(Builtin.firstCells i.size m (.slice ad m c)).run P w= .ok news.toArray w)(h0:news=[])(hroom:sLen+m<=sCap)(hm:m=0) :
  (Builtin.append_ #[t,t'] ty #[.slice base sLen sCap,.slice ad m c]).run P w= .ok (.slice base sLen sCap) w:=by
 subst h0 hm;simp at hroom;cases base<;>simp[Builtin.append_,run_underlying ht,run_underlying ht',sizeOf,typeInfo,hi,Builtin.lenOf,hroom,hn,storeCells]
theorem TQ{g:Nat}{cur:Array Value}(hg:w.heap[g]? =some (.cells cur e (0,0)))(hn:(Builtin.firstCells i.size m (.slice ad m c)).run P w= .ok news.toArray w)
  (h1: ∀ u∈news,u.oneCell'=true) (hroom:sLen+m<=sCap) (hfit:sLen*i.size+news.length<=cur.size) :
  (Builtin.append_ #[t,t'] ty #[.slice (some ⟨g,0,none⟩) sLen sCap,.slice ad m c]).run P w =
   .ok (.slice (some ⟨g,0,none⟩) (sLen+m) sCap) (w.setRow g (cur.toList.take (sLen*i.size)++news++cur.toList.drop (sLen*i.size+news.length)).toArray):=by
 have hst:=run_storeCells_at P g (sLen*i.size) e news 0 cur w hg (by simpa using hfit) h1;simp only[fo] at hst;simp[Builtin.append_,run_underlying ht,run_underlying ht',sizeOf,typeInfo,hi,Builtin.lenOf,hroom,hn,Addr.add_lit,hst]
theorem TR{z:Value}(hz:i.zero=some z){olds:List Value}(ho:(Builtin.firstCells i.size sLen (.slice base sLen sCap)).run P w.drew= .ok olds.toArray w.drew)
  (hn:(Builtin.firstCells i.size m (.slice ad m c)).run P w.drew= .ok news.toArray w.drew)
  (hg:sCap<sLen+m) (h63:((sLen+m:Nat):Int)<=9223372036854775807) (hfit:Builtin.nextslicecap (sLen+m) sCap*i.bytes<=281474976710656) :
  (Builtin.append_ #[t,t'] ty #[.slice base sLen sCap,.slice ad m c]).run P w =
   .ok (.slice (some ⟨w.heap.size,0,none⟩) (sLen+m) (grownCap w (sLen+m) sCap e))
    (w.drew.alloc (.cells (olds.toArray++news.toArray++Builtin.zeroCells z.cells (grownCap w (sLen+m) sCap e-(sLen+m))) e)):=by
 have hnn: ¬ (sLen+m<=sCap):=by omega
 have h63': ¬ (9223372036854775807<((sLen:Int)+(m:Int))):=by omega
 have h48': ¬ (281474976710656<Builtin.nextslicecap (sLen+m) sCap*i.bytes):=by omega
 simp[Builtin.append_,run_underlying ht,run_underlying ht',sizeOf,typeInfo,zeroValue,hi,hz,Builtin.lenOf,hnn,h63',h48',Question.forced,hn,ho,newRow,grownCap];simp[<- List.append_toArray,Array.append_assoc]
end run
def RowOf(P:Program)(E:Env)(k:Nat)(l:List T)(v:Value)(news:List Value):Prop :=
 news.length=l.length*bD k/\aJ E k l news/\(∀ u∈news,u.oneCell'=true) /\
 ∀ w:World,w.heap=E.w.heap->(Builtin.firstCells (bD k) l.length v).run P w= .ok news.toArray w
theorem VU{k:Nat}{l:List T}{b off:Nat}{cur:Array Value}{e:TypeId}{m:Nat×Nat}(hh:E.w.heap[b]? =some (.cells cur e m))(hr:aJ E k l (cur.toList.drop off))(n c:Nat) :
  RowOf P E k l (.slice (some ⟨b,off,none⟩) n c) ((cur.toList.drop off).take (l.length*bD k)):=by
 have hl:=zK hr;refine⟨by simp only[bR]; omega,kL hr fun i hi=>by rw[cN hi],VH hr,fun w hw=>?_⟩;refine run_firstCells_some w (bD k) l.length ⟨b,off,none⟩ n c _ (by simp only[bR]; omega) fun j v hv=>?_
 rw[addr_add,Nv (by rw[hw]; exact hh)];by_cases hj:j<l.length*bD k
 ·rw[cN hj,cT] at hv; simpa using hv
 ·rw[eO (by omega)] at hv; cases hv
theorem RP{k:Nat}{ad:Option Addr}{n c:Nat}:RowOf P E k [] (.slice ad n c) []:=by
 refine⟨by simp,by simp[aJ],by simp,fun w _=>?_⟩;cases ad<;>simp[Builtin.firstCells,loadCells,loadCellsFrom]
theorem OJ{k:Nat}{f:Bool}{l:List T}{v:Value}(h:lZ E (.sl k f l) v){k':Nat}(hk:k=k'\/l=[]): ∃ ad c news,v= .slice ad l.length c/\l.length<=c/\(f=true->c=l.length)/\RowOf P E k' l v news/\T.aO (fun _=>False) l:=by
 rw[aB rfl] at h;simp only[aN] at h;obtain⟨ad,c,hv,h1,h2,h3⟩:=h;have hv':v= .slice ad l.length c:=by simpa using hv
 by_cases hl:l=[]
 ·subst hl hv';exact⟨ad,c,[],rfl,h1,h2,RP,by simp[T.aO]⟩
 ·obtain⟨b,off,cur,e,m,rfl,_,hh,hid,hr⟩:=h3.resolve_left hl;have:=hk.resolve_right hl;subst this hv';exact⟨_,c,_,rfl,h1,h2,VU hh hr _ _,hid⟩
theorem RQ(hk:qY F E){i:Nat}{ob:Ob}(hob:E.h i=some ob)(hnm:ob.k≠gK){v:Value}(h:lZ E (.own i) v): ∃ ad c news,v= .slice ad ob.l.length c/\ob.l.length<=c/\v=E.φ i/\RowOf P E ob.k ob.l v news:=by
 rw[aB rfl] at h;simp only[aN] at h;obtain⟨u,hu,hl⟩:=h;have hv:v=E.φ i:=by rw[<- hl (by rw[hob]; rfl)]; simpa using hu
 rcases(hk.obs i ob hob).1.row hnm with ⟨ad,h1,h2⟩|⟨g,c,cur,h1,h2,_,hh,hcs,hr⟩
 ·refine⟨ad,0,[],by rw[hv,h1,h2]; rfl,by rw[h2]; simp,hv,?_⟩;rw[hv,h1,h2]; exact RP
 ·refine⟨_,c+1,(cur.toList.drop 0).take (ob.l.length*bD ob.k),by rw[hv,h1],h2,hv,?_⟩;rw[hv,h1];exact VU hh (by simpa using hr) _ _
theorem ahf(R:Rel F M E s a){k:Nat}(hnm:k≠gK){y:Operand}{y':X}(hy:aY y=some y'){m:List T}(h:TI s.hp k (s.ev y')= .list m) :
  ∃ ad c news,a.eval y= .slice ad m.length c/\RowOf P E k m (a.eval y) news/\T.aO M m:=by
 have ry:=bY R hy;have iy:=mX R hy;unfold TI at h;split at h
 ·rename_i k' f l e1;rw[e1] at ry;split at h
  ·cases h;obtain⟨ad,c,news,h1,_,_,h4,_⟩:=OJ (P:=P) ry (k':=k) (.inr rfl);exact⟨ad,c,news,h1,h4,by simp[T.aO]⟩
  ·rename_i x r;cases hk:(k'==k) with
   |false=>rw[hk] at h; cases h
   |true =>
    rw[hk] at h; cases h;obtain⟨ad,c,news,h1,_,_,h4,h5⟩:=OJ (P:=P) ry (k':=k) (.inl (by simpa using hk));exact⟨ad,c,news,h1,h4,T.aA (fun _ hf=>hf.elim) _ h5⟩
 ·rename_i o e1;rw[e1] at ry;split at h
  ·rename_i ob hob;cases hk:(ob.k==k) with
   |false=>rw[hk] at h; cases h
   |true =>
    rw[hk] at h; cases h;simp only[bt] at hk;subst hk;have fF:E.h o=some ob:=by rw[R.he]; exact hob
    obtain⟨ad,c,news,h1,_,_,h4⟩:=RQ (P:=P) R.hk fF hnm ry;exact⟨ad,c,news,h1,h4,(R.mh o ob hob).2⟩
  ·cases h
 ·cases h
theorem EP.quiet(R:Rel F M E s a){n:Nat}{t:T}{v:Value}(ht:t.ids M)(hv:lZ E t v){K:AS->Prop}{d:Option Nat}(h:K (s.put d t)):EP F M n E K (a.put d v) E.w :=
 ⟨E,_,rfl,h,(R.put ht hv d).weaken (fun _ h=>.inl h),Ext.refl _ _,Same.refl _ _⟩
theorem NC(R:Rel F M E s a){n:Nat}(hn: ¬ M n){ob:Ob}{h0:Hp}(h0': ∀ j oj,h0 j=some oj->E.h j=some oj){w':World}{v:Value}
  (hsize:E.w.heap.size<=w'.heap.size) (hos:w'.os=E.w.os) (htape:w'.tape=E.w.tape) (hout:w'.output=E.w.output) (hdr:E.w.drawn<=w'.drawn)
  (hsame: ∀ g,g<E.w.heap.size->rowB v≠some g->w'.heap[g]? =E.w.heap[g]?)
  (hnew: ∀ g,rowB v=some g->E.w.heap.size<=g\/ ∃ i oi,E.h i=some oi/\h0 i=none/\rowB (E.φ i)=some g)
  (hob: ∀ E',Keeps E E' M->E'.w=w'->uN E' ob v) (hsz:0<bD ob.k) (hid:T.aO M ob.l) {K:AS->Prop} {d:Option Nat}
  (h:K {(s.put d (.own n)) with hp:=upd h0 n (some ob)}):EP F M n E K (a.put d v) w':=by
 have hhm:pq M E.h:=by rw[R.he]; exact R.mh
 have hS:=Ce (E:=E) (M:=M) (w':=w') (v:=v) (ob:=ob) (h0:=h0) hn h0';have hrow: ∀ g,E.S g->rowB v≠some g:=by
  intro g hg hv;rcases hnew g hv with hge|⟨i,oi,h1,_,h3⟩
  ·have:=R.hk.slt g hg; omega
  ·exact(R.hk.out i oi g h1 h3).1 hg
 have hK:Keeps E (E.obj w' n v ob h0) M:=⟨fun _ h=>h,fun g hg=>hsame g (R.hk.slt g hg) (hrow g hg),hS,rfl⟩
 have hok:=OE (F:=F) R.hk hhm hn h0' hsize hos htape hout hdr hsame hnew (hob _ hK rfl) hsz;refine⟨E.obj w' n v ob h0,_,rfl,h,?_,hok.2,hS⟩
 refine R.next (M':=fun i=>M i\/i=n) (fun _ h=>.inl h) hok.1 hok.2 hS (t:=.own n) (v:=v) (d:=d) (.inr rfl) ?_
  (OG (fun j oj hj=>hhm j oj (h0' j oj hj)) (T.aA (fun _ h=>.inl h) _ hid))
 rw[aB rfl]; simp only[aN];exact⟨_,rfl,fun _=>by simp[Env.obj]⟩
theorem akc(R:Rel F M E s a){n:Nat}(hn: ¬ M n){t t' e e' k:Nat}{i:TypeInfo}{z:Value}{x y:Operand}{x' y':X}(hx:aY x=some x')(hy:aY y=some y')
  (ht:P.underlying t=some (.slice e)) (ht':P.underlying t'=some (.slice e')) (hkd:kindOf P e=some k) (hi:P.info? e=some i) (hz:i.zero=some z) (hzs:z.cells.size=bD k) (hsz:0<bD k)
  {o:Oper} (ho:o.op= .call {callee:=.builtin .append,args:= #[x,y],argTypes:= #[t,t']})
  {dr:Bool} {K:AS->Prop} {Q:Exit->Act->World->Prop} (h:nS P dr n o.dst (.app e k i.bytes x' y') K s):o.wp P a E.w (EP F M n E K) Q:=by
 have rx:=bY R hx;have ix:=mX R hx;have hsize:i.size=bD k:=by
  obtain⟨i',d,g1,_,g3,_⟩:=yY hkd;rw[hi] at g1; cases g1; exact g3
 have hnm:=EO hkd;have hrun: ∀ {v w'},(Builtin.append_ #[t,t'] o.type #[a.eval x,a.eval y]).run P E.w= .ok v w'->(execOp a.eval o).run P E.w= .ok (.value v) w':=by
  intro v w' h;simp only[execOp,ho,resolve,invoke,builtin,Sem.run_bind,Sem.run_pure,Result.andThen_ok,List.map_toArray,bl,List.map_nil,h]
 simp only[nS] at h;split at h
 ·rename_i m hm;obtain⟨ad,c,news,hya,⟨hnl,hnr,hn1,hnf⟩,hmid⟩:=ahf (P:=P) R hnm hy hm
  have grow: ∀ (l:List T) (ZR:Option Addr) (cap:Nat) (olds:List Value) (h0:Hp),a.eval x= .slice ZR l.length cap->RowOf P E k l (a.eval x) olds->T.aO M l->cap<l.length+m.length ->
    (l.length+m.length)*i.bytes<=140737488355328->l.length+m.length<=1152921504606846976->(∀ j oj,h0 j=some oj->E.h j=some oj) ->
    K {(s.put o.dst (.own n)) with hp:=upd h0 n (some ⟨e,k,l++m⟩)}->o.wp P a E.w (EP F M n E K) Q:=by
   intro l ZR cap olds h0 hxa ⟨hol,hor,ho1,hof⟩ ahg hg hb1 hb2 h0' h;have h1:=hof E.w.drew rfl;have h2:=hnf E.w.drew rfl;rw[hxa,<- hsize] at h1;rw[hya,<- hsize] at h2;have hr:=TR (ty:=o.type) ht ht' hi hz h1 h2 hg (by omega) (growslice_fits hg hb1);rw[<- hxa,<- hya] at hr;unfold Oper.wp;rw[hrun hr];generalize hgc:grownCap E.w (l.length+m.length) cap e=gc at hr ⊢;have hge:l.length+m.length<=gc:=by rw[<- hgc]; exact grownCap_ge _ _ _ _
   have hgm:gc<=maxLen:=by rw[<- hgc]; exact grownCap_le_maxLen _ _ _ _ (by simp only[maxLen]; omega)
   have hcells:(olds.toArray++news.toArray++Builtin.zeroCells z.cells (gc-(l.length+m.length))).toList=olds++news++(Builtin.zeroCells z.cells (gc-(l.length+m.length))).toList:=by simp
   have hrows:aJ E k (l++m) (olds++news++(Builtin.zeroCells z.cells (gc-(l.length+m.length))).toList):=by
    rw[wz];refine⟨kL hor fun q hq=>by rw[bO,co (by omega)],?_⟩;rw[bO,gD (by omega),gP (by omega),fX];exact kL hnr fun q hq=>by rw[co (by omega)]
   obtain⟨gc',rfl⟩: ∃ q,gc=q+1:=⟨gc-1,by omega⟩
   refine NC R hn (ob:=⟨e,k,l++m⟩) h0' (w':=E.w.drew.alloc _) (zO E.w.drew _) rfl rfl rfl (Nat.le_succ _) (fun g hg _=>iU E.w.drew _ hg) (fun g hg=>.inl ?_) ?_ hsz (gB.2 ⟨ahg,hmid⟩) h
   ·simp[rowB] at hg; rw[<- hg]; exact ba _
   ·intro E' hK hw';refine .inl ⟨hnm,.inr ⟨E.w.heap.size,gc',_,by simp,by simpa using hge,hgm,by rw[hw']; exact xg E.w.drew _,?_,?_⟩⟩
    ·simp only[Array.size_append,gh,size_zeroCells,hzs,hol,hnl,<- de]
     congr 1
     omega
    ·rw[hcells]; exact eX _ _ M hK (gB.2 ⟨ahg,hmid⟩) _ hrows
  split at h
  ·
   rename_i k' l e1;obtain⟨hkk,hne,hb1,hb2,h⟩:=h;rw[e1] at rx;obtain⟨ZR,cap,olds,hxa,hlc,hfull,hrow,ahg⟩:=OJ (P:=P) rx (k':=k) hkk;have hcap:=hfull rfl;have h0': ∀ j oj,s.hp j=some oj->E.h j=some oj:=fun j oj hj=>by rw[R.he]; exact hj
   by_cases hg:cap<l.length+m.length
   ·exact grow l ZR cap olds s.hp hxa hrow (T.aA (fun _ hf=>hf.elim) _ ahg) hg hb1 hb2 h0' h
   ·have hm0:m=[]:=ai (by omega);have hn0:news=[]:=ai (by subst hm0; simpa using hnl);have h2:=hnf E.w rfl;rw[hya,<- hsize] at h2;rcases hne with hne|⟨_,hsame⟩
    rotate_left
    ·subst hm0;have hrn:=DN (ty:=o.type) (base:=ZR) (sLen:=l.length) (sCap:=cap) ht ht' hi h2 hn0 (by simp; omega) rfl;rw[<- hxa] at hrn;simp only[cC] at hrn hya;rw[<- hya] at hrn;unfold Oper.wp;rw[hrun hrn];exact EP.quiet R (by rw[<- e1]; exact ix) (by rw[<- e1]; rw[e1]; exact rx) hsame
    have hl0:l=[]:=hne.resolve_right (by simp[hm0]);subst hm0 hl0;have hr:=DN (ty:=o.type) (base:=ZR) (sLen:=0) (sCap:=cap) ht ht' hi h2 hn0 (by simp) rfl;simp only[cC] at hxa hya hcap;subst hcap;rw[<- hxa] at hr;simp only[cC] at hr;rw[<- hya] at hr;unfold Oper.wp;rw[hrun hr];show EP F M n E K (a.put o.dst (a.eval x)) E.w;refine NC R hn (ob:=⟨e,k,[]⟩) h0' (ba _) rfl rfl rfl (ba _) (fun _ _ _=>rfl) (fun g hg=>?_) (fun E' _ _=>.inl ⟨hnm,.inl ⟨ZR,hxa,rfl⟩⟩) hsz (by simp[T.aO]) h;rw[hxa] at hg; cases ZR<;>simp[rowB] at hg
  ·
   rename_i j e1;split at h
   ·rename_i ob hob;simp only[aD,bt] at h;obtain⟨⟨hk1,hty⟩,hb1,hb2,h⟩:=h;rw[e1] at rx;have fF:E.h j=some ob:=by rw[R.he]; exact hob
    obtain⟨ZR,cap,olds,hxa,hlc,hφ,hrow⟩:=RQ (P:=P) R.hk fF (by rw[hk1]; exact hnm) rx;rw[hk1] at hrow;have ZT:=(R.mh j ob hob).2;have h0': ∀ q oq,(upd s.hp j none) q=some oq->E.h q=some oq:=fun q oq hq=>by
     by_cases hqj:q=j
     ·simp[upd,hqj] at hq
     ·rw[R.he]; simpa [upd,hqj] using hq
    by_cases hg:cap<ob.l.length+m.length
    ·exact grow ob.l ZR cap olds _ hxa hrow ZT hg hb1 hb2 h0' h
    ·rcases(R.hk.obs j ob fF).1.row (by rw[hk1]; exact hnm) with ⟨ad',h1,h2⟩|⟨g,c',cur,h1,h2,h3,hh,hcs,hr⟩
     ·
      have hcap:cap=0:=by rw[hφ,h1] at hxa; simp at hxa; omega
      have hm0:m=[]:=ai (by omega);subst hm0 hcap;have hn0:news=[]:=ai (by simpa using hnl);have hf:=hnf E.w rfl;rw[hya,<- hsize] at hf;have hrn:=DN (ty:=o.type) (base:=ZR) (sLen:=ob.l.length) (sCap:=0) ht ht' hi hf hn0 (by rw[h2]; simp) rfl;rw[<- hxa,<- hya] at hrn;unfold Oper.wp;rw[hrun hrn];refine NC R hn (ob:=⟨e,k,ob.l++[]⟩) h0' (ba _) rfl rfl rfl (ba _) (fun _ _ _=>rfl) (fun g hg=>?_) (fun E' _ _=>.inl ⟨hnm,.inl ⟨ZR,by rw[hxa,h2]; rfl,by simp[h2]⟩⟩) hsz (by simpa using ZT) h;rw[hxa] at hg; cases ZR<;>simp[rowB] at hg
     ·
      have hbc:ZR=some ⟨g,0,none⟩/\cap=c'+1:=by rw[hφ,h1] at hxa; simp at hxa; exact⟨hxa.1.symm,hxa.2.symm⟩
      obtain⟨rfl,rfl⟩:=hbc;have hf:=hnf E.w rfl;rw[hya,<- hsize] at hf;rw[hk1] at hcs hr;rw[hty] at hh;have hfit:ob.l.length*i.size+news.length<=cur.size:=by
       rw[hsize,hnl,hcs,<- de]; exact cr _ (by omega)
      have hrn:=TQ (ty:=o.type) (sLen:=ob.l.length) (sCap:=c'+1) ht ht' hi hh hf hn1 (by omega) hfit;rw[<- hxa,<- hya] at hrn;rw[hsize] at hrn hfit;unfold Oper.wp;rw[hrun hrn];generalize hcs':cur.toList.take (ob.l.length*bD k)++news++cur.toList.drop (ob.l.length*bD k+news.length)=cs' at hrn ⊢;obtain⟨s1,s2,s3⟩:=H6 (cur:=cur.toList) (off:=ob.l.length*bD k) (vs:=news) (by simpa using hfit);rw[hcs'] at s1 s2 s3;have hrb:rowB (E.φ j)=some g:=by rw[h1]; rfl
      refine NC R hn (ob:=⟨e,k,ob.l++m⟩) h0' (w':=E.w.setRow g cs'.toArray) (v:=.slice (some ⟨g,0,none⟩) (ob.l.length+m.length) (c'+1)) (by simp) rfl rfl rfl (ba _) (fun q _ hq=>setRow_other E.w g q cs'.toArray (fun e=>hq (by rw[e]; rfl))) (fun q hq=>.inr ⟨j,ob,fF,by simp[upd],?_⟩) ?_ hsz
       (gB.2 ⟨ZT,hmid⟩) h
      ·simp[rowB] at hq; rw[hrb,hq]
      ·intro E' hK hw';refine .inl ⟨hnm,.inr ⟨g,c',cs'.toArray,by simp,by simp; omega,h3,by rw[hw']; exact setRow_heap _ _ _ _ _ _ hh,by simp only[gh,s1,bu]; exact hcs,?_⟩⟩;refine eX _ _ M hK (gB.2 ⟨ZT,hmid⟩) _ ?_;rw[wz];refine⟨kL hr fun q hq=>s3 q (.inl hq),?_⟩;refine kL hnr fun q hq=>?_
       have:(cs'.drop (ob.l.length*bD k)).take news.length=news:=s2
       have hq':q<m.length*bD k:=hq;rw[<- cN (l:=cs'.drop (ob.l.length*bD k)) (show q<news.length by omega),this]
   ·exact h.elim
  ·exact h.elim
 ·exact h.elim
end ops
section ops
variable {P:Program} {nd:Bool} {F:Fr P} {M:Nat->Prop} {E:Env} {s:AS} {a:Act}
theorem dH(R:Rel F M E s a){n:Nat}{o:Oper}{t:T}(ht:t.ids M)(hq:uO P E a o t){K:AS->Prop}{Q:Exit->Act->World->Prop}(h:K (s.put o.dst t)) :
  o.wp P a E.w (EP F M n E K) Q:=by
 obtain⟨v,hrun,hv⟩:=hq;unfold Oper.wp;rw[hrun];exact EP.quiet R ht hv h
theorem OL(R:Rel F M E s a){n:Nat}(hn: ¬ M n){f:FuncId}{ts:List T}{vs:List Value}(hts:bg E ts vs)(hid:T.aO M ts){o:Oper}{dr:Bool}{K:AS->Prop}{Q:Exit->Act->World->Prop}
  (hrun:callable P f->(execOp a.eval o).run P E.w= .ok (.enter f vs.toArray) E.w) (h:qM P dr n o.dst f ts K s):o.wp P a E.w (EP F M n E K) Q:=by
 obtain⟨_,hc,hcall⟩:=h;unfold Oper.wp;rw[hrun hc];refine(hcall F M E vs R.hk R.he hts hid R.mh hn).mono ?_;rintro e w' ⟨v,t,E',rfl,rfl,⟨_,hK⟩,hv,hok,hext,hS,ht,hm⟩;exact⟨E',_,rfl,hK,R.next (M':=fun i=>M i\/i=n) (fun _ h=>.inl h) hok hext hS ht hv hm o.dst,hext,hS⟩
theorem ahh(v:Value):(T.lit v).ids M:=by simp[T.ids]
theorem abD{c x y:T}(hx:x.ids M)(hy:y.ids M):(EN c x y).ids M:=by
 unfold EN;split
 ·rename_i b;split
  ·exact ahh _
  ·cases b<;>simpa
 ·simp[T.ids]
theorem GU(R:Rel F M E s a): ∀ {ps:List (Nat×Operand)} {ps':List (Nat×X)},nY ps=some ps'->T.aO M (ps'.map fun p=>s.ev p.2):=by
 intro ps;induction ps with
 |nil=>intro ps' h; cases h; simp[T.aO]
 |cons p ps ih =>
  intro ps' h;obtain⟨i,x⟩:=p;simp only[nY] at h;split at h
  ·rename_i x' r' h1 h2;cases h;simp only[bl,T.aO]; exact⟨mX R h1,ih h2⟩
  ·cases h
theorem akd(R:Rel F M E s a){k:Nat}{x:Operand}{x':X}(hx:aY x=some x'):(qt s (.ld k x')).ids M:=by
 have rx:=bY R hx;simp only[qt];split
 ·rename_i k' t e1;rw[e1,aB rfl] at rx;simp only[aN] at rx;obtain⟨b,off,cur,e,m,_,_,_,_,hid,_⟩:=rx;exact T.aW (fun _ hf=>hf.elim) _ hid
 ·rename_i i j off e1;split
  ·rename_i ob hob;have:=(R.mh i ob hob).2;have hg:=yU (i:=j) (d:=.any) this (by simp[T.ids]);cases (off==0&&ob.k==k)
   ·exact Oq hg _ _
   ·exact hg
  ·simp[T.ids]
 ·simp[T.ids]
theorem ahi{nd:Bool}{op:o8}{dr:Bool}{n:Nat}{d:Option Nat}{K:AS->Prop}(h:nS P dr n d (Oz nd op) K s):nS P dr n d op K s:=by
 unfold Oz at h;split at h
 ·rename_i ty k b y;cases nd with
  |true=>exact h
  |false =>
   simp only[ap,nS] at h;split at h
   ·rename_i k' f m e1;obtain⟨⟨h1,_⟩,⟨h2,h3⟩,h4⟩:=h;simp only[nS,e1];have e:TI s.hp k (.sl k' f m)= .list m:=by
     cases m with
     |nil=>rfl
     |cons x r =>
      have hk:k'=k:=h1.resolve_right (by simp);simp[TI,hk]
    rw[e];simp only[AS.ev];exact⟨.inr trivial,.inl (.inl trivial),by simpa using h2,by simpa using h3,by simpa using h4⟩
   ·exact h.elim
 ·exact h
theorem Yr{nd:Bool}{op:o8}{f:FuncId}{xs:List X}(h:Oz nd op= .call f xs):op= .call f xs:=by
 unfold Oz at h;split at h
 ·cases nd<;>cases h
 ·exact h
theorem VW{nd:Bool}{op:o8}{x:X}{xs:List X}(h:Oz nd op= .oP x xs):op= .oP x xs:=by
 unfold Oz at h;split at h
 ·cases nd<;>cases h
 ·exact h
theorem ad4(R:Rel F M E s a){n:Nat}(hn: ¬ M n){o:Oper}{op:o8}(hc:wB P nd o.op=some op)(hd:((∃ k x v,op= .st k x v)\/ ∃ b x i v,op= .Vb b x i v)->o.dst=none){dr:Bool}{K:AS->Prop}{Q:Exit->Act->World->Prop}
  (h:nS P dr n o.dst op K s):o.wp P a E.w (EP F M n E K) Q:=by
 cases hop:o.op<;>rw[hop] at hc<;>simp only[wB] at hc<;>try (cases hc; done)
 case move x =>
  simp only[be] at hc; obtain⟨x',hx,rfl⟩:=hc;exact dH R (mX R hx) (alM R hx (.inl hop)) h.2
 case assign x =>
  simp only[be] at hc; obtain⟨x',hx,rfl⟩:=hc;exact dH R (mX R hx) (alM R hx (.inr hop)) h.2
 case pick c x y =>
  split at hc
  ·rename_i c' x' y' h1 h2 h3;cases hc;exact dH R (abD (mX R h2) (mX R h3)) (ajY R h1 h2 h3 hop h.1) h.2
  ·cases hc
 case alloc ty =>
  split at hc
  ·rename_i k z h1 h2;split at hc
   ·rename_i h3;cases hc;exact alU R hn h2 h3 hop h
   ·cases hc
  ·cases hc
 case box ty x =>
  split at hc
  ·rename_i x' k h1 h2;cases hc;exact aj3 R hn h1 hop h
  ·cases hc
 case build ty ps =>
  split at hc
  ·rename_i fs cs ps' h1 h2 h3;split at hc
   ·rename_i h4;cases hc;refine dH R ?_ (anv R hop h1 h2 h3 h4.1 h4.2 h.1) h.2;obtain⟨places,hp⟩:=am.1 h4.2;have hq:=h.1;simp only[qc,aD] at hq;obtain⟨_,Aj⟩:=AO R h1 hp h3 hq.2;simp only[qt,T.ids];refine RJ (cu.2 fun t ht=>?_) (by simpa [Function.comp_def] using Aj);obtain⟨u,_,rfl⟩:=ax.1 ht;exact T.aW (fun _ hf=>hf.elim) _ (Jk u)
   ·cases hc
  ·rename_i h1 h2;split at hc
   ·rename_i ps' h3 h5;split at hc
    ·rename_i h4;cases hc;refine dH R ?_ (alV R hop h1 h2 h5 h3 h4 h.1) h.2;simp only[qt,T.ids];refine RJ (cu.2 fun t ht=>?_) (by simpa [Function.comp_def] using GU R h3);obtain⟨u,_,rfl⟩:=ax.1 ht;exact T.aW (fun _ hf=>hf.elim) _ (Jk u)
    ·cases hc
   ·cases hc
  ·cases hc
 case buildSlice ty len ps =>
  split at hc
  ·rename_i e ps' h1 h2;split at hc
   ·rename_i k z h3 h4;split at hc
    ·rename_i h5;split at hc
     ·cases hc;exact aj8 R hn h1 h2 (GU R h2) h3 h4 h5.1 hop h
     ·cases hc;exact alW R h1 h2 h3 h4 h5.1 hop h.1 h.2
    ·cases hc
   ·cases hc
  ·cases hc
 case load ty x =>
  split at hc
  ·rename_i x' k h1 h2;cases hc;exact dH R (akd R h1) (q_ld R h1 hop h2 h.1) h.2
  ·cases hc
 case store ty x v =>
  split at hc
  ·rename_i x' v' k h1 h2 h3;cases hc;exact alX R h1 h2 h3 hop (hd (.inl ⟨_,_,_,rfl⟩)) h
  ·cases hc
 case nilCheck x =>
  simp only[be] at hc; obtain⟨x',hx,rfl⟩:=hc;exact dH R (mX R hx) (ano R hx hop h.1) h.2
 case binOp op t x y ty' =>
  split at hc
  ·rename_i x' y' h1 h2;have hlit:(qt s (.bin op x' y')).ids M:=by
    simp only[qt]; split
    ·split<;>simp[T.ids]
    ·simp[T.ids]
   have ajr: ∀ ne,(qt s (.bb ne x' y')).ids M:=by
    intro ne; simp only[qt]; split<;>simp[T.ids]
   split at hc
   ·cases hc; exact dH R hlit (ajo R h1 h2 hop h.1) h.2
   ·cases hc; exact dH R hlit (ajo R h1 h2 hop h.1) h.2
   ·rename_i h3;split at hc
    ·cases hc; exact dH R (ajr _) (alN R h1 h2 hop rfl h3 h.1) h.2
    ·cases hc; exact dH R (ajr _) (alN R h1 h2 hop rfl h3 h.1) h.2
    ·cases hc
   ·rename_i fs h3;have hlit2: ∀ ne n,(qt s (.eqs ne n x' y')).ids M:=by
     intro ne n; simp only[qt]; split<;>simp[T.ids]
    split at hc
    ·rename_i n h4; cases hc; exact dH R (hlit2 _ _) (ajp R h1 h2 hop rfl h3 h4 h.1) h.2
    ·rename_i n h4; cases hc; exact dH R (hlit2 _ _) (ajp R h1 h2 hop rfl h3 h4 h.1) h.2
    ·cases hc
   ·rename_i e h3;split at hc
    ·cases hc; exact ad1 R h1 h2 h3 hop h
    ·cases hc
   ·cases hc
  ·cases hc
 case makeMap t r =>
  cases r with
  |some r=>simp only at hc; cases hc
  |none =>
   simp only at hc;split at hc
   ·cases hc; exact aj6 R hn hop h
   ·cases hc
 case lookup t x i ok =>
  cases ok with
  |false=>simp only at hc; cases hc
  |true =>
   simp only at hc;split at hc
   ·rename_i x' i' kt et h1 h2 h3;have hmk: ∃ b z,P.underlying kt=some (Eo b)/\zeroOf P et=some z/\op= .mlk b (MQ z) x' i':=by
     split at hc
     ·rename_i z h4 h5 h6; cases hc; exact⟨false,z,h4,h5,rfl⟩
     ·rename_i z h4 h5 h6; cases hc; exact⟨true,z,h4,h5,rfl⟩
     ·cases hc
    clear hc;obtain⟨b,z,h4,h5,rfl⟩:=hmk
    ··refine dH R ?_ (alP R h1 h2 hop h3 h4 h5 h.1) h.2
      have hz:(MQ z).ids M:=T.aW (fun _ hf=>hf.elim) _ (Jk z);have hml: ∀ (n:Value) (l:List T),T.aO M l-> ∀ u,yG n l=some u->u.ids M:=by
       intro n l;induction l with
       |nil=>intro _ u hu; cases hu
       |cons t ts ih =>
        intro hl u hu;simp only[T.aO] at hl;unfold yG at hu;split at hu
        ·cases hu
        ·rename_i heq;cases heq;revert hu;cases (Gq n _)
         ·simp only[ap]; exact ih hl.2 u
         ·simp only[bE,bi]; rintro rfl; simp only[T.ids,T.aO] at hl; exact hl.1.2.1
        ·rename_i heq;cases heq;exact ih hl.2 u hu
      simp only[qt];split
      ·split
       ·rename_i ob hob;split
        ·rename_i u hu; simp only[T.ids,T.aO]; exact⟨hml _ _ (R.mh _ ob hob).2 u hu,trivial,trivial⟩
        ·simp only[T.ids,T.aO]; exact⟨hz,trivial,trivial⟩
       ·simp[T.ids]
      ·simp[T.ids]
   ·cases hc
 case mapUpdate t x i v =>
  split at hc
  ·rename_i x' i' v' kt et h1 h2 h3 h4;split at hc
   ·rename_i h5;cases hc;exact adY (b:=false) R h1 h2 h3 h4 h5 hop (hd (.inr ⟨_,_,_,_,rfl⟩)) h
   ·rename_i h5;cases hc;exact adY (b:=true) R h1 h2 h3 h4 h5 hop (hd (.inr ⟨_,_,_,_,rfl⟩)) h
   ·cases hc
  ·cases hc
 case unOp op t x =>
  cases op<;>try (cases hc; done)
  simp only[be] at hc; obtain⟨x',hx,rfl⟩:=hc;refine dH R ?_ (alO R hx hop h.1) h.2;simp only[qt]; split<;>simp[T.ids]
 case convert src dst x =>
  split at hc
  ·rename_i x' d k h1 h2 h3;cases hc;refine dH R ?_ (aj0 R h1 hop h2 h3 h.1) h.2;simp only[qt]; split<;>simp[T.ids]
  ·rename_i x' e h1 h2 h3;split at hc
   ·rename_i h4 h5;cases hc;refine dH R ?_ (alS R h1 hop h2 h3 h4 h.1) h.2;simp only[qt]; split
    ·split<;>simp[T.ids]
    ·simp[T.ids]
   ·cases hc
  ·cases hc
 case makeFunc fn first cap =>
  cases fn<;>simp only at hc<;>try (cases hc; done)
  split at hc
  ·rename_i h0;simp only[be] at hc; obtain⟨c',hx,rfl⟩:=hc;refine dH R ?_ (ant R hx hop h0 h.1) h.2;simp only[qt,T.ids]; exact(zM hx R).2
  ·split at hc
   ·rename_i x e1 e2;simp only[be] at hc; obtain⟨x',hx,rfl⟩:=hc;refine dH R ?_ (anu R hx hop e1 e2 h.1) h.2;have ix:=mX R hx;simp only[qt];split
    ·rename_i l e3; rw[e3] at ix; simpa [T.ids] using ix
    ·simp[T.ids]
   ·cases hc
 case makeSlice ty x y =>
  split at hc
  ·rename_i x' y' e h1 h2 h3;split at hc
   ·rename_i k i h4 h5;split at hc
    ·rename_i z h6;split at hc
     ·rename_i h7;cases hc;exact ahc R hn h1 h2 h3 h4 h5 h6 h7 hop h
     ·cases hc
    ·cases hc
   ·cases hc
  ·cases hc
 case slice ty x lo hi mx =>
  split at hc
  ·rename_i x' lo' hi' mx' h1 h2 h3 h4;split at hc
   ·rename_i e h5;simp only[be] at hc; obtain⟨k,hk,hc⟩:=hc;have hsl:(VF k (s.ev x') (lo'.map s.ev) (hi'.map s.ev) (mx'.map s.ev)).ids M:=by
     unfold VF; split<;>simp[T.ids]
    cases nd with
    |false =>
     simp only[ap] at hc; subst hc;exact dH R hsl (alQ R h1 h2 h3 h4 hop h5 hk h.1) h.2
    |true =>
     simp only[bE] at hc; subst hc;have hq:=h.1;have hK:=h.2;simp only[qc] at hq;simp only[qt] at hK;split at hq
     ·rename_i i ei;split at hq
      ·rename_i ob hob;obtain⟨g1,g2⟩:=aj2 R h1 h2 h3 h4 hop h5 hk ei hob hq;rw[ei] at hK;simp only[hob] at hK;exact dH R g2 g1 hK
      ·exact hq.elim
     ·rename_i hno;have hK':K (s.put o.dst (VF k (s.ev x') (lo'.map s.ev) (hi'.map s.ev) (mx'.map s.ev))):=by
       split at hK
       ·rename_i i ei; exact absurd ei (hno i)
       ·exact hK
      exact dH R hsl (alQ R h1 h2 h3 h4 hop h5 hk hq) hK'
   ·rename_i h5;split at hc
    ·cases hc
     have:mx=none:=by
      cases mx with
      |none=>rfl
      |some m=>simp[yH] at h4
     subst this;refine dH R ?_ (anx R h1 h2 h3 hop h5 h.1) h.2;simp only[qt]; split<;>simp[T.ids]
    ·cases hc
   ·rename_i n e h5;have no: ∀ {z:Option Operand},yH z=some none->z=none:=fun {z} hz=>by
     cases z with
     |none=>rfl
     |some m=>simp[yH] at hz
    split at hc
    ·rename_i h6;cases hc;have:=no h2; subst this;have:=no h3; subst this;have:=no h4; subst this;refine dH R ?_ (anw R h1 hop h5 h6 h.1) h.2;simp only[qt]; split<;>simp[T.ids]
    ·cases hc
   ·cases hc
  ·cases hc
 case fieldAddr ty x f =>
  split at hc
  ·rename_i x' off k h1 h2;cases hc;refine dH R ?_ (anj R h1 hop h2 h.1) h.2;have hx:=mX R h1;simp only[qt]; split
   ·rename_i e1; rw[e1] at hx; simpa [T.ids] using hx
   ·simp[T.ids]
   ·simp[T.ids]
  ·cases hc
 case field ty x f =>
  split at hc
  ·rename_i x' off k h1 h2;cases hc;exact dH R (Oq (mX R h1) _ _) (ank R h1 hop h2 h.1) h.2
  ·cases hc
 case indexAddr ty x i =>
  split at hc
  ·rename_i x' i' e h1 h2 h3;simp only[be] at hc; obtain⟨k,hk,rfl⟩:=hc;refine dH R ?_ (anl R h1 h2 hop h3 hk h.1) h.2;have hx:=mX R h1;simp only[qt]; split
   ·simp[T.ids]
   ·rename_i e1 _; rw[e1] at hx; simpa [T.ids] using hx
   ·rename_i e1 _; rw[e1] at hx; simpa [T.ids] using hx
   ·simp[T.ids]
  ·cases hc
 case makeInterface t x=>cases hc; exact h.elim
 case panic x=>cases hc; exact h.elim
 case index ty x i =>
  split at hc
  ·rename_i x' i' h1 h2 h3;cases hc;refine dH R ?_ (anm R h1 h2 hop h3 h.1) h.2;simp only[qt]; split<;>simp[T.ids]
  ·cases hc
 case extract x i =>
  simp only[be] at hc; obtain⟨x',hx,rfl⟩:=hc;refine dH R ?_ (anr R hx hop h.1) h.2;have hi:=mX R hx;simp only[qt]; split
  ·rename_i l e1; rw[e1] at hi; simp only[T.ids] at hi; exact yU hi (by simp[T.ids])
  ·simp[T.ids]
 case call c =>
  obtain⟨callee,args,argTypes⟩:=c;simp only at hc;split at hc
  ·rename_i xs hxs;obtain⟨hts,Aj⟩:=zM hxs R;split at hc
   ·rename_i f;cases hc;refine OL R hn hts Aj (fun hcl=>?_) h;have:=hcl (args.map a.eval) E.w;have e2:(args.toList.map a.eval).toArray=args.map a.eval:=by
     apply gk; simp
    rw[e2];simp only[execOp,hop,resolve,Act.eval,Deferred.ofValue,invoke,Sem.run_bind,Sem.run_pure,Result.andThen_ok,Array.empty_append,Array.append_empty];exact this
   ·rename_i x _;simp only[be] at hc; obtain⟨x',hx,rfl⟩:=hc;simp only[nS] at h;split at h
    ·rename_i f cap e1;have rx:=bY R hx;have ix:=mX R hx;rw[e1,aB rfl] at rx;rw[e1] at ix;simp only[aN] at rx;have h0:Nat.blt f 8192=true:=by
      cases hb:Nat.blt f 4096 with
      |true=>exact cF.mpr (Nat.lt_trans (cF.mp hb) (by decide))
      |false=>rw[hb] at h; exact h.1
     obtain⟨_,cs,hu,hr⟩:Nat.blt f 8192=true/\ ∃ cs:Array Value,[a.eval x]=[fnV f cs]/\aX E cap cs.toList:=by
      rcases rx with rx|⟨rx,_⟩
      ·exact rx
      ·rw[h0] at rx; cases rx
     have ha':a.eval x=fnV f cs:=by simpa using hu
     have hcv: ∀ {l:List T} {vs:List Value},aX E l vs->bg E l vs:=by
      intro l;induction l with
      |nil=>intro vs h; simp[aX] at h; subst h; simp[bg]
      |cons t ts ih =>
       intro vs h;simp only[aX] at h;obtain⟨hk,v,r,rfl,_,h1,h2⟩:=h;rw[bQ]; exact⟨v,r,rfl,.inr ⟨hk,h1⟩,ih h2⟩
     rcases KR f cs with ⟨hlt,hfv⟩|⟨hge,hfv⟩
     ·rw[cF.mpr hlt] at h;have ha:a.eval x= .func (.func f) #[] cs:=by rw[ha',hfv]
      refine OL R hn (Jg hts (hcv hr)) (gB.2 ⟨Aj,by simpa [T.ids] using ix⟩) (fun hcl=>?_) h;have:=hcl (args.map a.eval++cs) E.w;have e2:(args.toList.map a.eval++cs.toList).toArray=args.map a.eval++cs:=by
       apply gk; simp
      rw[e2];simp only[execOp,hop,resolve,ha,Deferred.ofValue,invoke,Sem.run_bind,Sem.run_pure,Result.andThen_ok,Array.empty_append,this]
     ·have hb:Nat.blt f 4096=false:=by
       cases hq:Nat.blt f 4096 with
       |false=>rfl
       |true=>exact absurd (cF.mp hq) hge
      rw[hb] at h;replace h:=h.2;have ha:a.eval x= .func (.func (f % 4096)) #[.agg cs] #[]:=by rw[ha',hfv]
      refine OL R hn (ts:=.agg cap::xs.map s.ev) (vs:=.agg cs::args.toList.map a.eval) (bQ.2 ⟨_,_,rfl,.inl ⟨by simp[T.kd],cs,rfl,by simpa [aN] using hr⟩,hts⟩) (by simp only[T.aO]; exact⟨by simpa [T.ids] using ix,Aj⟩) (fun hcl=>?_) h;have:=hcl (#[.agg cs]++args.map a.eval) E.w;have e2:(Value.agg cs::args.toList.map a.eval).toArray= #[.agg cs]++args.map a.eval:=by
       apply gk; simp
      rw[e2];simp only[execOp,hop,resolve,ha,Deferred.ofValue,invoke,Sem.run_bind,Sem.run_pure,Result.andThen_ok,Array.append_empty,this]
    ·exact h.elim
   ·rename_i b;simp only[be] at hc;obtain⟨op,hc,rfl⟩:=hc;replace h:=ahi h;unfold vG at hc;have hargs: ∀ {x':X},xs=[x']-> ∃ x,args= #[x]/\aY x=some x':=by
     intro x' hx;subst hx;cases args with
     |mk l =>
      simp only at hxs;cases l with
      |nil=>simp[tC] at hxs
      |cons y r =>
       simp only[tC] at hxs;split at hxs
       ·rename_i y' r' g1 g2;simp only[bi,eI] at hxs;obtain⟨rfl,rfl⟩:=hxs;cases r with
        |nil=>exact⟨y,rfl,g1⟩
        |cons q r=>simp only[tC] at g2; split at g2<;>simp at g2
       ·cases hxs
    have Yt: ∀ {x' y':X},xs=[x',y']-> ∃ x y,args= #[x,y]/\aY x=some x'/\aY y=some y':=by
     intro x' y' hx;subst hx;cases args with
     |mk l =>
      simp only at hxs;cases l with
      |nil=>simp[tC] at hxs
      |cons y r =>
       simp only[tC] at hxs;split at hxs
       ·rename_i z' r' g1 g2;simp only[bi,eI] at hxs;obtain⟨rfl,rfl⟩:=hxs;cases r with
        |nil=>simp[tC] at g2
        |cons q r =>
         simp only[tC] at g2;split at g2
         ·rename_i u' r'' g3 g4;simp only[bi,eI] at g2;obtain⟨rfl,rfl⟩:=g2;cases r with
          |nil=>exact⟨y,q,rfl,g1,g3⟩
          |cons p r=>simp only[tC] at g4; split at g4<;>simp at g4
         ·cases g2
       ·cases hxs
    split at hc
    ·rename_i t ts x' hat;obtain⟨x,rfl,hx⟩:=hargs rfl;have h0:argTypes[0]? =some t:=by
      cases argTypes with
      |mk l=>simp only at hat; subst hat; rfl
     have hlen: ∀ str,(qt s (.len str x')).ids M:=by
      intro str; simp only[qt]; split
      ·simp[T.ids]
      ·split<;>simp[T.ids]
      ·simp[T.ids]
      ·simp[T.ids]
      ·simp[T.ids]
     split at hc
     ·rename_i e h1;cases hc;exact dH R (hlen _) (q_len R hx hop h0 (by simp only[da,cW]; exact⟨e,h1⟩) h.1) h.2
     ·rename_i h1;cases hc;exact dH R (hlen _) (q_len R hx hop h0 (by simp only[cn]; exact h1) h.1) h.2
     ·cases hc
    ·rename_i t ts x' hat;obtain⟨x,rfl,hx⟩:=hargs rfl;have h0:argTypes[0]? =some t:=by
      cases argTypes with
      |mk l=>simp only at hat; subst hat; rfl
     split at hc
     ·rename_i e h1;cases hc;refine dH R ?_ (alR R hx hop h0 h1 h.1) h.2;simp only[qt]; split<;>simp[T.ids]
     ·cases hc
    ·rename_i t ts x' hat;obtain⟨x,rfl,hx⟩:=hargs rfl;have h0:argTypes[0]? =some t:=by
      cases argTypes with
      |mk l=>simp only at hat; subst hat; rfl
     split at hc
     ·rename_i e h1;split at hc
      ·rename_i k z h3 h4;split at hc
       ·rename_i h5;cases hc;exact aj9 R hx hop h0 h1 h3 h4 h5.1 h5.2 h
       ·cases hc
      ·cases hc
     ·cases hc
    ·rename_i x' y';obtain⟨x,y,rfl,hx,hy⟩:=Yt rfl;cases hc;refine dH R ?_ (anp R hx hy hop h.1) h.2;simp only[qt]; split<;>simp[T.ids]
    ·rename_i x' y';obtain⟨x,y,rfl,hx,hy⟩:=Yt rfl;cases hc;refine dH R ?_ (anq R hx hy hop h.1) h.2;simp only[qt]; split<;>simp[T.ids]
    ·rename_i t t' x' y' hat;obtain⟨x,y,rfl,hx,hy⟩:=Yt rfl;have hat':argTypes= #[t,t']:=by
      cases argTypes with
      |mk l=>simp only at hat; rw[hat]
     subst hat';split at hc
     ·rename_i e e' h1 h2;split at hc
      ·rename_i k i h3 h4;split at hc
       ·rename_i z h5;split at hc
        ·rename_i h6;cases hc;exact akc R hn hx hy h1 h2 h3 h4 h5 h6.2.1 h6.2.2 hop h
        ·cases hc
       ·cases hc
      ·cases hc
     ·cases hc
    ·cases hc
   ·cases hc
  ·cases hc
def al2(F:Fr P)(M:Nat->Prop)(n:Nat)(E:Env)(s:AS)(K:AS->Prop)(a':Act)(w':World):Prop :=
 ∃ E' s' k,E'.w=w'/\K s'/\s'.nx=s.nx+k/\s'.pin=s.pin/\Rel F (fun i=>M i\/n<=i/\i<=n+k) E' s' a'/\Ext F E E'/\Same E E' M
theorem Cj{f:FuncId}{xs ys:List X}{b:Builtin}{ts:List TypeId}(h:vG P b ts ys=some (.call f xs)):False:=by
 unfold vG at h;repeat' (first|(cases h; done)|split at h)
theorem AP{f:X}{xs ys:List X}{b:Builtin}{ts:List TypeId}(h:vG P b ts ys=some (.oP f xs)):False:=by
 unfold vG at h;repeat' (first|(cases h; done)|split at h)
theorem TS{x:X}{xs:List X}{o:Op}(h:wB P nd o=some (.oP x xs)): ∃ x0 args ty,o= .call ⟨.value x0,args,ty⟩/\aY x0=some x/\tC args.toList=some xs:=by
 unfold wB at h;split at h
 all_goals
  first
  |(cases h; done)
  |(simp only[be] at h; obtain⟨_,_,h⟩:=h; cases h; done)
  |(repeat' (first|(cases h; done)|(exact(AP h).elim)|(simp only[be] at h; obtain⟨_,h,e⟩:=h; exact(AP (VW e▸h)).elim)|(simp only[be] at h; obtain⟨_,_,h⟩:=h; cases nd<;>cases h; done)|(simp only[be] at h; obtain⟨_,_,h⟩:=h; cases h; done)|split at h))
 rename_i c _ _ hxs _ x1 _ ad5;obtain⟨callee,args,ty⟩:=c;simp only at ad5 hxs;simp only[be] at h;obtain⟨x',hx',h⟩:=h;cases h;subst ad5;exact⟨_,args,ty,rfl,hx',hxs⟩
theorem abE(R:Rel F M E s a){n:Nat}(hn: ¬ M n){o:Oper}{x:X}{xs:List X}(hc:wB P nd o.op=some (.oP x xs)){dr:Bool}{K:AS->Prop}{Q:Exit->Act->World->Prop}
  (h:opW P dr n o.dst (.oP x xs) K s) (r:Option Nat):o.wpIn {Fence.wide with round:=r} 0 P a E.w (EP F M n E K) Q:=by
 obtain⟨x0,args,ty,hop,hx0,hxs⟩:=TS hc;obtain⟨hts,Aj⟩:=zM hxs R;have rx:=bY R hx0;have ix:=mX R hx0;replace h:=h.2;split at h
 ·rename_i f cap hx;obtain⟨hf,_,hY⟩:=h;rw[hx] at rx ix;have rx':=rx;rw[aB rfl] at rx';simp only[aN] at rx';rcases rx' with ⟨h0,_⟩|⟨_,p,hp,_,hu,_⟩
  ·rw[hf] at h0; cases h0
  have ha:a.eval x0= .func (.yield p.l) #[] #[]:=by simpa using hu
  obtain⟨fn,tm,as,bd,hy,hR⟩:=hY F M E _ _ R.hk R.he rx hts ix Aj R.mh hn p hp;have e2:(args.toList.map a.eval).toArray=args.map a.eval:=by
   apply gk; simp
  rw[e2] at hy;have hrun:(execOp a.eval o).run P E.w= .ok (.round p.l fn tm as bd) E.w:=by
   simp only[execOp,hop,resolve,ha,Deferred.ofValue,invoke,Sem.run_bind,Sem.run_pure,Result.andThen_ok,Array.empty_append];exact hy
  refine⟨fun _ _=>trivial,?_⟩;rw[Oper.semAt_eq _ _ _ (by rw[hop]; intro c q; cases q),hrun,Oper.uponIn_round];refine⟨(fun q=>by cases q),?_⟩;refine RoundIn.mono (F:=Fence.wide) hR ?_;rintro e w' ⟨v,t,E',rfl,rfl,hK,hv,hok,hext,hS,ht,hm⟩;exact⟨E',_,rfl,hK,R.next (M':=fun i=>M i\/i=n) (fun _ h=>.inl h) hok hext hS ht hv hm o.dst,hext,hS⟩
 ·exact h.elim
theorem VX{f:FuncId}{xs:List X}{o:Op}(h:wB P nd o=some (.call f xs)): ∃ args ty,o= .call ⟨.value (.func f),args,ty⟩/\tC args.toList=some xs:=by
 unfold wB at h;split at h
 all_goals
  first
  |(cases h; done)
  |(simp only[be] at h; obtain⟨_,_,h⟩:=h; cases h; done)
  |(repeat' (first|(cases h; done)|(exact(Cj h).elim)|(simp only[be] at h; obtain⟨_,h,e⟩:=h; exact(Cj (Yr e▸h)).elim)|(simp only[be] at h; obtain⟨_,_,h⟩:=h; cases nd<;>cases h; done)|(simp only[be] at h; obtain⟨_,_,h⟩:=h; cases h; done)|split at h))
 rename_i c _ _ hxs _ _ ad5;obtain⟨callee,args,ty⟩:=c;simp only at ad5 hxs;cases h;subst ad5;exact⟨args,ty,rfl,hxs⟩
theorem abG(R:Rel F M E s a){n:Nat}(hn: ∀ i,M i->i<n){o:Oper}{op:o8}(hcv: ∀ x xs,op≠ .oP x xs)(hc:wB P nd o.op=some op){dr:Bool}{K:AS->Prop}{Q:Exit->Act->World->Prop}
  (h:opW P dr n o.dst op K s):o.wp P a E.w (al2 F M n E s K) Q:=by
 cases op<;>try (exact h.elim)
 case oP=>exact(hcv _ _ rfl).elim
 case call f xs =>
  obtain⟨args,ty,hop,hxs⟩:=VX hc;obtain⟨hts,Aj⟩:=zM hxs R;obtain⟨_,k,_,hcl,hcall⟩:=h;have hrun:(execOp a.eval o).run P E.w= .ok (.enter f (args.toList.map a.eval).toArray) E.w:=by
   have:=hcl (args.map a.eval) E.w;have e2:(args.toList.map a.eval).toArray=args.map a.eval:=by
    apply gk; simp
   rw[e2];simp only[execOp,hop,resolve,Act.eval,Deferred.ofValue,invoke,Sem.run_bind,Sem.run_pure,Result.andThen_ok,Array.empty_append,Array.append_empty];exact this
  unfold Oper.wp;rw[hrun];refine(hcall F M E _ R.hk R.he hts Aj R.mh hn).mono ?_;rintro e w' ⟨v,t,E',rfl,rfl,hK,hv,hok,hext,hS,ht,hm⟩;have R':=R.next (M':=fun i=>M i\/n<=i/\i<=n+k) (fun _ h=>.inl h) hok hext hS ht hv hm o.dst;exact⟨E',_,k,rfl,hK,rfl,by cases o.dst<;>rfl,⟨R'.hk,R'.he,R'.fr,R'.df,R'.mf,R'.mh⟩,hext,hS⟩
end ops
def Ak(h h':Hp):Prop:= ∀ o ob,h o=some ob->h' o=some ob
theorem Ak.some{h h':Hp}(H:Ak h h'){i:Nat}(hi:(h i).isSome=true):(h' i).isSome=true:=by
 obtain⟨ob,hob⟩:=am.1 hi;rw[H i ob hob]; rfl
def TT(N:Nat->Prop)(h h':Hp):Prop:= ∀ o ob,N o->h o=some ob->h' o=some ob
theorem Ak.n{h h':Hp}(H:Ak h h'):TT (fun _=>True) h h':=fun o ob _=>H o ob
theorem TT.some{N:Nat->Prop}{h h':Hp}(H:TT N h h'){i:Nat}(hn:N i)(hi:(h i).isSome=true):(h' i).isSome=true:=by
 obtain⟨ob,hob⟩:=am.1 hi;rw[H i ob hn hob]; rfl
theorem RU{N:Nat->Prop}{h h':Hp}(H:TT N h h'){t:T}(hn:t.ids N)(ht:t.Ai h=true):t.Ai h'=true:=by
 cases t<;>simp only[T.Ai,T.ids] at ht hn ⊢ <;>first|exact ht|exact H.some hn ht
theorem RX{N:Nat->Prop}{h h':Hp}(H:TT N h h'){t:T}(hn:t.ids N)(ht:t.nR h=true):t.nR h'=true:=by
 cases t<;>simp only[T.nR] at ht ⊢ <;>exact RU H hn ht
theorem H7{N:Nat->Prop}{h h':Hp}(H:TT N h h'): ∀ {l:List T},T.aO N l->zG h l=true->zG h' l=true:=by
 intro l;induction l with
 |nil=>intro _ _; rfl
 |cons t ts ih=>intro hn hl; simp only[zG,aD,T.aO] at hl hn ⊢; exact⟨RX H hn.1 hl.1,ih hn.2 hl.2⟩
theorem VY{N:Nat->Prop}{h h':Hp}(H:TT N h h'): ∀ {l:List T},T.aO N l->DC h l=true->DC h' l=true:=by
 intro l;induction l with
 |nil=>intro _ _; rfl
 |cons t ts ih=>intro hn hl; simp only[DC,aD,T.aO] at hl hn ⊢; exact⟨RU H hn.1 hl.1,ih hn.2 hl.2⟩
theorem pF(t:T):t.ids (fun _=>True):=by
 apply T.rec (motive_1:=fun t=>t.ids (fun _=>True)) (motive_2:=fun l=>T.aO (fun _=>True) l);all_goals (intros; simp_all[T.ids,T.aO])
theorem OM{h h':Hp}(H:Ak h h'){t:T}(ht:t.nR h=true):t.nR h'=true:=RX H.n (pF t) ht
theorem xk{s s':AS}{x:Option X}(h: ∀ y∈x.toList,s.ev y=s'.ev y):x.map s.ev=x.map s'.ev:=by
 cases x with
 |none=>rfl
 |some y=>simp[h y (by simp)]
theorem ad6{N:Nat->Prop}{s s':AS}{op:o8}(hq:dw op=true)(hx: ∀ x∈op.xs,s.ev x=s'.ev x)(hn: ∀ x∈op.xs,(s.ev x).ids N)(H:TT N s.hp s'.hp)(h:qc s op):qc s' op/\qt s' op=qt s op:=by
 cases op<;>simp only[o8.xs,bv,dx,gp,fc,hJ] at hx hn<;>try (simp[dw] at hq; done)
 case mv x=>simp only[qc,qt,hx,and_self]
 case pick c x y=>simp only[qc,qt] at h ⊢; rw[<- hx.1,<- hx.2.1,<- hx.2.2]; exact⟨h,rfl⟩
 case bin op x y=>simp only[qc,qt] at h ⊢; rw[<- hx.1,<- hx.2]; exact⟨h,rfl⟩
 case bb ne x y=>simp only[qc,qt] at h ⊢; rw[<- hx.1,<- hx.2]; exact⟨h,rfl⟩
 case not x=>simp only[qc,qt] at h ⊢; rw[<- hx]; exact⟨h,rfl⟩
 case conv k x=>simp only[qc,qt] at h ⊢; rw[<- hx]; exact⟨h,rfl⟩
 case fa off k x =>
  simp only[qc,qt] at h ⊢; rw[<- hx];refine⟨?_,rfl⟩;split at h
  ·rename_i e1; rw[e1] at hn; exact H.some hn h
  ·exact h
  ·exact h.elim
 case fv off k x=>simp only[qc,qt] at h ⊢; rw[<- hx]; exact⟨h,rfl⟩
 case ia k x i =>
  simp only[qc,qt] at h ⊢; rw[<- hx.1,<- hx.2];refine⟨?_,rfl⟩;split at h
  ·exact h
  ·rename_i e1 _;rw[e1] at hn;split at h
   ·rename_i ob hob; rw[H _ _ hn.1 hob]; exact h
   ·exact h.elim
  ·rename_i e1 _;rw[e1] at hn;split at h
   ·rename_i ob hob; rw[H _ _ hn.1 hob]; exact h
   ·exact h.elim
  ·exact h.elim
 case ch x i=>simp only[qc,qt] at h ⊢; rw[<- hx.1,<- hx.2]; exact⟨h,rfl⟩
 case ld k x =>
  simp only[qc,qt] at h ⊢; rw[<- hx];split at h
  ·exact⟨h,rfl⟩
  ·rename_i e1;rw[e1] at hn;split at h
   ·rename_i ob hob; rw[H _ _ hn hob]; exact⟨h,rfl⟩
   ·exact h.elim
  ·exact h.elim
 case nc x =>
  simp only[qc,qt] at h ⊢; rw[<- hx];refine⟨?_,rfl⟩;split at h
  ·rename_i e1; rw[e1] at hn; exact H.some hn h
  ·trivial
  ·trivial
  ·exact h.elim
 case len str x =>
  simp only[qc,qt] at h ⊢; rw[<- hx];split at h
  ·exact⟨h,rfl⟩
  ·rename_i e1;rw[e1] at hn;split at h
   ·rename_i ob hob; rw[H _ _ hn hob]; exact⟨h,rfl⟩
   ·exact h.elim
  ·rename_i e1;rw[e1] at hn;exact⟨⟨h.1,H.some hn h.2⟩,rfl⟩
  ·exact⟨h,rfl⟩
  ·exact h.elim
 case mx x y=>simp only[qc,qt] at h ⊢; rw[<- hx.1,<- hx.2]; exact⟨h,rfl⟩
 case mn x y=>simp only[qc,qt] at h ⊢; rw[<- hx.1,<- hx.2]; exact⟨h,rfl⟩
 case mk z ps =>
  have e: ∀ p∈ps,s.ev p.2.2=s'.ev p.2.2:=fun p hp=>hx _ (ax.2 ⟨p,hp,rfl⟩)
  have e1:(ps.map fun p=>(p.1,p.2.1,s.ev p.2.2))=ps.map fun p=>(p.1,p.2.1,s'.ev p.2.2):=ce fun p hp=>by rw[e p hp]
  have e2:(ps.map fun p=>s.ev p.2.2)=ps.map fun p=>s'.ev p.2.2:=ce fun p hp=>e p hp
  simp only[qc,qt,aD] at h ⊢;rw[<- e1,<- e2];exact⟨⟨h.1,H7 H (cu.2 fun t ht=>by obtain⟨p,hp,rfl⟩:=ax.1 ht; exact hn _ (ax.2 ⟨p,hp,rfl⟩)) h.2⟩,rfl⟩
 case ms ty k z n ps =>
  have e: ∀ p∈ps,s.ev p.2=s'.ev p.2:=fun p hp=>hx _ (ax.2 ⟨p,hp,rfl⟩)
  have e1:(ps.map fun p=>(p.1,s.ev p.2))=ps.map fun p=>(p.1,s'.ev p.2):=ce fun p hp=>by rw[e p hp]
  have e2:(ps.map fun p=>s.ev p.2)=ps.map fun p=>s'.ev p.2:=ce fun p hp=>e p hp
  simp only[qc,qt,aD] at h ⊢;rw[<- e1,<- e2];obtain⟨⟨⟨⟨⟨⟨h1,h2⟩,h3⟩,h4⟩,h5⟩,h6⟩,h7⟩:=h;exact⟨⟨⟨⟨⟨⟨⟨h1,h2⟩,h3⟩,H7 H (cu.2 fun t ht=>by obtain⟨p,hp,rfl⟩:=ax.1 ht; exact hn _ (ax.2 ⟨p,hp,rfl⟩)) h4⟩,h5⟩,h6⟩,h7⟩,rfl⟩
 case sl k x lo hi mx =>
  have e1:=xk (s:=s) (s':=s') (x:=lo) fun y hy=>hx.2 y (by simp[hy])
  have e2:=xk (s:=s) (s':=s') (x:=hi) fun y hy=>hx.2 y (by simp[hy])
  have e3:=xk (s:=s) (s':=s') (x:=mx) fun y hy=>hx.2 y (by simp[hy])
  simp only[qc,qt] at h ⊢;rw[<- hx.1,<- e1,<- e2,<- e3]; exact⟨h,rfl⟩
 case ss x lo hi =>
  have e1:=xk (s:=s) (s':=s') (x:=lo) fun y hy=>hx.2 y (by simp[hy])
  have e2:=xk (s:=s) (s':=s') (x:=hi) fun y hy=>hx.2 y (by simp[hy])
  simp only[qc,qt] at h ⊢;rw[<- hx.1,<- e1,<- e2]; exact⟨h,rfl⟩
 case ex x i=>simp only[qc,qt] at h ⊢; rw[<- hx]; exact⟨h,rfl⟩
 case eqs ne n x y=>simp only[qc,qt] at h ⊢; rw[<- hx.1,<- hx.2]; exact⟨h,rfl⟩
 case TG x=>simp only[qc,qt] at h ⊢; rw[<- hx]; exact⟨h,rfl⟩
 case sa n x=>simp only[qc,qt] at h ⊢; rw[<- hx]; exact⟨h,rfl⟩
 case slx k x lo hi mx =>
  have e1:=xk (s:=s) (s':=s') (x:=lo) fun y hy=>hx.2 y (by simp[hy])
  have e2:=xk (s:=s) (s':=s') (x:=hi) fun y hy=>hx.2 y (by simp[hy])
  have e3:=xk (s:=s) (s':=s') (x:=mx) fun y hy=>hx.2 y (by simp[hy])
  simp only[qc,qt] at h ⊢;rw[<- hx.1,<- e1,<- e2,<- e3];split at h
  ·rename_i i ei;rw[ei] at hn;split at h
   ·rename_i ob hob; rw[H _ _ hn.1 hob]; exact⟨h,rfl⟩
   ·exact h.elim
  ·exact⟨h,rfl⟩
 case bts x =>
  simp only[qc,qt] at h ⊢; rw[<- hx];split at h
  ·rename_i e1;rw[e1] at hn;split at h
   ·rename_i ob hob; rw[H _ _ hn hob]; exact⟨h,rfl⟩
   ·exact h.elim
  ·exact h.elim
 case mlk b z x i =>
  simp only[qc,qt] at h ⊢; rw[<- hx.1,<- hx.2];split at h
  ·rename_i e1 e2;rw[e1] at hn;split at h
   ·rename_i ob hob; rw[H _ _ hn.1 hob]; exact⟨h,rfl⟩
   ·exact h.elim
  ·exact h.elim
 case mf f cap =>
  have e:cap.map s.ev=cap.map s'.ev:=ce fun x hx'=>hx x hx'
  simp only[qc,qt] at h ⊢;rw[aD] at h;rw[<- e,aD]; exact⟨⟨VY H (cu.2 fun t ht=>by obtain⟨x,hx',rfl⟩:=ax.1 ht; exact hn x hx') h.1,h.2⟩,rfl⟩
 case mb f x=>simp only[qc,qt] at h ⊢; rw[<- hx]; exact⟨h,rfl⟩
theorem GV{s s':AS}{op:o8}(hq:dw op=true)(hx: ∀ x∈op.xs,s.ev x=s'.ev x)(H:Ak s.hp s'.hp)(h:qc s op):qc s' op/\qt s' op=qt s op :=
 ad6 hq hx (fun _ _=>pF _) H.n h
def zQ:o8->Bool
 | .mv _=>true
 | .pick .. =>true
 | .bin .. =>true
 | .bb .. =>true
 | .not _=>true
 | .conv .. =>true
 | .fv .. =>true
 | .ch .. =>true
 | .mx .. =>true
 | .mn .. =>true
 | .sl .. =>true
 | .ss .. =>true
 | .ex .. =>true
 | .eqs .. =>true
 | .sa .. =>true
 |_=>false
theorem Yu{s s':AS}{op:o8}(hq:zQ op=true)(hx: ∀ x∈op.xs,s.ev x=s'.ev x)(h:qc s op):qc s' op/\qt s' op=qt s op:=by
 cases op<;>simp only[o8.xs,bv,dx,gp,fc,hJ] at hx<;>try (simp[zQ] at hq; done)
 case mv x=>simp only[qc,qt,hx,and_self]
 case pick c x y=>simp only[qc,qt] at h ⊢; rw[<- hx.1,<- hx.2.1,<- hx.2.2]; exact⟨h,rfl⟩
 case bin op x y=>simp only[qc,qt] at h ⊢; rw[<- hx.1,<- hx.2]; exact⟨h,rfl⟩
 case bb ne x y=>simp only[qc,qt] at h ⊢; rw[<- hx.1,<- hx.2]; exact⟨h,rfl⟩
 case not x=>simp only[qc,qt] at h ⊢; rw[<- hx]; exact⟨h,rfl⟩
 case conv k x=>simp only[qc,qt] at h ⊢; rw[<- hx]; exact⟨h,rfl⟩
 case fv off k x=>simp only[qc,qt] at h ⊢; rw[<- hx]; exact⟨h,rfl⟩
 case ch x i=>simp only[qc,qt] at h ⊢; rw[<- hx.1,<- hx.2]; exact⟨h,rfl⟩
 case mx x y=>simp only[qc,qt] at h ⊢; rw[<- hx.1,<- hx.2]; exact⟨h,rfl⟩
 case mn x y=>simp only[qc,qt] at h ⊢; rw[<- hx.1,<- hx.2]; exact⟨h,rfl⟩
 case sl k x lo hi mx =>
  have e1:=xk (s:=s) (s':=s') (x:=lo) fun y hy=>hx.2 y (by simp[hy])
  have e2:=xk (s:=s) (s':=s') (x:=hi) fun y hy=>hx.2 y (by simp[hy])
  have e3:=xk (s:=s) (s':=s') (x:=mx) fun y hy=>hx.2 y (by simp[hy])
  simp only[qc,qt] at h ⊢;rw[<- hx.1,<- e1,<- e2,<- e3]; exact⟨h,rfl⟩
 case ss x lo hi =>
  have e1:=xk (s:=s) (s':=s') (x:=lo) fun y hy=>hx.2 y (by simp[hy])
  have e2:=xk (s:=s) (s':=s') (x:=hi) fun y hy=>hx.2 y (by simp[hy])
  simp only[qc,qt] at h ⊢;rw[<- hx.1,<- e1,<- e2]; exact⟨h,rfl⟩
 case sa n x=>simp only[qc,qt] at h ⊢; rw[<- hx]; exact⟨h,rfl⟩
 case ex x i=>simp only[qc,qt] at h ⊢; rw[<- hx]; exact⟨h,rfl⟩
 case eqs ne n x y=>simp only[qc,qt] at h ⊢; rw[<- hx.1,<- hx.2]; exact⟨h,rfl⟩
def gv(g:Option (Nat×Bool))(s:AS):Option Bool :=
 match g with
 |none=>some true
 |some (d,want) =>
  match s.fr.getD d .any with
  | .lit (.bool b)=>some (b==want)
  | .lit (.tuple _)=>some false
  |_=>none
theorem set_self{l:List T}{d:Nat}{t:T}(h:l.getD d .any=t)(ht:t≠ .any):l.set d t=l:=by
 rw[ab] at h;cases hd:l[d]? with
 |none=>rw[hd] at h; simp at h; exact absurd h.symm ht
 |some u =>
  rw[hd] at h; simp at h; subst h;rw[bo] at hd;obtain⟨hlt,rfl⟩:=hd;exact List.set_getElem_self hlt
theorem H8{g:Option (Nat×Bool)}{s:AS}{yes no:AS->Prop}:KQ g s yes no↔(gv g s=some true/\yes s)\/(gv g s=some false/\no s):=by
 unfold KQ gv;cases g with
 |none=>simp
 |some p =>
  obtain⟨d,want⟩:=p;simp only;generalize hq:s.fr.getD d .any=q;cases q with
  |lit v =>
   cases v with
   |bool b =>
    have hput: ∀ c,b=c->s.put (some d) (.lit (.bool c))=s:=by
     rintro c rfl;show({s with fr:=s.fr.set d (.lit (.bool b))}:AS)=s;rw[set_self hq (by simp)]
    simp only;cases b<;>cases want<;>simp[hput]
   |_=>simp
  |_=>simp
def OO(P:Program)(dr:Bool)(n:Nat)(o:aT)(K:AS->Prop)(s:AS):Prop :=
 (gv o.g s=some true/\lH o s/\nS P (o.dr dr) n o.d o.op K s)\/(gv o.g s=some false/\K (s.put o.d T.un))
def OQ(P:Program)(dr:Bool)(n:Nat)(o:aT)(K:AS->Prop)(s:AS):Prop :=
 (gv o.g s=some true/\lH o s/\opR P dr n o K s)\/(gv o.g s=some false/\K (s.put o.d T.un))
def Yv(P:Program)(dr:Bool)(n:Nat)(o:aT)(K:AS->Prop)(s:AS):Prop :=
 (gv o.g s=some true/\lH o s/\nS P (o.dr dr) n o.d o.op (mkK o s K) s)\/(gv o.g s=some false/\K (s.put o.d T.un))
def aT.reads(o:aT)(d:Nat):Bool :=
 ((o.op.xs.any fun x=>match x with| .t n=>n==d| .c _=>false)||(match o.g with|some (g,_)=>g==d|none=>false))||o.ne.any (· ==d)
def zS(j i:aT):Bool :=
 (match j.d with|some d=> !i.reads d&&(match i.d with|some e=> !(d==e)|none=>true)|none=>true) &&
 (match i.d with|some d=> !j.reads d|none=>true)
theorem ake{s:AS}{d:Option Nat}{t:T}{x:X}(h: ∀ e,d=some e->x≠ .t e):(s.put d t).ev x=s.ev x:=by
 cases d with
 |none=>rfl
 |some e =>
  cases x with
  |c v=>rfl
  |t n =>
   have hne:e≠n:=fun he=>h e rfl (by rw[he])
   show(s.fr.set e t).getD n T.un=s.fr.getD n T.un;rw[ab,ab,dy hne]
theorem iZ{s:AS}{d:Option Nat}{t:T}{o:aT}(h: ∀ e,d=some e->o.reads e=false): ∀ x∈o.op.xs,s.ev x=(s.put d t).ev x:=by
 intro x hx;refine(ake fun e he hxe=>?_).symm;have:=h e he;simp only[aT.reads,bk,cq] at this;have:=this.1.1 x hx;rw[hxe] at this;simp at this
theorem Bz{s:AS}{d:Option Nat}{t:T}{o:aT}(h: ∀ e,d=some e->o.reads e=false):gv o.g (s.put d t)=gv o.g s:=by
 cases hg:o.g with
 |none=>rfl
 |some p =>
  obtain⟨g,want⟩:=p;cases d with
  |none=>rfl
  |some e =>
   have:=h e rfl;simp only[aT.reads,hg,bk] at this;have hne:e≠g:=by have:=this.1.2; simp at this; exact fun h=>this h.symm
   have e1:(s.put (some e) t).fr.getD g .any=s.fr.getD g .any:=by
    show(s.fr.set e t).getD g .any=_;rw[ab,ab,dy hne]
   simp only[gv,e1]
theorem uf{s:AS}{g:Option (Nat×Bool)}{h:Hp}:gv g {s with hp:=h}=gv g s:=rfl
theorem put_comm{s:AS}{d e:Option Nat}{t u:T}(h: ∀ x,d=some x->e≠some x):(s.put d t).put e u=(s.put e u).put d t:=by
 cases d with
 |none=>rfl
 |some x =>
  cases e with
  |none=>rfl
  |some y =>
   have:x≠y:=fun he=>h x rfl (by rw[he])
   show({s with fr:=(s.fr.set x t).set y u}:AS)= {s with fr:=(s.fr.set y u).set x t};rw[List.set_comm _ _ this]
theorem dI{s:AS}{d:Option Nat}{t:T}{h:Hp}:({(s.put d t) with hp:=h}:AS)=({s with hp:=h}:AS).put d t:=by
 cases d<;>rfl
structure Apart(j i:aT):Prop where
 ji: ∀ e,j.d=some e->i.reads e=false
 ij: ∀ e,i.d=some e->j.reads e=false
 dd: ∀ e,j.d=some e->i.d≠some e
theorem xY{j i:aT}(h:zS j i=true):Apart j i:=by
 simp only[zS,aD] at h;refine⟨fun e he=>?_,fun e he=>?_,fun e he hi=>?_⟩
 ·rw[he] at h; simp only[aD,bq] at h; exact h.1.1
 ·rw[he] at h; simp only[bq] at h; exact h.2
 ·rw[he,hi] at h; simp at h
theorem ND{s:AS}{d:Option Nat}{t:T}{o:aT}(h: ∀ e,d=some e->o.reads e=false): ∀ m∈o.ne,(s.put d t).obj m=s.obj m:=by
 intro m hm;cases d with
 |none=>rfl
 |some e =>
  have:=h e rfl;simp only[aT.reads,bk,cq] at this;have hne:e≠m:=by have:=this.2 m hm; simp at this; exact fun h=>this h.symm
  have e1:(s.put (some e) t).fr.getD m .any=s.fr.getD m .any:=by
   show(s.fr.set e t).getD m .any=_;rw[ab,dy hne,<- ab]
  unfold AS.obj;rw[e1]
theorem MG{s s':AS}{xs:List X}{f:T->Bool}(hx: ∀ x∈xs,s.ev x=s'.ev x):(xs.all fun x=>f (s.ev x))=xs.all fun x=>f (s'.ev x):=by
 rw[cR,bj,bj];exact⟨fun H x hx'=>by rw[<- hx x hx']; exact H x hx',fun H x hx'=>by rw[hx x hx']; exact H x hx'⟩
theorem Yw{s s':AS}{xs:List X}(hx: ∀ x∈xs,s.ev x=s'.ev x): ∀ {l:List Nat},(∀ m∈l,s'.obj m=s.obj m)->KP s xs l=KP s' xs l:=by
 intro l;induction l with
 |nil=>intro _; rfl
 |cons m l ih =>
  intro h;simp only[KP];rw[ih fun m hm=>h m (by simp[hm]),h m (by simp)]
  congr 1
  cases Nat.blt m 1000000 with
  |true =>
   cases s.obj m with
   |none=>rfl
   |some i=>exact MG hx
  |false =>
   cases Nat.beq m 1000000 with
   |true=>exact MG hx
   |false =>
    cases xs with
    |nil=>rfl
    |cons x r=>simp only[ap]; rw[hx x (by simp)]
theorem zT{s s':AS}{o:aT}(hx: ∀ x∈o.op.xs,s.ev x=s'.ev x)(hne: ∀ m∈o.ne,s'.obj m=s.obj m)(hnx:s'.nx=s.nx)(h:lH o s):lH o s':=by
 obtain⟨h1,h2⟩:=h;refine⟨fun hf=>?_,by rw[<- Yw hx hne]; exact h2⟩;have:=h1 hf;have hall:(o.op.xs.all fun x=>T.lt s.nx (s.ev x))=o.op.xs.all fun x=>T.lt s'.nx (s'.ev x):=by
  rw[hnx,cR,bj,bj];exact⟨fun H x hx'=>by rw[<- hx x hx']; exact H x hx',fun H x hx'=>by rw[hx x hx']; exact H x hx'⟩
 revert this;cases hop:o.op<;>simp only[hop] at hall<;>simp only[hall]<;>try exact id
 ·rename_i k x v;rw[hop] at hx;rw[hnx,<- hx x (by simp[o8.xs])]; exact id
 ·rename_i ty k by' x y
  rw[hop] at hx;rw[hnx,<- hx x (by simp[o8.xs])]; exact id
theorem kM{s:AS}{d:Option Nat}{t:T}{o:aT}(h: ∀ e,d=some e->o.reads e=false)(hf:lH o s):lH o (s.put d t) :=
 zT (iZ h) (ND h) (fQ _ _ _) hf
theorem kV{s:AS}{d:Option Nat}{t:T}{o:aT}(h: ∀ e,d=some e->o.reads e=false)(hf:lH o (s.put d t)):lH o s :=
 zT (fun x hx=>(iZ h x hx).symm) (fun m hm=>(ND h m hm).symm) (fQ _ _ _).symm hf
theorem AQ{s:AS}{o:aT}{h:Hp}(hf:lH o s):lH o {s with hp:=h} :=
 zT (s:=s) (s':= {s with hp:=h}) (fun x _=>by cases x<;>rfl) (fun _ _=>rfl) rfl hf
theorem KX{n:Nat}{t:T}:t.lt n=true->t.ids (· <n):=by
 apply T.rec (motive_1:=fun t=>t.lt n=true->t.ids (· <n)) (motive_2:=fun l=>T.Em n l=true->T.aO (· <n) l);all_goals simp_all[T.lt,T.Em,T.ids,T.aO]
theorem ahj{i:Nat}{t:T}:t.nid i=true->t.ids (· ≠i):=by
 apply T.rec (motive_1:=fun t=>t.nid i=true->t.ids (· ≠i)) (motive_2:=fun l=>T.abw i l=true->T.aO (· ≠i) l);all_goals simp_all[T.nid,T.abw,T.ids,T.aO]
theorem abH{s:AS}{xs:List X}: ∀ {l:List Nat},KP s xs l=true-> ∀ m∈l,Nat.blt m 1000000=true-> ∃ i,s.obj m=some i/\ ∀ x∈xs,(s.ev x).ids (· ≠i):=by
 intro l;induction l with
 |nil=>intro _ m hm; cases hm
 |cons q l ih =>
  intro h m hm hb;simp only[KP,aD] at h;rcases bv.1 hm with rfl|hm
  ·have h1:=h.1;rw[hb,bE] at h1;cases ho:s.obj m with
   |none=>rw[ho] at h1; simp at h1
   |some i =>
    rw[ho] at h1;simp only[bj] at h1;exact⟨i,rfl,fun x hx=>ahj (h1 x hx)⟩
  ·exact ih h.2 m hm hb
theorem ad7{s:AS}{xs:List X}: ∀ {l:List Nat},KP s xs l=true->1000000∈l-> ∀ x∈xs,(s.ev x).ids (· <10000):=by
 intro l;induction l with
 |nil=>intro _ hm; cases hm
 |cons q l ih =>
  intro h hm;simp only[KP,aD] at h;rcases bv.1 hm with rfl|hm
  ·have h1:(xs.all fun x=>T.lt 10000 (s.ev x))=true:=h.1;exact fun x hx=>KX (bj.1 h1 x hx)
  ·exact ih h.2 hm
theorem ad8{s:AS}{x:X}{r:List X}: ∀ {l:List Nat},KP s (x::r) l=true->1000001∈l->T.newer 10000 (s.ev x)=true:=by
 intro l;induction l with
 |nil=>intro _ hm; cases hm
 |cons q l ih =>
  intro h hm;simp only[KP,aD] at h;rcases bv.1 hm with rfl|hm
  ·exact h.1
  ·exact ih h.2 hm
end Go.Ab
