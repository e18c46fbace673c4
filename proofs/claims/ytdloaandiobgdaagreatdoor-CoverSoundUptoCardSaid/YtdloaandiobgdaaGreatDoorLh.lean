/-
 The abstract layer, part 30: a function that holds one loop over an iterator. No condition.
-/
import Derived.RangeFuncLeaves
import Derived.RangeFuncRecord
import Derived.Shelf.SortG.Plain
import Derived.Test.YtdloaandiobgdaaGreatDoorLd
import Derived.Test.YtdloaandiobgdaaGreatDoorLg
namespace Go.Ab
mutual
def T.tV:T->Bool
 | .agg l=>T.gV l
 | .sl _ _ l=>T.gV l
 | .ref _ t=>T.tV t
 | .fn f cap=>Nat.blt f 8192&&T.gV cap
 | .dD l=>T.gV l
 |_=>true
def T.gV:List T->Bool
 |[]=>true
 |t::ts=>T.tV t&&T.gV ts
end
@[reducible] def Env.at(E:Env)(w:World)(y:Option Yd):Env:= {E with w:=w,y:=y}
section
variable {E:Env} {w':World} {y':Option Yd}
mutual
theorem LC(hw: ∀ b,E.S b->w'.heap[b]? =E.w.heap[b]?):(t:T)->((y'=E.y\/E.y=none)\/t.tV=true)->(vs:List Value)->aN E t vs->aN (E.at w' y') t vs
 | .lit v,_,vs,h=>by simpa [aN] using h
 | .agg l,hn,vs,h=>by
  simp only[aN,T.tV] at h hn ⊢;exact Ux hw l hn vs h
 | .sl k full l,hn,vs,h=>by
  simp only[aN,T.tV] at h hn ⊢;obtain⟨a,c,h1,h2,h3,h4⟩:=h;refine⟨a,c,h1,h2,h3,?_⟩;rcases h4 with h4|⟨b,off,cur,e,m,ha,hb,hh,hf,hr⟩
  ·exact .inl h4
  ·exact .inr ⟨b,off,cur,e,m,ha,hb,(hw b hb).trans hh,hf,LD hw l k hn _ hr⟩
 | .ref k t,hn,vs,h=>by
  simp only[aN,T.tV] at h hn ⊢;obtain⟨b,off,cur,e,m,h1,hb,hh,hk,hf,hl,hr⟩:=h;exact⟨b,off,cur,e,m,h1,hb,(hw b hb).trans hh,hk,hf,hl,LC hw t hn _ hr⟩
 | .own i,_,vs,h=>by simp only[aN] at h ⊢; exact h
 | .ptr i j off,_,vs,h=>by simp only[aN] at h ⊢; exact h
 | .rG i lo hi,_,vs,h=>by simp only[aN] at h ⊢; exact h
 | .fn f cap,hn,vs,h=>by
  simp only[aN,T.tV,aD] at h hn ⊢;rcases h with ⟨h0,cs,h1,h2⟩|⟨h0,p,hp,hf,h1,h2⟩
  ·exact .inl ⟨h0,cs,h1,Ux hw cap (hn.imp id fun q=>q.2) _ h2⟩
  ·rcases hn with (hn|hn)|hn
   ·exact .inr ⟨h0,p,hn.trans hp,hf,h1,yQ hw cap (.inl (.inl hn)) _ h2⟩
   ·rw[hn] at hp; cases hp
   ·rw[hn.1] at h0; cases h0
 | .dD l,hn,vs,h=>by
  simp only[aN,T.tV] at h hn ⊢;obtain⟨cs,h1,h2⟩:=h;exact⟨cs,h1,yQ hw l hn _ h2⟩
 | .any,_,vs,h=>by simp[aN]
theorem Ux(hw: ∀ b,E.S b->w'.heap[b]? =E.w.heap[b]?):(l:List T)->((y'=E.y\/E.y=none)\/T.gV l=true)->(vs:List Value)->aX E l vs->aX (E.at w' y') l vs
 |[],_,vs,h=>by simpa [aX] using h
 |t::ts,hn,vs,h=>by
  simp only[aX,T.gV,aD] at h hn ⊢;obtain⟨hk,v,r,h1,h0,h2,h3⟩:=h;exact⟨hk,v,r,h1,h0,LC hw t (hn.imp id fun q=>q.1) _ h2,Ux hw ts (hn.imp id fun q=>q.2) _ h3⟩
theorem yQ(hw: ∀ b,E.S b->w'.heap[b]? =E.w.heap[b]?):(l:List T)->((y'=E.y\/E.y=none)\/T.gV l=true)->(vs:List Value)->bg E l vs->bg (E.at w' y') l vs
 |[],_,vs,h=>by simpa [bg] using h
 |t::ts,hn,vs,h=>by
  simp only[bg,T.gV,aD] at h hn ⊢;obtain⟨v,r,h1,h2,h3⟩:=h;refine⟨v,r,h1,?_,yQ hw ts (hn.imp id fun q=>q.2) _ h3⟩;rcases h2 with ⟨hk,cs,h4,h5⟩|⟨hk,h4⟩
  ·exact .inl ⟨hk,cs,h4,LC hw t (hn.imp id fun q=>q.1) _ h5⟩
  ·exact .inr ⟨hk,LC hw t (hn.imp id fun q=>q.1) _ h4⟩
theorem LD(hw: ∀ b,E.S b->w'.heap[b]? =E.w.heap[b]?):(l:List T)->(k:Nat)->((y'=E.y\/E.y=none)\/T.gV l=true)->(vs:List Value)->aJ E k l vs->aJ (E.at w' y') k l vs
 |[],_,_,vs,h=>by simp[aJ]
 |t::ts,k,hn,vs,h=>by
  simp only[aJ,T.gV,aD] at h hn ⊢;obtain⟨hk,h1,h0,h2,h3⟩:=h;exact⟨hk,h1,h0,LC hw t (hn.imp id fun q=>q.1) _ h2,LD hw ts k (hn.imp id fun q=>q.2) _ h3⟩
end
theorem ae2(hw: ∀ b,E.S b->w'.heap[b]? =E.w.heap[b]?): ∀ {l:List T} {es:List MapEntry},((y'=E.y\/E.y=none)\/T.gV l=true)->fK E l es->fK (E.at w' y') l es:=by
 intro l;induction l with
 |nil=>intro es _ h; exact h
 |cons t ts ih =>
  intro es hn h;simp only[fK,T.gV,aD] at h hn ⊢;obtain⟨n,u,e,r,rfl,h1,h2,h3,h4,h5,h6⟩:=h;refine⟨n,u,e,r,rfl,h1,h2,h3,h4,LC hw u (hn.imp id fun q=>?_) _ h5,ih (hn.imp id fun q=>q.2) h6⟩;have:=q.1;simp only[T.tV,T.gV,aD] at this;exact this.2.1
theorem uN.y{ob:Ob}{v:Value}(hw: ∀ b,E.S b->w'.heap[b]? =E.w.heap[b]?)(hn:(y'=E.y\/E.y=none)\/T.gV ob.l=true)(hg: ∀ g,rowB v=some g->w'.heap[g]? =E.w.heap[g]?)(h:uN E ob v):uN (E.at w' y') ob v:=by
 rcases h with ⟨hk,h|⟨g',c,cur,rfl,h1,h2,hh,h3,h4⟩⟩|⟨hk,g',es,cl,rfl,hh,h1⟩
 ·exact .inl ⟨hk,.inl h⟩
 ·exact .inl ⟨hk,.inr ⟨g',c,cur,rfl,h1,h2,(hg g' rfl).trans hh,h3,LD hw _ _ hn _ h4⟩⟩
 ·exact .inr ⟨hk,g',es,cl,rfl,(hg g' rfl).trans hh,ae2 hw hn h1⟩
end
section
variable {P:Program}
theorem qY.at{F F':Fr P}{E:Env}{w':World}{y':Option Yd}(hk:qY F E)(hsz:E.w.heap.size<=w'.heap.size)
  (h1: ∀ g,(E.S g\/(∃ i ob,E.h i=some ob/\rowB (E.φ i)=some g)\/(wZ P g).isSome=true)->w'.heap[g]? =E.w.heap[g]?)
  (h2: ∀ g,F' g->F g\/(E.w.heap.size<=g/\g<w'.heap.size)) (h3: ∀ g,(wZ P g).isSome=true->F g->F' g) (h4:Me (P:=P) F'.s (E.at w' y'))
  (hn:(y'=E.y\/E.y=none)\/ ∀ i ob,E.h i=some ob->T.gV ob.l=true):qY F' (E.at w' y'):=by
 refine⟨fun i ob hi=>?_,fun i ob g hi hg=>?_,hk.sep,fun g hg=>cU (hk.slt g hg) hsz,fun g hg=>?_,fun g hs hf=>?_,fun g cs hg=>?_,h4⟩
 ·obtain⟨k1,k2,k3⟩:=hk.obs i ob hi;exact⟨k1.y (fun b hb=>h1 b (.inl hb)) (hn.imp id fun q=>q i ob hi) (fun g hg=>h1 g (.inr (.inl ⟨i,ob,hi,hg⟩))),k2,k3⟩
 ·obtain⟨k1,k2⟩:=hk.out i ob g hi hg;refine⟨k1,fun hf=>?_⟩;rcases h2 g hf with hf|⟨hf,_⟩
  ·exact k2 hf
  ·have:=(hk.obs i ob hi).1.lt hg; omega
 ·rcases h2 g hg with hf|⟨_,hf⟩
  ·exact cU (hk.flt g hf) hsz
  ·exact hf
 ·rcases h2 g hf with hf|⟨hf,_⟩
  ·exact hk.sf g hs hf
  ·have:=hk.slt g hs; omega
 ·obtain⟨k1,ty,m,k2⟩:=hk.gl.1 g cs hg;exact⟨h3 g (by rw[hg]; rfl) k1,ty,m,(h1 g (.inr (.inr (by rw[hg]; rfl)))).trans k2⟩
theorem qY.other{F:Fr P}{E:Env}(hk:qY F E){l:Nat}{o:Obj}(hf:F l)(hl:E.w.heap[l]? =some o)(ho: ∀ cs ty m,o≠ .cells cs ty m){g:Nat}(hg:E.S g\/(∃ i ob,E.h i=some ob/\rowB (E.φ i)=some g)\/(wZ P g).isSome=true):g≠l:=by
 rintro rfl;rcases hg with hg|⟨i,ob,hi,hg⟩|hg
 ·exact hk.sf g hg hf
 ·exact(hk.out i ob g hi hg).2 hf
 ·obtain⟨cs,hc⟩:=am.1 hg;obtain⟨_,ty,m,h⟩:=hk.gl.1 g cs hc;rw[hl] at h;exact ho _ _ _ (Option.some.inj h)
theorem qY.put{F:Fr P}{E:Env}{y':Option Yd}(hk:qY F E){l:Nat}{o o':Obj}(hf:F l)(hl:E.w.heap[l]? =some o)(ho: ∀ cs ty m,o≠ .cells cs ty m)(h4:Me (P:=P) F.s (E.at (E.w.putObj l o') y'))
  (hn:(y'=E.y\/E.y=none)\/ ∀ i ob,E.h i=some ob->T.gV ob.l=true):qY F (E.at (E.w.putObj l o') y') :=
 hk.at (by simp) (fun g hg=>World.putObj_heap_other (hk.other hf hl ho hg)) (fun _ h=>.inl h) (fun _ _ h=>h) h4 hn
theorem aas{F:Nat->Prop}{E:Env}{w:World}:Me (P:=P) F (E.at w none):=fun p hp=>by cases hp
def vM:List T->List Nat->List T->List T
 |fr,[],_=>fr
 |fr,_::_,[]=>fr
 |fr,p::ps,t::ts=>vM (fr.set p t) ps ts
theorem acg{E:Env}: ∀ {ps:List Nat} {ts fr:List T} {vs tm:List Value},bg E ts vs->bg E fr tm->bg E (vM fr ps ts) ((ps.zip vs).foldl (fun t x=>t.set x.1 x.2) tm):=by
 intro ps;induction ps with
 |nil=>intro ts fr vs tm _ h; simp only[vM]; exact h
 |cons p ps ih =>
  intro ts fr vs tm h1 h2;cases ts with
  |nil=>simp only[bg] at h1; subst h1; simp only[vM]; exact h2
  |cons t ts =>
   rw[bQ] at h1;obtain⟨v,r,rfl,hv,hr⟩:=h1;simp only[vM]; exact ih hr (F6 h2 p hv)
theorem ach{M:Nat->Prop}: ∀ {ps:List Nat} {ts fr:List T},T.aO M ts->T.aO M fr->T.aO M (vM fr ps ts):=by
 intro ps;induction ps with
 |nil=>intro ts fr _ h; simp only[vM]; exact h
 |cons p ps ih =>
  intro ts fr h1 h2;cases ts with
  |nil=>simp only[vM]; exact h2
  |cons t ts=>simp only[vM]; exact ih h1.2 (xW h2 h1.1)
theorem ae3: ∀ {ps:List Nat} {vs:List Value} {tm:Array Value},((ps.zip vs).foldl (fun(t:Array Value) (x:Nat×Value)=>t.setIfInBounds x.1 x.2) tm).toList=(ps.zip vs).foldl (fun(t:List Value) (x:Nat×Value)=>t.set x.1 x.2) tm.toList:=by
 intro ps;induction ps with
 |nil=>intro vs tm; rfl
 |cons p ps ih =>
  intro vs tm;cases vs with
  |nil=>rfl
  |cons v vs=>simp only[List.zip_cons_cons,eB]; rw[ih,Array.toList_setIfInBounds]
structure FB(P:Program)(aa bb:aC)(ps:List Nat)(fr ts:List T)(h:Hp)(n:Nat)(post:T->Hp->Prop):Prop where
 nf:T.gV fr=true
 nt:T.gV ts=true
 nh: ∀ i ob,h i=some ob->T.gV ob.l=true
 len:ts.length=ps.length
 ne: ∃ h',post (.bool true) h'
 run: ∃ nx,T.aO (· <nx) fr/\T.aO (· <nx) ts/\pq (· <nx) h /\
  aw P aa (fun e s1=>e= .normal/\aw P bb (fun e s2=>e= .normal/\ ∃ s3,IJ s3 s2/\V8 h (fun i=>i=n) (fun t h'=>t= .dD []/\post (.bool true) h') [] s3) s1) ⟨vM fr ps ts,h,nx,nx⟩
def Uy(P:Program)(k:Nat)(ps:Array Tmp)(ca cb:Code):Prop:= ∃ fn c,P.funcs[k]? =some fn/\fn.body=some c/\rQ c=some (ps,ca,cb)
theorem FB.yield{k:Nat}{ps:Array Tmp}{ca cb:Code}{aa bb:aC}{fr ts:List T}{h:Hp}{n:Nat}{post:T->Hp->Prop}(FC:Uy P k ps ca cb)(ha:comp P ca=some aa)(hb:comp P cb=some bb)(H:FB P aa bb ps.toList fr ts h n post) :
  yD P (.fn (8192+k) fr) ts h n post:=by
 obtain⟨h',hpost⟩:=H.ne;refine⟨⟨_,_,hpost⟩,fun F M E v vs hk he hv hts aoj Aj hm hn p hp=>?_⟩;obtain⟨nx,i1,i2,i3,hrun⟩:=H.run;rw[aB rfl] at hv;simp only[aN] at hv;have anL:Nat.blt (8192+k) 8192=false:=by
  cases hq:Nat.blt (8192+k) 8192 with
  |false=>rfl
  |true=>have:=cF.mp hq; omega
 obtain⟨hpk,hfr⟩:p.k=k/\bg E fr p.r.tmps.toList:=by
  rcases hv with ⟨h0,_⟩|⟨_,p',hp',hpk,_,hfr⟩
  ·rw[anL] at h0; cases h0
  ·rw[hp] at hp'; cases hp'; exact⟨by omega,hfr⟩
 obtain⟨⟨hst,hpe⟩,⟨fn,c,q1,q2,q3⟩,hF,hheap⟩:=hk.gl.2 p hp;obtain⟨hps,hca,hcb⟩:p.r.params=ps/\p.r.assign=ca/\p.r.body=cb:=by
  obtain⟨fn',c',r1,r2,r3⟩:=FC;rw[hpk,r1] at q1; cases q1;rw[r2] at q2; cases q2;rw[r3] at q3; cases q3;exact⟨rfl,rfl,rfl⟩
 have hlen:=qw hts;have hl0:E.w.heap[p.l]? =some (.loop p.r):=hheap;have hnc: ∀ (r:Loop) cs ty m,Obj.loop r≠ .cells cs ty m:=fun _ _ _ _ q=>by cases q
 refine⟨p.r.fn,_,p.r.assign,p.r.body,run_yield hheap ?_,roundIn_of_wpIn trivial ?_⟩
 ·rw[hps,gh,hlen,H.len,bu]
 rw[hca,hcb];have hk0:qY (F.defs []) (E.at E.w none):=(hk.dl []).at (ba _) (fun _ _=>rfl) (fun _ h=>.inl h) (fun _ _ h=>h) aas (.inr fun i ob hi=>H.nh i ob (he▸hi));have R0:Rel (F.defs []) (· <nx) (E.at E.w none) ⟨vM fr ps.toList ts,h,nx,nx⟩ {tmps:=(p.r.params.zip vs.toArray).foldl (fun tmps (t,a)=>tmps.setIfInBounds t a) p.r.tmps,defers:=[]}:=by
  refine⟨hk0,he,?_,rfl,ach i2 i1,i3⟩;have e:((p.r.params.zip vs.toArray).foldl (fun tmps (t,a)=>tmps.setIfInBounds t a) p.r.tmps).toList=(ps.toList.zip vs).foldl (fun(t:List Value) (x:Nat×Value)=>t.set x.1 x.2) p.r.tmps.toList:=by
   rw[<- ae3,hps,<- Array.foldl_toList];simp
  show bg _ _ (Array.toList _);rw[e];exact acg (yQ (fun _ _=>rfl) ts (.inr H.nt) _ hts) (yQ (fun _ _=>rfl) fr (.inr H.nf) _ hfr)
 refine wpIn_mono (zV (E:=E.at E.w none) (some p.l) ca ha hrun (ba _) R0) ?_;rintro e a1 w1 ⟨ae,E1,s1,rfl,rfl,⟨rfl,hB⟩,R1,hpn,hle,hext,hs⟩;have hl1:E1.w.heap[p.l]? =some (.loop p.r):=(hext.w _ (.inr hF)).trans hl0;refine⟨_,run_beginRound hl1 hst,?_⟩;have hy1:E1.y=none:=hext.y;have hlt1:p.l<E1.w.heap.size:=(cm.1 hl1).1;have R2:Rel (F.defs []) (· <s1.nx) (E1.at (E1.w.putObj p.l (.loop {p.r with state:=.busy})) none) s1 a1:=by
  refine⟨R1.hk.put hF hl1 (hnc _) aas (.inl (.inr hy1)),R1.he,yQ (fun b hb=>World.putObj_heap_other (R1.hk.other hF hl1 (hnc _) (.inl hb))) _ (.inl (.inr hy1)) _ R1.fr,R1.df,R1.mf,R1.mh⟩
 refine wpIn_mono (zV (E:=E1.at (E1.w.putObj p.l (.loop {p.r with state:=.busy})) none) (some p.l) cb hb hB (by rw[hpn]; exact hle) R2) ?_;rintro e a3 w3 ⟨ae,E3,s2,rfl,rfl,⟨rfl,s3,hN,hret⟩,R3,amw,hle3,ajA,hs3⟩;obtain⟨E4,hw4,R4,hx4,hs4,hp4,_⟩:=hN.sound R3 (by rw[amw]; exact hle3);have hl3:E4.w.heap[p.l]? =some (.loop {p.r with state:=.busy}):=by
  rw[hw4,ajA.w _ (.inr hF)]; exact World.putObj_heap_same hlt1
 refine⟨_,_,run_endRound none (by rw[<- hw4]; exact hl3),?_⟩;have anM:p.l<E.w.heap.size:=(cm.1 hl0).1;have hx:Ext (F.defs []) ((E.at E.w none).at (E.w.putObj p.l (.loop {p.r with state:=.busy})) none) E4:=by
  have hz:=ajA.trans hx4;refine⟨fun g hg=>hz.s g (hext.s g hg),fun g hg=>?_,?_,hz.os.trans hext.os,hz.tape.trans hext.tape,hz.output.trans hext.output,di hext.dr hz.dr,hz.y⟩
  ·rw[hz.w g (hg.imp (hext.s g) id)];by_cases e:g=p.l
   ·subst e;show(E1.w.putObj p.l _).heap[p.l]? =(E.w.putObj p.l _).heap[p.l]?;rw[World.putObj_heap_same hlt1,World.putObj_heap_same anM]
   ·show(E1.w.putObj p.l _).heap[g]? =(E.w.putObj p.l _).heap[g]?;rw[World.putObj_heap_other e,World.putObj_heap_other e];exact hext.w g hg
  ·have h1:=hz.size;have h2:=hext.size;simp only[World.putObj_size] at h1 ⊢;exact di h2 h1
 have hsm:Same ((E.at E.w none).at (E.w.putObj p.l (.loop {p.r with state:=.busy})) none) E4 (· <nx):=by
  have h1:Same (E1.at (E1.w.putObj p.l (.loop {p.r with state:=.busy})) none) E4 (· <nx):=by
   have h3:=hs3.trans hs4 (M':=(· <s3.pin)) fun i hi=>by rw[hp4,amw]; exact hi
   exact h3.weaken fun i hi=>by rw[hpn]; exact hi
  intro i hi hsome;obtain⟨g1,g2,g3⟩:=h1 i hi hsome;obtain⟨f1,f2,f3⟩:=hs i hi g1;exact⟨f1,g2.trans f2,g3.trans f3⟩
 obtain⟨v5,_,v6,t6,E5,hv6,hw5,⟨ht6,akT⟩,_,hk5,hx5,hs5,_,anN⟩:=hret.ends (fn:= {(default:Func) with results:= #[]}) (E:=(E.at E.w none).at (E.w.putObj p.l (.loop {p.r with state:=.busy})) none) (M:=M) rfl i3 (he▸hm) (fun i hi (e:i=n)=>hn (e▸hi)) R4 hx hsm;have hl5:E5.w.heap[p.l]? =some (.loop {p.r with state:=.busy}):=by rw[hw5]; exact hl3
 have amx:p.l<E5.w.heap.size:=(cm.1 hl5).1;have hrec:({{p.r with state:=LoopState.busy} with state:=.ready,pending:=none}:Loop)=p.r:=by
  have h1:=hst; have h2:=hpe;cases hr:p.r;rw[hr] at h1 h2;simp only at h1 h2;rw[h1,h2]
 have hy5:E5.y=none:=hx5.y;have hw6:E3.w=E5.w:=by rw[hw5,hw4]
 refine⟨.bool true,.bool true,E5.at (E5.w.putObj p.l (.loop p.r)) (some p),rfl,?_,akT,by rw[aQ],?_,?_,?_,by simp[T.ids],anN⟩
 ·show E5.w.putObj p.l (.loop p.r)=_;rw[hw6];simp only[Option.isNone_none,cn];rw[hrec]
 ·refine(hk5.YJ).put hF hl5 (hnc _) (fun q hq=>?_) (.inl (.inr hy5));cases hq;exact⟨⟨hst,hpe⟩,⟨fn,c,q1,q2,q3⟩,hF,World.putObj_heap_same amx⟩
 ·refine⟨hx5.s,fun g hg=>?_,?_,hx5.os,hx5.tape,hx5.output,hx5.dr,hp.symm⟩
  ·by_cases e:g=p.l
   ·subst e; show(E5.w.putObj p.l _).heap[p.l]? =_; rw[World.putObj_heap_same amx,hl0]
   ·show(E5.w.putObj p.l _).heap[g]? =_;rw[World.putObj_heap_other e,hx5.w g hg];exact World.putObj_heap_other e
  ·have:=hx5.size;simp only[World.putObj_size] at this ⊢;exact this
 ·exact fun i hi hsome=>hs5 i hi hsome
end
section
variable {P:Program}
structure Site where
 g:Nat
 ps:Array Tmp
 ca:Code
 cb:Code
 aa:aC
 bb:aC
def FD(P:Program):Code->Option (aC×Site×aC)
 | .seq x y=>match FD P x with
  |some (a,i,b)=>(comp P y).map fun y'=>(a,i,.seq b y')
  |none=>match comp P x,FD P y with
   |some x',some (a,i,b)=>some (.seq x' a,i,b)
   |_,_=>none
 | .block _ (.rangeFunc (.tmp g) ps ca cb)=>match comp P ca,comp P cb with
  |some aa,some bb=>some (.skip,⟨g,ps,ca,cb,aa,bb⟩,.skip)
  |_,_=>none
 |_=>none
theorem aci: ∀ (c:Code) {ac:aC},comp P c=some ac->rQ c=none:=by
 intro c;induction c with
 |seq x y ihx ihy =>
  intro ac h;simp only[comp] at h;split at h
  ·rename_i h1 h2;simp only[rQ,ihx h1,ihy h2]
  ·cases h
 |cond c x y ihx ihy =>
  intro ac h;simp only[comp] at h;split at h
  ·rename_i h1 h2;simp only[rQ,ihx h1,ihy h2]
  ·cases h
 |block id b ih =>
  intro ac h;simp only[comp,be] at h;obtain⟨b',h1,_⟩:=h;simp only[rQ,ih h1]
 |loop b ih =>
  intro ac h;simp only[comp,be] at h;obtain⟨b',h1,_⟩:=h;simp only[rQ,ih h1]
 |rangeFunc f ps x y=>intro ac h; cases h
 |scope b ih=>intro ac h; cases h
 |_=>intro ac _; rfl
theorem Y8: ∀ (c:Code) {a b:aC} {i:Site},FD P c=some (a,i,b)->rQ c=some (i.ps,i.ca,i.cb)/\comp P i.ca=some i.aa/\comp P i.cb=some i.bb:=by
 intro c;induction c with
 |seq x y ihx ihy =>
  intro a b i h;simp only[FD] at h;split at h
  ·rename_i hx;simp only[be,fe] at h;obtain⟨y',_,rfl,rfl,rfl⟩:=h;obtain⟨q1,q2⟩:=ihx hx;exact⟨by simp only[rQ,q1],q2⟩
  ·split at h
   ·rename_i h1 h2;cases h;obtain⟨q1,q2⟩:=ihy h2;exact⟨by simp only[rQ,aci _ h1,q1],q2⟩
   ·cases h
 |block id b ih =>
  intro a b' i h;cases b with
  |rangeFunc g ps ca cb =>
   cases g with
   |tmp g =>
    simp only[FD] at h;split at h
    ·rename_i h1 h2;cases h;exact⟨rfl,h1,h2⟩
    ·cases h
   |_=>cases h
  |_=>cases h
 |_=>intro a b i h; cases h
def Fr.mark(F:Fr P)(D:Nat):Fr P:= {s:=fun g=>F g\/g=D,dl:=[{target:=.collected D,args:= #[]}]}
def aat(P:Program)(k:Nat)(i:Site)(K:AS->Prop)(s:AS):Prop :=
 ∃ (Ve:List T) (gf:FuncId) (cap:List T) (KH:Hp->Prop),
  T.dY (fun _=>False) s.hp Ve s.fr/\T.gV Ve=true/\T.aO (· <s.nx) Ve/\(∀ i ob,s.hp i=some ob->T.gV ob.l=true)/\s.ev (.t i.g)= .fn gf cap/\gf<4096/\T.gV cap=true /\
  ((∀ ts h n post,FB P i.aa i.bb i.ps.toList Ve ts h n post->yD P (.fn (8192+k) Ve) ts h n post)->aP P gf (.fn (8192+k) Ve::cap) s.hp s.nx fun _ h'=>KH h') /\
  ∀ h',KH h'->(∀ i ob,h' i=some ob->T.gV ob.l=true)/\K ⟨Ve,h',s.nx+1,s.pin⟩
def ajB(F:Fr P)(E:Env)(pn:Nat)(Q:qL->AS->Prop)(e:Exit)(a':Act)(w':World):Prop :=
 ∃ D,E.w.heap.size<=D/\ ∃ ae E' s',e=YC ae/\E'.w=w'/\Q ae s'/\Rel (F.mark D) (· <s'.nx) E' s' a'/\s'.pin=pn/\pn<=s'.nx/\Ext F E E'/\Same E E' (· <pn)/\E'.w.heap[D]? =some (.deferred (some []))
theorem ae4{E:Env}: ∀ {l:List T} {vs:List Value},aX E l vs->bg E l vs:=by
 intro l;induction l with
 |nil=>intro vs h; simp[aX] at h; subst h; simp[bg]
 |cons t ts ih =>
  intro vs h;simp only[aX] at h;obtain⟨hk,v,r,rfl,_,h1,h2⟩:=h;rw[bQ]; exact⟨v,r,rfl,.inr ⟨hk,h1⟩,ih h2⟩
theorem akU{F:Fr P}{E:Env}(hk:qY F E){Ve fr:List T}{vs:List Value}(hs:T.dY (fun _=>False) E.h Ve fr)(h:bg E fr vs):bg E Ve vs:=by
 have:=sO hk (Z:=fun _=>False) _ _ hs _ h;refine jd (E:=E.shut fun _=>False) (E':=E) _ (fun _=>True) ⟨fun b hb=>?_,fun _ _=>rfl,fun i _ hi=>⟨?_,rfl,rfl⟩,rfl⟩ (xu _) _ this
 ·rcases hb with hb|⟨_,_,hf,_⟩
  ·exact hb
  ·exact hf.elim
 ·rw[yM (fun h=>h)]; exact hi
theorem ah1{F:Fr P}{E:Env}{s:AS}{a:Act}{k:Nat}{i:Site}(FC:Uy P k i.ps i.ca i.cb)(ha:comp P i.ca=some i.aa)(hb:comp P i.cb=some i.bb){Q:qL->AS->Prop}(hp:s.pin<=s.nx)(hdl:F.dl=[])(R:Rel F (· <s.nx) E s a)
  (H:aat P k i (Q .normal) s):(Code.rangeFunc (.tmp i.g) i.ps i.ca i.cb).wpIn Fence.wide 0 P (ajB F E s.pin Q) a E.w:=by
 obtain⟨Ve,gf,cap,KH,hsub,hnf,hif,hnh,hg,hgf,hncap,hIt,hKH⟩:=H;have hfr:bg E Ve a.tmps.toList:=akU R.hk (R.he▸hsub) R.fr;have hev:=bY R (x:=.tmp i.g) rfl;have hei:=mX R (x:=.tmp i.g) rfl;rw[hg] at hev hei;rw[aB rfl] at hev;simp only[aN] at hev;obtain⟨cs,hav,hcs⟩: ∃ cs:Array Value,a.eval (.tmp i.g)= .func (.func gf) #[] cs/\aX E cap cs.toList:=by
  rcases hev with ⟨_,cs,h1,h2⟩|⟨h0,_⟩
  ·refine⟨cs,?_,h2⟩;simp only[eI,and_true] at h1;rw[h1,OB hgf]
  ·rw[cF.mpr (Nat.lt_trans hgf (by decide))] at h0; cases h0
 refine wpIn_rangeFunc fun fn _=>?_
 obtain⟨D,hD⟩: ∃ D,E.w.heap.size=D:=⟨_,rfl⟩
 obtain⟨rc,hrc⟩: ∃ rc:Loop,rc= {state:=.ready,pending:=none,fn:=fn,tmps:=a.tmps,params:=i.ps,assign:=i.ca,body:=i.cb,defers:=E.w.heap.size}:=⟨_,rfl⟩
 obtain⟨W1,hW1⟩: ∃ W1,(E.w.alloc (.deferred (some []))).alloc (.loop rc)=W1:=⟨_,rfl⟩
 have hsz:W1.heap.size=D+2:=by rw[<- hW1,<- hD]; simp
 have hL1:W1.heap[D+1]? =some (.loop rc):=by
  rw[<- hW1,<- hD]; have:=World.alloc_heap_new (E.w.alloc (.deferred (some []))) (.loop rc); rwa [World.size_alloc] at this
 have hK1:W1.heap[D]? =some (.deferred (some [])):=by
  rw[<- hW1,<- hD]; exact(iU _ _ (by simp)).trans (World.alloc_heap_new E.w _)
 have hold: ∀ g,g<D->W1.heap[g]? =E.w.heap[g]? :=fun g hg=>by
  rw[<- hW1];exact(iU _ _ (by simp; omega)).trans (iU _ _ (by omega))
 have hours: ∀ g,(E.S g\/(∃ i ob,E.h i=some ob/\rowB (E.φ i)=some g)\/(wZ P g).isSome=true)->g<D:=fun g hg=>by
  rw[<- hD];rcases hg with hg|⟨j,ob,hj,hg⟩|hg
  ·exact R.hk.slt g hg
  ·exact(R.hk.obs j ob hj).1.lt hg
  ·obtain⟨c,hc⟩:=am.1 hg;exact R.hk.flt g (R.hk.gl.1 g c hc).1
 let p:Yd:=⟨D+1,rc,k⟩
 let F1:Fr P:= {s:=fun g=>F g\/g=D\/g=D+1}
 have hk1:qY F1 (E.at W1 (some p)):=by
  refine R.hk.at (by omega) (fun g hg=>hold g (hours g hg)) (fun g hg=>?_) (fun g _ h=>.inl h) (fun q hq=>?_) (.inr fun j ob hj=>hnh j ob (R.he▸hj))
  ·rcases hg with hg|rfl|rfl
   ·exact .inl hg
   ·exact .inr ⟨by omega,by omega⟩
   ·exact .inr ⟨by omega,by omega⟩
  ·cases hq;obtain⟨f0,c0,q1,q2,q3⟩:=FC;refine⟨⟨by show rc.state=_; rw[hrc],by show rc.pending=_; rw[hrc]⟩,⟨f0,c0,q1,q2,?_⟩,.inr (.inr rfl),hL1⟩;show _=some (rc.params,rc.assign,rc.body);rw[q3,hrc]
 have hrep:bg (E.at W1 (some p)) (.fn (8192+k) Ve::cap) (.func (.yield (D+1)) #[] #[]::cs.toList):=by
  rw[bQ];refine⟨_,_,rfl,?_,yQ (fun b hb=>hold b (hours b (.inl hb))) cap (.inr hncap) _ (ae4 hcs)⟩;rw[aB rfl];simp only[aN];refine .inr ⟨?_,p,rfl,gR _ _,rfl,?_⟩
  ·cases hq:Nat.blt (8192+k) 8192 with
   |false=>rfl
   |true=>have:=cF.mp hq; omega
  ·show bg _ Ve rc.tmps.toList;rw[hrc];exact yQ (fun b hb=>hold b (hours b (.inl hb))) Ve (.inr hnf) _ hfr
 obtain⟨_,hcl,hcall⟩:=hIt fun ts h n post hr=>hr.yield FC ha hb
 have ae5:=hcall F1 (· <s.nx) (E.at W1 (some p)) _ hk1 R.he hrep ⟨by simpa [T.ids] using hif,by simpa [T.ids] using hei⟩ R.mh (gw _);refine⟨D+1,[{target:=.collected D,args:= #[]}],W1,{target:=.fn (.func gf) cs,args:= #[.func (.yield (D+1)) #[] #[]]},W1,gf,#[.func (.yield (D+1)) #[] #[]]++cs,W1,?_,?_,fun _ _=>trivial,?_,(fun q=>by cases q),callsIn_wide.2 ?_⟩
 ·have:=run_enterLoop_outer (P:=P) (w:=E.w) fn a.tmps i.ps i.ca i.cb;rw[<- hrc,hW1,hD] at this;exact this
 ·simp only[resolve,hav];simp[go_sem]
 ·simp only[invoke];exact hcl _ _
 ·have e2:(Value.func (.yield (D+1)) #[] #[]::cs.toList).toArray= #[.func (.yield (D+1)) #[] #[]]++cs:=by
   apply gk; simp
  rw[e2] at ae5;refine ae5.mono ?_;rintro e w2 ⟨v,t,E2,rfl,rfl,anO,_,hk2,hx2,hs2,_,hm2⟩;have hl2:E2.w.heap[D+1]? =some (.loop rc):=(hx2.w _ (.inr (.inr (.inr rfl)))).trans hL1;have hno: ∀ g,(E2.S g\/(∃ i ob,E2.h i=some ob/\rowB (E2.φ i)=some g)\/(wZ P g).isSome=true)->g≠D+1:=fun g hg=>hk2.other (.inr (.inr rfl)) hl2 (fun _ _ _ q=>by cases q) hg
  obtain⟨anP,hQ⟩:=hKH _ anO;have amy:rc.pending=none:=by rw[hrc]
  have hend:(Instr.endLoop (D+1)).run P E2.w= .ok none (E2.w.putObj (D+1) (.loop {rc with state:=.exhausted})):=(run_endLoop (P:=P) hl2 (by rw[hrc]; simp)).trans (by rw[amy]);refine⟨none,_,hend,?_⟩;have hch: ∀ g,E.S g\/F g->(E2.w.putObj (D+1) (.loop {rc with state:=.exhausted})).heap[g]? =E.w.heap[g]? :=fun g hg=>by
   have hlt:g<D:=by
    rw[<- hD];rcases hg with hg|hg
    ·exact R.hk.slt g hg
    ·exact R.hk.flt g hg
   rw[World.putObj_heap_other (by omega),hx2.w g (hg.imp id .inl)];exact hold g hlt
  have hx3:Ext F E (E2.at (E2.w.putObj (D+1) (.loop {rc with state:=.exhausted})) E.y):=by
   refine⟨fun g hg=>hx2.s g hg,hch,?_,?_,?_,?_,?_,rfl⟩
   ·have:=hx2.size;show E.w.heap.size<=(E2.w.putObj _ _).heap.size;rw[World.putObj_size];have h2:W1.heap.size<=E2.w.heap.size:=this;omega
   ·show E2.w.os=_; rw[hx2.os]; show W1.os=_; rw[<- hW1]; rfl
   ·show E2.w.tape=_; rw[hx2.tape]; show W1.tape=_; rw[<- hW1]; rfl
   ·show E2.w.output=_; rw[hx2.output]; show W1.output=_; rw[<- hW1]; rfl
   ·refine di ?_ hx2.dr;show _<=W1.drawn;rw[<- hW1]; exact ba _
  have hs3:Same E (E2.at (E2.w.putObj (D+1) (.loop {rc with state:=.exhausted})) E.y) (· <s.nx):=fun j hj hsome=>hs2 j hj hsome
  have hconv: ∀ j,(j<s.nx\/j=s.nx)->j<s.nx+1:=fun j hj=>by omega
  refine⟨D,by omega,.normal,E2.at (E2.w.putObj (D+1) (.loop {rc with state:=.exhausted})) E.y,⟨Ve,E2.h,s.nx+1,s.pin⟩,rfl,rfl,hQ,⟨?_,rfl,?_,?_,?_,?_⟩,rfl,?_,hx3,hs3.weaken fun j hj=>?_,?_⟩
  ·refine hk2.at (by simp) (fun g hg=>World.putObj_heap_other (hno g hg)) (fun g hg=>.inl (hg.imp id .inl)) (fun g hg h=>?_) ?_ (.inr anP)
   ·rcases h with h|h|h
    ·exact .inl h
    ·exact .inr h
    ·exact absurd h (hno g (.inr (.inr hg)))
   ·exact R.hk.gl.2.of (E:=E) (fun _ h=>.inl h) (fun g hg=>hch g (.inr hg)) rfl
  ·exact jd _ _ (.of hx3 hs3) hif _ hfr
  ·show [_]++a.defers=_;rw[R.df,hdl]; rfl
  ·exact T.aA (fun j (hj:j<s.nx)=>by show j<s.nx+1; omega) _ hif
  ·exact fun j ob hj=>⟨hconv j (hm2 j ob hj).1,T.aA hconv _ (hm2 j ob hj).2⟩
  ·show s.pin<=s.nx+1; omega
  ·show j<s.nx; have:j<s.pin:=hj; omega
  ·show(E2.w.putObj (D+1) _).heap[D]? =_;rw[World.putObj_heap_other (by omega),hx2.w D (.inr (.inr (.inl rfl)))];exact hK1
theorem ae6{F:Fr P}{k:Nat}(hdl:F.dl=[]): ∀ (c:Code) {a b:aC} {i:Site},FD P c=some (a,i,b)->Uy P k i.ps i.ca i.cb-> ∀ {Q:qL->AS->Prop} {E:Env} {s:AS} {act:Act},s.pin<=s.nx->Rel F (· <s.nx) E s act ->
  aw P a (fun e s'=>e= .normal/\aat P k i (fun s''=>aw P b Q s'') s') s->c.wpIn Fence.wide 0 P (ajB F E s.pin Q) act E.w:=by
 intro c;induction c with
 |seq x y ihx ihy =>
  intro a b i hc FC Q E s act hle R H;simp only[FD] at hc;split at hc
  ·rename_i a1 i1 b1 hx;simp only[be,fe] at hc;obtain⟨y',hy,rfl,rfl,rfl⟩:=hc;refine wpIn_seq (wpIn_mono (ihx hx FC (Q:=fun e s=>match e with| .normal=>aw P y' Q s|e=>Q e s) hle R H) ?_);rintro e a' w' ⟨D,hD,ae,E',s',rfl,rfl,hQ,R',hpn,hle',hext,hs,hDh⟩;cases ae with
   |normal =>
    refine wpIn_mono (zV none y hy hQ (by rw[hpn]; exact hle') R') ?_;rintro e a2 w2 ⟨ae,E2,s2,rfl,rfl,hQ2,R2,ae7,hle2,FH,hs2⟩;rw[hpn] at ae7 hle2 hs2;refine⟨D,hD,ae,E2,s2,rfl,rfl,hQ2,R2,ae7,hle2,hext.trans ⟨FH.s,fun g hg=>FH.w g (hg.imp id .inl),FH.size,FH.os,FH.tape,FH.output,FH.dr,FH.y⟩,hs.trans hs2 fun _ h=>h,?_⟩;rw[FH.w D (.inr (.inr rfl))]; exact hDh
   |exit id=>exact⟨D,hD,.exit id,E',s',rfl,rfl,hQ,R',hpn,hle',hext,hs,hDh⟩
   |ret=>exact⟨D,hD,.ret,E',s',rfl,rfl,hQ,R',hpn,hle',hext,hs,hDh⟩
  ·split at hc
   ·rename_i x' a1 i1 b1 h1 h2;cases hc;simp only[aw] at H;refine wpIn_seq (wpIn_mono (zV none x h1 H hle R) ?_);rintro e a' w' ⟨ae,E',s',rfl,rfl,hQ,R',hpn,hle',hext,hs⟩;cases ae with
    |normal =>
     refine wpIn_mono (ihy h2 FC (Q:=Q) (by rw[hpn]; exact hle') R' hQ) ?_;rintro e a2 w2 ⟨D,hD,ae,E2,s2,rfl,rfl,hQ2,R2,ae7,hle2,FH,hs2,hDh⟩;rw[hpn] at ae7 hle2 hs2;exact⟨D,di hext.size hD,ae,E2,s2,rfl,rfl,hQ2,R2,ae7,hle2,hext.trans FH,hs.trans hs2 fun _ h=>h,hDh⟩
    |exit id=>exact absurd hQ.1 (by simp)
    |ret=>exact absurd hQ.1 (by simp)
   ·cases hc
 |block id b ih =>
  intro a b' i hc FC Q E s act hle R H;cases b with
  |rangeFunc g ps ca cb =>
   cases g with
   |tmp g =>
    simp only[FD] at hc;split at hc
    ·rename_i h1 h2;cases hc;simp only[aw] at H;refine wpIn_block (wpIn_mono (ah1 (i:=⟨g,ps,ca,cb,_,_⟩) FC h1 h2 (Q:=fun e s=>e= .normal/\Q .normal s) hle hdl R ?_) ?_)
     ·obtain⟨Ve,gf,cap,KH,q1,q2,q3,q4,q5,q6,q7,q8,q9⟩:=H.2;exact⟨Ve,gf,cap,KH,q1,q2,q3,q4,q5,q6,q7,q8,fun h' hk=>⟨(q9 h' hk).1,rfl,(q9 h' hk).2⟩⟩
     ·rintro e a' w' ⟨D,hD,ae,E',s',rfl,rfl,⟨rfl,hQ⟩,R',hpn,hle',hext,hs,hDh⟩;exact⟨D,hD,.normal,E',s',rfl,rfl,hQ,R',hpn,hle',hext,hs,hDh⟩
    ·cases hc
   |_=>cases hc
  |_=>cases hc
 |_=>intro a b i hc; cases hc
theorem aP.ae8{f:FuncId}{fn:Func}{c:Code}{a b:aC}{i:Site}{rs:List RV}{ts:List T}{h:Hp}{n nx nt:Nat}{post:T->Hp->Prop}(hf:P.funcs[f]? =some fn)(hb:fn.body=some c)(hc:FD P c=some (a,i,b))
  (hr:nO P fn.results.toList=some rs) (hcl:callable P f) (hnt:fn.ntmps=nt) (hin: ∃ t h',post t h') (hts:T.aO (· <nx) ts) (hh:pq (· <nx) h)
  (H:aw P a (fun e s'=>e= .normal/\aat P f i (fun s''=>aw P b (Done h n post rs) s'') s') ⟨ts++List.replicate (nt-ts.length) T.un,h,nx,nx⟩):aP P f ts h n post:=by
 refine⟨hin,hcl,fun F M E vs hk he hrep _ hm hn=>callsIn_wide.1 (callsIn_of_wp_marks (F:=Fence.wide) (n:=0) hf hb trivial ?_)⟩;subst hnt;have FC:Uy P f i.ps i.ca i.cb:=⟨fn,c,hf,hb,(Y8 c hc).1⟩
 refine wpIn_mono (ae6 (F:=F.defs []) rfl c hc FC (Q:=Done h n post rs) (ba _) (Rel.enter rfl (hk.dl []) he hrep hts hh) H) ?_;rintro e a' w' ⟨D,hD,ae,E',s',rfl,rfl,hQ,R',hpn,hle,hext,hs,hDh⟩;have key:(∃ s1,IJ s1 s'/\Ret h n post rs s1)->LeavesInM Fence.wide 0 P fn a'.tmps (Ends F M E n post) a'.defers .returning E'.w:=by
  rintro⟨s1,hN,hret⟩;obtain⟨E1,hw1,R1,hx1,hs1,hp1,_⟩:=hN.sound R' (by rw[hpn]; exact hle);have hdf:a'.defers=[{target:=.collected D,args:= #[]}]:=R'.df;rw[hdf];refine⟨by simp,.inl ⟨D,_,rfl,run_takeDeferred hDh,?_⟩⟩;rw[<- hw1];have hD1:E1.w.heap[D]? =some (.deferred (some [])):=by rw[hw1]; exact hDh
  have hno: ∀ g,(E1.S g\/(∃ i ob,E1.h i=some ob/\rowB (E1.φ i)=some g)\/(wZ P g).isSome=true)->g≠D:=fun g hg=>R1.hk.other (.inr rfl) hD1 (fun _ _ _ q=>by cases q) hg
  have anQ: ∀ g,E.S g\/F g->g≠D:=fun g hg e=>by
   subst e;rcases hg with hg|hg
   ·have:=hk.slt _ hg; omega
   ·have:=hk.flt _ hg; omega
  have R7:Rel (F.defs []) (· <s1.nx) (E1.at (E1.w.putObj D (.deferred none)) E1.y) s1 {tmps:=a'.tmps,defers:=[]}:=by
   refine⟨R1.hk.at (by simp) (fun g hg=>World.putObj_heap_other (hno g hg)) (fun g hg=>.inl (.inl hg)) (fun g hg h=>?_) (fun q hq=>?_) (.inl (.inl rfl)),R1.he,yQ (fun b hb=>World.putObj_heap_other (hno b (.inl hb))) _ (.inl (.inl rfl)) _ R1.fr,rfl,R1.mf,R1.mh⟩
   ·rcases h with h|h
    ·exact h
    ·exact absurd h (hno g (.inr (.inr hg)))
   ·obtain⟨h0,h1,h2,h3⟩:=R1.hk.gl.2 q hq;have hne:q.l≠D:=fun e=>by rw[e,hD1] at h3; cases h3
    rcases h2 with h2|h2
    ·exact⟨h0,h1,h2,(World.putObj_heap_other hne).trans h3⟩
    ·exact absurd h2 hne
  have hx7:Ext (F.defs []) E (E1.at (E1.w.putObj D (.deferred none)) E1.y):=by
   refine⟨fun g hg=>hx1.s g (hext.s g hg),fun g hg=>?_,?_,hx1.os.trans hext.os,hx1.tape.trans hext.tape,hx1.output.trans hext.output,di hext.dr hx1.dr,hx1.y.trans hext.y⟩
   ·show(E1.w.putObj D _).heap[g]? =_;rw[World.putObj_heap_other (anQ g hg),hx1.w g (hg.imp (hext.s g) .inl),hext.w g hg]
   ·show _<=(E1.w.putObj D _).heap.size;rw[World.putObj_size];exact di hext.size hx1.size
  have hs7:Same E (E1.at (E1.w.putObj D (.deferred none)) E1.y) (· <nx):=by
   have:=hs.trans hs1 (M':=(· <s1.pin)) fun j hj=>by rw[hp1,hpn]; exact hj
   exact fun j hj hsome=>this j hj hsome
  obtain⟨v,hrun,amA⟩:=hret.ends (M:=M) hr hh hm (fun j hj (e:j=n)=>hn (e▸hj)) R7 hx7 hs7;exact⟨v,hrun,GY.YJ (N:=fun i=>i=n) amA⟩
 cases ae with
 |normal=>exact key hQ
 |ret=>exact key hQ
 |exit id=>exact hQ.elim
end
mutual
def V.tV:V->Bool
 | .fn f l=>Nat.blt f 8192&&V.gV l
 | .agg l=>V.gV l
 | .dD l=>V.gV l
 | .Am _ _ l=>V.gV l
 | .ref _ v=>V.tV v
 | .cnd _ _=>false
 | .raw t=>T.tV t
 |_=>true
def V.gV:List V->Bool
 |[]=>true
 |v::r=>V.tV v&&V.gV r
end
theorem gY{α:Type}{f:α->T}(h: ∀ x,(f x).tV=true): ∀ l:List α,T.gV (l.map f)=true:=by
 intro l;induction l with
 |nil=>rfl
 |cons x r ih=>simp only[bl,T.gV,h x,ih,fI]
theorem wJ(l:List Int):T.gV (l.map T.int)=true:=gY (fun _=>rfl) l
theorem Px(l:List Int):(Go.Ab.ints l).tV=true:=wJ l
theorem aau(x:DR):(QJ x).tV=true:=by simp[QJ,T.tV,T.gV]
theorem WM(x:Rule):(Jw x).tV=true:=by
 simp[Jw,eS,T.tV,T.gV,wJ,gY aau]
theorem Dat.tV(d:Dat):d.aI.tV=true:=by
 cases d with
 |lin x=>simp[Dat.aI,QI,T.tV,T.gV]
 |Vd x=>exact aau x
 |rule x=>exact WM x
 |fM x=>simp[Dat.aI,Z5,eS,T.tV,T.gV,wJ,gY (f:=eS) (fun _=>rfl),gY (f:=QI) (fun x=>by simp[QI,T.tV,T.gV]),gY WM]
 |cnt x=>simp[Dat.aI,QK,T.tV,T.gV,wJ]
 |prop x=>simp[Dat.aI,aeo,eS,T.tV,T.gV,wJ,gY (f:=QK) (fun x=>by simp[QK,T.tV,T.gV,wJ])]
 |clause x=>simp[Dat.aI,Jy,T.tV,T.gV,wJ,gY Px]
 |elem x=>simp[Dat.aI,jK,T.tV,T.gV,wJ]
theorem Rw.tV(r:Rw):T.gV r.aS=true:=by
 cases r with
 |ints l=>exact wJ l
 |bools l=>exact gY (fun _=>rfl) l
 |strs l=>exact gY (fun _=>rfl) l
 |eF l=>exact gY Px l
 |qy l=>exact gY (f:=aer) (fun l=>gY (f:=T.bool) (fun _=>rfl) l) l
 |qA l=>exact gY (f:=aes) (fun l=>gY (f:=Go.Ab.ints) Px l) l
 |Es l=>exact gY (fun x=>Dat.tV (.lin x)) l
 |uT l=>exact gY (fun x=>Dat.tV (.Vd x)) l
 |rules l=>exact gY (fun x=>Dat.tV (.rule x)) l
 |cnts l=>exact gY (fun x=>Dat.tV (.cnt x)) l
 |clauses l=>exact gY (fun x=>Dat.tV (.clause x)) l
 |elems l=>exact gY (fun x=>Dat.tV (.elem x)) l
 |nil=>rfl
mutual
theorem V.Ip:(v:V)->v.tV=true->v.aI.tV=true
 | .int _,_=>rfl
 | .bool _,_=>rfl
 | .u8 _,_=>rfl
 | .str _,_=>rfl
 | .dat d,_=>d.tV
 | .agg l,h=>by simp only[V.tV,V.aI,T.tV] at h ⊢; exact V.xM l h
 | .row _ _ r,_=>r.tV
 | .Am _ _ l,h=>by simp only[V.tV,V.aI,T.tV] at h ⊢; exact V.xM l h
 | .ref _ v,h=>by simp only[V.tV,V.aI,T.tV] at h ⊢; exact V.Ip v h
 | .own _,_=>rfl
 | .inn _,_=>rfl
 | .pin _ _ _,_=>rfl
 | .ptr _ _ _,_=>rfl
 | .rG _ _ _,_=>rfl
 | .fn f l,h=>by
  simp only[V.tV,V.aI,T.tV,aD] at h ⊢;exact⟨h.1,V.xM l h.2⟩
 | .dD l,h=>by simp only[V.tV,V.aI,T.tV] at h ⊢; exact V.xM l h
 | .cnd _ _,h=>by cases h
 | .raw t,h=>h
theorem V.xM:(l:List V)->V.gV l=true->T.gV (V.aS l)=true
 |[],_=>rfl
 |v::r,h=>by
  simp only[V.gV,V.aS,T.gV,aD] at h ⊢;exact⟨V.Ip v h.1,V.xM r h.2⟩
end
def OV.tV:OV->Bool
 | .row _ _ _ x=>V.gV x
 | .box _ _ v=>v.tV
 | .map _ _ x=>x.all fun e=>e.2.tV
 | .smap _ _=>true
 | .gen _ _ x=>V.gV x
theorem WO{a b:List T}(h1:T.gV a=true)(h2:T.gV b=true):T.gV (a++b)=true:=by
 induction a with
 |nil=>exact h2
 |cons t r ih=>simp only[T.gV,aD,cj] at h1 ⊢; exact⟨h1.1,ih h1.2⟩
theorem OV.Ip{o:OV}(h:o.tV=true):T.gV o.au.l=true:=by
 cases o with
 |row ty k r x=>exact WO r.tV (V.xM x h)
 |box ty k v =>
  simp only[OV.au,T.gV,eK];exact V.Ip v h
 |smap ty es=>exact gY (fun _=>rfl) es
 |map ty es x =>
  refine WO (gY (fun e=>?_) es) ?_
  ·simp only[MS,T.tV,T.gV,eK,cV];exact gY (fun _=>rfl) _
  ·simp only[OV.tV,bj] at h
   have: ∀ l:List (Int×V),(∀ e∈l,e.2.tV=true)->T.gV (l.map abU)=true:=by
    intro l;induction l with
    |nil=>intro _; rfl
    |cons e r ih =>
     intro q;simp only[bl,T.gV,aD];exact⟨by simp only[abU,T.tV,T.gV,eK,cV]; exact V.Ip _ (q e (by simp)),ih fun e he=>q e (by simp[he])⟩
   exact this x h
 |gen ty k x=>exact V.xM x h
def LG:Hz->Bool
 |[]=>true
 |(_,some o)::r=>o.tV&&LG r
 |(_,none)::r=>LG r
theorem Uz: ∀ {h:Hz},LG h=true-> ∀ i ob,h.aj i=some ob->T.gV ob.l=true:=by
 intro h;induction h with
 |nil=>intro _ i ob q; cases q
 |cons p r ih =>
  obtain⟨j,o⟩:=p;intro hq i ob q;rw[ny] at q;cases o with
  |none =>
   split at q
   ·cases q
   ·exact ih hq i ob q
  |some o =>
   simp only[LG,aD] at hq;split at q
   ·cases q; exact OV.Ip hq.1
   ·exact ih hq.2 i ob q
def frV(N:Nat)(m:Fm):List V:=(List.range N).map fun i=>match m.get i with|some v=>v|none=>.raw .any
theorem aav{N:Nat}{m:Fm}:V.aS (frV N m)=uU N m:=by
 rw[jG,frV,uU,cy];refine ce fun i _=>?_
 simp only[Function.comp];cases m.get i<;>rfl
def acj(nx N:Nat):Fm->Bool
 |[]=>true
 |(i,v)::r=>v.tV&&T.lt nx v.aI&&Nat.blt i N&&acj nx N r
theorem Py{nx N:Nat}: ∀ {m:Fm},acj nx N m=true-> ∀ {i:Nat} {v:V},m.get i=some v->v.tV=true/\T.lt nx v.aI=true/\i<N:=by
 intro m;induction m with
 |nil=>intro _ i v q; cases q
 |cons p r ih =>
  obtain⟨j,u⟩:=p;intro h i v q;simp only[acj,aD] at h;simp only[Fm.get] at q;cases hb:Nat.beq j i with
  |true=>rw[hb] at q; cases q; exact⟨h.1.1.1,h.1.1.2,by rw[<- fO hb]; exact cF.mp h.1.2⟩
  |false=>rw[hb] at q; exact ih h.2 q
theorem ae9{l:List T}(h: ∀ t∈l,t.tV=true):T.gV l=true:=by
 induction l with
 |nil=>rfl
 |cons t r ih=>simp only[T.gV,aD]; exact⟨h t (by simp),ih fun u hu=>h u (by simp[hu])⟩
theorem ah2{nx N:Nat}{m:Fm}(h:acj nx N m=true):T.gV (uU N m)=true:=by
 refine ae9 fun t ht=>?_
 simp only[uU,ax] at ht;obtain⟨i,_,rfl⟩:=ht;split
 ·rename_i v hv; exact V.Ip v (Py h hv).1
 ·rfl
section
variable {P:Program}
def QN(X:Fm->Hz->Nat->Prop):Qz
 | .normal,m,h,n=>X m h n
 |_,_,_,_=>False
def Pz:List Nat->List V->Fm->Fm
 |p::ps,v::vs,m=>Pz ps vs ((p,v)::m)
 |_,_,m=>m
theorem acn: ∀ {ps:List Nat} {vs:List V} {m:Fm} {fr:List T},(∀ p∈ps,p<fr.length)->Rp m fr->Rp (Pz ps vs m) (vM fr ps (V.aS vs)):=by
 intro ps;induction ps with
 |nil=>intro vs m fr _ h; simp only[vM,Pz]; exact h
 |cons p ps ih =>
  intro vs m fr hp h;cases vs with
  |nil=>simp only[vM,Pz,V.aS]; exact h
  |cons v vs =>
   simp only[Pz,V.aS,vM];refine ih (fun q hq=>by rw[dv]; exact hp q (by simp[hq])) ?_;intro i u q;simp only[Fm.get] at q;cases hb:Nat.beq p i with
   |true =>
    rw[hb] at q; cases q;rw[<- fO hb,List.getElem?_set_self (hp p (by simp))]
   |false =>
    rw[hb] at q;rw[dy (fun e=>cG hb e)];exact h i u q
theorem aco: ∀ {ps:List Nat} {ts fr:List T},(vM fr ps ts).length=fr.length:=by
 intro ps;induction ps with
 |nil=>intro ts fr; simp only[vM]
 |cons p ps ih =>
  intro ts fr;cases ts with
  |nil=>simp only[vM]
  |cons t ts=>simp only[vM]; rw[ih,dv]
def WQ(N:Nat):List Nat->Bool
 |[]=>true
 |p::r=>Nat.blt p N&&WQ N r
theorem afa{N:Nat}: ∀ {l:List Nat},WQ N l=true-> ∀ p∈l,p<N:=by
 intro l;induction l with
 |nil=>intro _ p hp; cases hp
 |cons q r ih =>
  intro h p hp;simp only[WQ,aD] at h;rcases bv.1 hp with rfl|hp
  ·exact cF.mp h.1
  ·exact ih h.2 p hp
theorem WR{l:List V}:Rp (tJ 0 l) (V.aS l):=by
 have:=rX (l:=l) (n:=0);simpa using this
theorem abX.round{k nt n:Nat}{aa bb:aC}{ps:List Nat}{cap args:List V}{h:Hz}{K:V->Hz->Prop}(hY: ∀ ts h n post,FB P aa bb ps (V.aS cap) ts h n post->yD P (.fn (8192+k) (V.aS cap)) ts h n post)(nx:Nat)
  (hnt:cap.length=nt) (c1:(V.gV cap&&V.gV args&&LG h&&T.Em nx (V.aS cap)&&T.Em nx (V.aS args)&&tq nx h&&Nat.beq args.length ps.length&&WQ nt ps&&oQ nt aa&&oQ nt bb)=true) (hin: ∃ h',K (.bool true) h')
  (H:az P nt nx aa (QN fun m h1 nx1=>az P nt nx bb (QN fun _ h2 _=>gq h n (fun t hp=>t= .dD []/\ ∃ h':Hz,hp=h'.aj/\K (.bool true) h') (.dD []) h2) m h1 nx1) (Pz ps args (tJ 0 cap)) h nx):abX P (8192+k) cap args h n K:=by
 simp only[aD] at c1;obtain⟨⟨⟨⟨⟨⟨⟨⟨⟨d1,d2⟩,d3⟩,d4⟩,d5⟩,d6⟩,d7⟩,d8⟩,d9⟩,d10⟩:=c1;have hG:=zX d6;have hlen:(V.aS cap).length=nt:=by rw[cO]; exact hnt
 refine⟨hY _ _ _ _ ⟨V.xM _ d1,V.xM _ d2,Uz d3,?_,?_,nx,AY d4,AY d5,(fun i ob hi=>⟨(hG i ob hi).1,(hG i ob hi).2.1⟩),?_⟩⟩
 ·rw[cO]; exact fO d7
 ·obtain⟨h',hk⟩:=hin;exact⟨h'.aj,.bool true,h',rfl,rfl,hk⟩
 ·have:=lQ (P:=P) (N:=nt) (pn:=nx) (s:=⟨vM (V.aS cap) ps (V.aS args),h.aj,nx,nx⟩) d9 (by rw[aco]; exact hlen) (acn (fun p hp=>by rw[hlen]; exact afa d8 p hp) WR) rfl rfl H;refine kH ?_ this;rintro e s ⟨m,h1,a1,a2,a3,a4,a5⟩;cases e with
  |exit j=>exact a5.elim
  |ret=>exact a5.elim
  |normal =>
   refine⟨rfl,?_⟩;have:=lQ (P:=P) (N:=nt) (pn:=nx) (s:=s) d10 a1 a2 a3 a4 a5;refine kH ?_ this;rintro e s2 ⟨m2,h2,b1,b2,b3,b4,b5⟩;cases e with
   |exit j=>exact b5.elim
   |ret=>exact b5.elim
   |normal =>
    obtain⟨Z,ρ,t,h',⟨rfl,h'',rfl,hk⟩,c2,c3,c4,c5,c6,c7⟩:=b5.ok;exact⟨rfl,s2,.refl _,trivial,Z,ρ,_,_,⟨rfl,.bool true,h'',rfl,rfl,hk⟩,by rw[b3]; exact c2,by rw[b3]; exact c3,c4,c5,c6,c7⟩
structure aaw(P:Program)(f:FuncId)(a:aC)(g:Nat)(ps:List Nat)(aa bb b:aC)(rs:List RV)(nt:Nat):Prop where
 ex: ∃ fn c i,P.funcs[f]? =some fn/\fn.body=some c/\FD P c=some (a,i,b)/\(i.g=g/\i.ps.toList=ps/\i.aa=aa/\i.bb=bb)/\nO P fn.results.toList=some rs/\fn.ntmps=nt
 cl:callable P f
 dst:(oQ nt a&&oQ nt b)=true
def stripR(x:aC×Site×aC):aC×(Nat×List Nat×aC×aC)×aC:=(x.1,(x.2.1.g,x.2.1.ps.toList,x.2.1.aa,x.2.1.bb),x.2.2)
theorem aaw.of{f:FuncId}{fn:Func}{a:aC}{g:Nat}{ps:List Nat}{aa bb b:aC}{rs:List RV}{nt:Nat}(h1:P.funcs[f]? =some fn)
  (h2:(fn.body.isSome,(FD P (fn.body.getD .skip)).map stripR,nO P fn.results.toList,fn.ntmps,oQ nt a&&oQ nt b)=(true,some (a,(g,ps,aa,bb),b),some rs,nt,true)) (h3:callable P f):aaw P f a g ps aa bb b rs nt:=by
 simp only[fe] at h2;obtain⟨q1,q2,q3,q4,q5⟩:=h2;obtain⟨cd,hc⟩:=am.1 q1;rw[hc] at q2;simp only[eL,be] at q2;obtain⟨⟨a',i,b'⟩,r1,r2⟩:=q2;simp only[stripR,fe] at r2;obtain⟨rfl,⟨r3,r4,r5,r6⟩,rfl⟩:=r2;exact⟨⟨fn,cd,i,h1,hc,r1,⟨r3,r4,r5,r6⟩,q3,q4⟩,h3,q5⟩
structure aax(P:Program)(nt k g:Nat)(ps:List Nat)(aa bb:aC)(D:Fm->Hz->Nat->Prop)(m:Fm)(h:Hz)(nx:Nat):Prop where
 ok: ∃ (fm:Fm) (gf:FuncId) (cap:List V) (KH:Hz->Prop),(∀ i v,fm.get i=some v->m.get i=some v)/\acj nx nt fm=true/\LG h=true/\m.get g=some (.fn gf cap)/\gf<4096/\V.gV cap=true /\
  ((∀ ts h n post,FB P aa bb ps (V.aS (frV nt fm)) ts h n post->yD P (.fn (8192+k) (V.aS (frV nt fm))) ts h n post)->aP P gf (V.aS (.fn (8192+k) (frV nt fm)::cap)) h.aj nx fun _ hp=> ∃ h':Hz,hp=h'.aj/\KH h') /\
  ∀ h',KH h'->LG h'=true/\D fm h' (nx+1)
theorem aax.walk{nt k g:Nat}{ps:List Nat}{aa bb:aC}{D:Fm->Hz->Nat->Prop}{m:Fm}{h:Hz}{nx:Nat}(live:List Nat)(KH:Hz->Prop)(gf:FuncId)(cap:List V)(hg:m.get g=some (.fn gf cap))(hc:(Nat.blt gf 4096&&V.gV cap&&LG h)=true)
  (H:Jz m live [] fun fm=>acj nx nt fm=true/\((∀ ts h n post,FB P aa bb ps (V.aS (frV nt fm)) ts h n post->yD P (.fn (8192+k) (V.aS (frV nt fm))) ts h n post)->aP P gf (V.aS (.fn (8192+k) (frV nt fm)::cap)) h.aj nx fun _ hp=> ∃ h':Hz,hp=h'.aj/\KH h') /\
   ∀ h',KH h'->LG h'=true/\D fm h' (nx+1)):aax P nt k g ps aa bb D m h nx:=by
 obtain⟨fm,⟨h1,h2,h3⟩,hb⟩:=y9 H (fun i v q=>by cases q);simp only[aD] at hc;exact⟨fm,gf,cap,KH,hb,h1,hc.2,hg,cF.mp hc.1.1,hc.1.2,h2,h3⟩
def AtR(P:Program)(nt k g:Nat)(ps:List Nat)(aa bb:aC)(D:Fm->Hz->Nat->Prop):Qz
 | .normal,m,h,nx=>aax P nt k g ps aa bb D m h nx
 |_,_,_,_=>False
theorem afb{nt k pn:Nat}{i:Site}{b:aC}{D:Qz}{Qa:qL->AS->Prop}(hd:oQ nt b=true)(hq: ∀ e s,Lift nt pn D e s->Qa e s){e:qL}{s:AS}(H:Lift nt pn (AtR P nt k i.g i.ps.toList i.aa i.bb fun m h nx=>az P nt pn b D m h nx) e s) :
  e= .normal/\aat P k i (fun s''=>aw P b Qa s'') s:=by
 obtain⟨m,h,a1,a2,a3,a4,a5⟩:=H;cases e with
 |exit j=>exact a5.elim
 |ret=>exact a5.elim
 |normal =>
  refine⟨rfl,?_⟩;obtain⟨fm,gf,cap,KH,q1,q2,q3,q4,q5,q6,q7,q8⟩:=a5.ok;refine⟨uU nt fm,gf,V.aS cap,fun hp=> ∃ h':Hz,hp=h'.aj/\KH h',WA a1 a2 (fun j v hv=>⟨v,q1 j v hv,rfl⟩),ah2 q2,CW (fun j v hv=>(Py q2 hv).2.1),fun j ob hj=>Uz q3 j ob (by rw[<- a3]; exact hj),?_,q5,V.xM _ q6,?_,?_⟩
  ·show s.fr.getD i.g T.un=_;rw[ab,a2 _ _ q4]; rfl
  ·intro hY;rw[a3];have:=q7 (by rw[aav]; exact hY);simpa only[V.aS,V.aI,aav] using this
  ·rintro hp ⟨h',rfl,hk⟩;obtain⟨r1,r2⟩:=q8 h' hk;refine⟨Uz r1,?_⟩;have:=lQ (P:=P) (N:=nt) (pn:=pn) (s:=⟨uU nt fm,h'.aj,s.nx+1,s.pin⟩) hd yc (CV fun j v hv=>(Py q2 hv).2.2) rfl a4 r2;exact kH (fun e s hs=>hq e s hs) this
theorem nT.ofR{f:FuncId}{a:aC}{g:Nat}{ps:List Nat}{aa bb b:aC}{rs:List RV}{nt nx n:Nat}{args:List V}{h0:Hz}{post:T->Hp->Prop}(B:aaw P f a g ps aa bb b rs nt)(hn:args.length<=nt)(hin: ∃ t h',post t h')(ha:T.Em nx (V.aS args)=true)(hg:tq nx h0=true)
  (H:az P nt nx a (AtR P nt f g ps aa bb fun m h nx'=>az P nt nx b (ajx h0 n post rs) m h nx') (tJ 0 args) h0 nx):aP P f (V.aS args) h0.aj n post:=by
 obtain⟨fn,c,i,h1,h2,h3,⟨rfl,rfl,rfl,rfl⟩,h4,h5⟩:=B.ex;have hd:=B.dst;simp only[aD] at hd;have hG:=zX hg;refine aP.ae8 (nx:=nx) h1 h2 h3 h4 B.cl h5 hin (AY ha) (fun i ob hi=>⟨(hG i ob hi).1,(hG i ob hi).2.1⟩) ?_;have:=lQ (P:=P) (N:=nt) (pn:=nx) (s:=⟨V.aS args++List.replicate (nt-(V.aS args).length) T.un,h0.aj,nx,nx⟩) hd.1 (by simp[cO]; omega) rX rfl rfl H;refine kH (fun e s hs=>afb hd.2 ?_ hs) this;rintro e s ⟨m,h,a1,a2,a3,a4,a5⟩;have key: ∀ {m h},Rp m s.fr->s.hp=Hz.aj h->(match resV m h rs with|some v=>v.seq fun v=>gq h0 n post v h|none=>False)-> ∃ s1,IJ s1 s/\Ret h0.aj n post rs s1:=by
  intro m h a2 a3 q;split at q
  ·rename_i v hv;rw[V.seq_eq] at q;obtain⟨b1,b2⟩:=DX a2 a3 hv;obtain⟨Z,ρ,t,h',c1,c2,c3,c4,c5,c6,c7⟩:=q.ok;exact⟨s,.refl _,b1,Z,ρ,t,h',c1,by rw[b2,a3]; exact c2,by rw[a3]; exact c3,c4,c5,c6,c7⟩
  ·exact q.elim
 cases e with
 |exit j=>exact a5.elim
 |normal=>exact key a2 a3 a5
 |ret=>exact key a2 a3 a5
end
section
variable {P:Program}
def DZ(l:List Int):List Int:=l.mergeSort fun x y=>decide (x<=y)
def sortV(lo hi:Nat)(l:List Int):List Int:=l.take lo++DZ ((l.take hi).drop lo)++l.drop hi
theorem uj(l:List Int):(DZ l).length=l.length:=List.length_mergeSort ..
theorem SL{lo hi:Nat}{l:List Int}(h1:lo<=hi)(h2:hi<=l.length):(sortV lo hi l).length=l.length:=by
 simp only[sortV,aL,uj,bR,cA]; omega
theorem afc{lo hi j:Nat}{l:List Int}(h1:lo<=hi)(h2:hi<=l.length):(sortV lo hi l)[j]? =if lo<=j/\j<hi then(DZ ((l.take hi).drop lo))[j-lo]? else l[j]? :=by
 have hs:(DZ ((l.take hi).drop lo)).length=hi-lo:=by rw[uj,cA,bR]; omega
 have ht:(l.take lo).length=lo:=by rw[bR]; omega
 unfold sortV;by_cases g1:j<lo
 ·rw[bB (by omega),bO,co (by omega),cN g1]
 ·by_cases g2:j<hi
  ·rw[bc (by omega),bO,ck (by omega),ht,co (by omega)]
  ·rw[bB (by omega),ck (by simp only[aL]; omega),cT]
   congr 1; simp only[aL]; omega
open Go.Proofs in
theorem aP.aay{ρ:Shelf.Ren}(L:SlLaysN.n53 P ρ)(hcl:callable P (ρ.f 53)){l:List Int}(hlen:l.length<4611686018427387904){h:Hp}{i ty n lo hi:Nat}(hi':h i=some ⟨ty,0,l.map T.int⟩)(hne:l≠[])(h1:lo<=hi)(h2:hi<=l.length) :
  aP P (ρ.f 53) [.rG i lo hi] h n fun t h'=>t= .dD []/\h'=upd h i (some ⟨ty,0,(sortV lo hi l).map T.int⟩):=by
 refine⟨⟨_,_,rfl,rfl⟩,hcl,fun F M E vs hk he hts hid hm hn=>?_⟩;subst he;simp only[bQ] at hts;obtain⟨v0,r0,rfl,hv0,hnil⟩:=hts;simp only[bg] at hnil;subst hnil;rw[aB rfl] at hv0;simp only[aN] at hv0;obtain⟨u0,hu0,hlive⟩:=hv0;obtain⟨ad,nn,cc,hφ',_,_,_,hu1⟩:=hlive (by rw[hi']; rfl);have akN:v0=u0:=by simpa using hu0
 obtain⟨hob,GI,hsz⟩:=hk.obs i _ hi';have hkm:(0:Nat)≠gK:=by decide
 rcases hob.row hkm with ⟨a,_,hl0⟩|⟨b,c,cur,hφ,hlc,hcm,hcell,hcsz,hrr⟩
 ·exact absurd (List.map_eq_nil_iff.1 hl0) hne
 simp only[bL,bD,Nat.mul_one] at hφ hlc hcell hcsz hrr;have hcc:cc=c+1/\ad=some ⟨b,0,none⟩:=by rw[hφ] at hφ'; cases hφ'; exact⟨rfl,rfl⟩
 obtain⟨rfl,rfl⟩:=hcc;rw[GI] at hu1;simp only[bD,Nat.mul_one] at hu1;have hrb:rowB (E.φ i)=some b:=by rw[hφ]; rfl
 obtain⟨hbS,hbF⟩:=hk.out i _ b hi' hrb;have hblt:b<E.w.heap.size:=hob.lt hrb;obtain⟨off,hoff,hu2⟩: ∃ off,(lo<hi->off=lo)/\u0= .slice (some ⟨b,off,none⟩) (hi-lo) (c+1-lo):=by
  by_cases g:c+1=lo
  ·rw[bc g] at hu1; exact⟨0,fun q=>by omega,hu1⟩
  ·rw[bB g] at hu1; exact⟨lo,fun _=>rfl,by rw[hu1,bp,addr_add,fS]⟩
 subst akN hu2;have hgl: ∀ j,j<l.length->cur.toList[j]? =some (.int .i64 (l.getD j 0)):=by
  intro j hj;have:=vF hrr (j:=j) (by simpa using hj);simp only[bD,Nat.mul_one] at this;obtain⟨_,h3,_,h4⟩:=this;have e:(l.map T.int).getD j .any=T.int (l.getD j 0):=by simp[hj]
  rw[e] at h4;simp only[aN] at h4
  have:((cur.toList.drop j).take 1)[0]? =some (.int .i64 (l.getD j 0)):=by rw[h4]; rfl
  rwa [cN (by omega),cT,fo] at this
 generalize hzs:(l.take hi).drop lo=zs;have hzl:zs.length=hi-lo:=by rw[<- hzs,cA,bR]; omega
 have hzj: ∀ j,j<zs.length->zs[j]? =some (l.getD (lo+j) 0):=by
  intro j hj;rw[<- hzs,cT,cN (by omega)];simp[show lo+j<l.length by omega]
 have hH:Sort.Holds (Value.int .i64) E.w b off zs.toArray:=by
  intro j hj;have hj':j<zs.length:=by simpa using hj
  have ho:=hoff (by omega);refine⟨?_,by simp[World.frozen?,hcell]⟩;have h3:=hgl (off+j) (by omega);simp only[World.cell?,hcell];have e:=hzj j hj';rw[<- ho] at e;have e2:zs.toArray[j]! =l.getD (off+j) 0:=by
   obtain⟨q1,q2⟩:=bo.1 e;rw[gr _ j (by simpa using hj')]; simpa using q2
  rw[e2,<- h3]; simp
 have hcon:=AnyG.slices_Sort_int L b off (c+1-lo) zs E.w hH hblt (by omega);rw[hzl] at hcon;have hargs:([Value.slice (some ⟨b,off,none⟩) (hi-lo) (c+1-lo)]:List Value).toArray= #[.slice (some ⟨b,off,none⟩) (hi-lo) (c+1-lo)]:=rfl;rw[hargs];refine hcon.mono ?_;rintro e w' ⟨rfl,q,os,hw⟩;have hss:(zs.mergeSort fun x y=>decide (x<=y))=DZ zs:=rfl;rw[hss] at hw
 let cs':Array Value:=Sort.putCells (Value.int .i64) off (DZ zs).toArray cur
 have Fp:cs'.size=cur.size:=by simp[cs',Sort.putCells]
 have hcell':w'.heap[b]? =some (.cells cs' ty (0,0)):=by
  rw[hw,Sort.heap_grow_old _ _ (by simpa using hblt)];simp[Sort.putRow,Sort.mapBlock,Sort.ahead,Array.getElem?_modify,hcell,Sort.onCells,cs']
 have hold': ∀ q,q<E.w.heap.size->q≠b->w'.heap[q]? =E.w.heap[q]? :=fun k h3 h4=>by
  rw[hw,Sort.heap_grow_old _ _ (by simpa using h3)];simp[Sort.putRow,Sort.mapBlock,Sort.ahead,Array.getElem?_modify,Ne.symm h4]
 have hsize':E.w.heap.size<=w'.heap.size:=by
  rw[hw,Sort.size_grow]; simp only[Sort.putRow,Sort.mapBlock,Sort.ahead,Array.size_modify]; omega
 let E':Env:= {w:=w',S:=E.S,φ:=E.φ,κ:=E.κ,h:=upd E.h i (some ⟨ty,0,(sortV lo hi l).map T.int⟩),y:=E.y}
 have hext:Ext F E E':=by
  refine⟨fun _ h=>h,fun q hq=>hold' q ?_ ?_,hsize',by show w'.os=_; rw[hw]; rfl,by show w'.tape=_; rw[hw]; rfl,by show w'.output=_; rw[hw]; rfl,by show _<=w'.drawn; rw[hw]; exact gN _ _,rfl⟩
  ·rcases hq with hq|hq
   ·exact hk.slt q hq
   ·exact hk.flt q hq
  ·rintro rfl;rcases hq with hq|hq
   ·exact hbS hq
   ·exact hbF hq
 have hS:Same E E' M:=by
  intro j _ hj;refine⟨?_,rfl,rfl⟩;by_cases hji:j=i
  ·subst hji; rw[hi']; rfl
  ·simpa [E',upd,hji] using hj
 have hK:Keeps E E' M:=.of hext hS;have akV: ∀ j,j<l.length->cs'.toList[j]? =some (.int .i64 ((sortV lo hi l).getD j 0)):=by
  intro j hj;have hjc:j<cur.size:=by omega
  have hat:=afc (j:=j) h1 h2;rw[hzs] at hat;have e0:cs'.toList[j]? =some (cs'[j]'(by rw[Fp]; exact hjc)):=by simp[Fp,hjc]
  rw[e0]
  congr 1
  show(Sort.putCells (Value.int .i64) off (DZ zs).toArray cur)[j]'_=_;simp only[Sort.putCells,Array.getElem_mapIdx,gh,uj];have hcj:cur[j]= .int .i64 (l.getD j 0):=by
   have:=hgl j hj;simpa [hjc] using this
  by_cases g:lo<=j/\j<hi
  ·have ho:=hoff (by omega);rw[bc g] at hat;have hlt:j-lo<(DZ zs).length:=by rw[uj]; omega
   rw[bc (by omega),ab,hat,bS hlt]
   have:j-off<(DZ zs).length:=by omega
   rw[gr _ (j-off) (by simpa using this)];simp[ho]
  ·rw[bB g] at hat;rw[ab,hat,<- ab];by_cases gl:lo<hi
   ·have ho:=hoff gl;rw[bB (by omega)]; exact hcj
   ·rw[bB (by omega)]; exact hcj
 have akO:aJ E' 0 ((sortV lo hi l).map T.int) cs'.toList:=by
  have hsl:=SL h1 h2;refine GL (by simp only[bL,hsl,bu,Fp]; omega) ?_;have htk:cs'.toList.take ((sortV lo hi l).map T.int).length=(sortV lo hi l).map (Value.int .i64):=by
   apply List.ext_getElem?;intro j;rw[bL];by_cases hj:j<(sortV lo hi l).length
   ·rw[cN hj,akV j (by omega)]; simp[hj]
   ·rw[eO (by omega),cv (by simp; omega)]
  rw[htk];generalize sortV lo hi l=m;induction m with
  |nil=>rfl
  |cons x m ih=>exact⟨rfl,_,_,rfl,rfl,rfl,ih⟩
 have fF:uN E' ⟨ty,0,(sortV lo hi l).map T.int⟩ (E.φ i):=by
  have hsl:=SL h1 h2;refine .inl ⟨hkm,.inr ⟨b,c,cs',by rw[hφ]; simp only[bL,hsl],by simp only[bL,hsl]; exact hlc,hcm,hcell',by rw[Fp,hcsz]; simp[bD],akO⟩⟩
 have hhm:pq M E.h:=hm;refine⟨.tuple #[],.dD [],E',rfl,rfl,⟨rfl,rfl⟩,?_,?_,hext,hS,by simp[T.ids,T.aO],?_⟩
 ·rw[aB rfl]; simp only[aN]; exact⟨#[],rfl,rfl⟩
 ·have hsome: ∀ j oj,E'.h j=some oj-> ∃ QH,E.h j=some QH:=fun j oj hj=>by
   by_cases hji:j=i
   ·subst hji; exact⟨_,hi'⟩
   ·exact⟨oj,by simpa [E',upd,hji] using hj⟩
  refine⟨fun j oj hj=>?_,fun j oj q hj hq=>?_,fun j j' oj QH q hjj hj hj' hq hq'=>?_,fun q hq=>cU (hk.slt q hq) hsize',fun q hq=>cU (hk.flt q hq) hsize',hk.sf,hext.gl hk⟩
  ·by_cases hji:j=i
   ·subst hji
    have:oj=⟨ty,0,(sortV lo hi l).map T.int⟩:=by simpa [E',upd] using hj.symm
    subst this;exact⟨fF,GI,hsz⟩
   ·have hj0:E.h j=some oj:=by simpa [E',upd,hji] using hj
    obtain⟨k1,k2,k3⟩:=hk.obs j oj hj0;refine⟨k1.keep hK (hhm j oj hj0).2 fun q hq=>hold' q (k1.lt hq) ?_,k2,k3⟩;rintro rfl;exact hk.sep j i oj _ q hji hj0 hi' hq hrb
  ·obtain⟨QH,hj0⟩:=hsome j oj hj;exact hk.out j QH q hj0 hq
  ·obtain⟨o1,h1⟩:=hsome j oj hj;obtain⟨o2,h2⟩:=hsome j' QH hj';exact hk.sep j j' o1 o2 q hjj h1 h2 hq hq'
 ·intro j oj hj;by_cases hji:j=i
  ·subst hji
   have:oj=⟨ty,0,(sortV lo hi l).map T.int⟩:=by simpa [E',upd] using hj.symm
   subst this;refine⟨.inl (hhm j _ hi').1,cu.2 fun t ht=>?_⟩;obtain⟨x,_,rfl⟩:=ax.1 ht;trivial
  ·have hj0:E.h j=some oj:=by simpa [E',upd,hji] using hj
   exact⟨.inl (hhm j oj hj0).1,T.aA (fun _ h=>.inl h) _ (hhm j oj hj0).2⟩
end
section
variable {P:Program}
structure amB(t0:T)(objs:List (Nat×OV))(k:Nat)(v:V)(h:Hz):Prop where
 ok: ∃ nw,okR (gU objs nw) (k+1) 0 h objs nw/\dB [t0.ren (gU objs nw)] [v.aI]
def amC(t0:T)(objs:List (Nat×OV))(k:Nat)(rs:List RV):Qz
 | .exit _,_,_,_=>False
 |_,m,h,_=>match resV m h rs with
  |some v=>v.seq fun v=>amB t0 objs k v h
  |none=>False
theorem amD.of{f:FuncId}{ac:aC}{rs:List RV}{nt k:Nat}{args:List V}{t0:T}{objs:List (Nat×OV)}(B:Body P f ac rs nt)(hn:args.length<=nt)(ha:V.bn args=true)(ht:t0.ids (· <k+1))
  (H:az P nt 0 ac (amC t0 objs k rs) (tJ 0 args) [] 0):jr P f (V.aS args) (Hz.aj []) 0 k fun t hp=>t=t0/\hp=(rD objs).aj:=by
 obtain⟨fn,c,h1,h2,h3,h4,h5⟩:=B.ex;refine jr.yN (nx:=0) h1 h2 h3 h4 B.cl h5 ⟨_,_,rfl,rfl⟩ (T.aA (fun _ h=>h.elim) _ (dh (V.eG _ ha))) (fun i ob hi=>by cases hi) ?_;have:=lQ (P:=P) (N:=nt) (pn:=0) (s:=⟨V.aS args++List.replicate (nt-(V.aS args).length) T.un,(Hz.aj []),0,0⟩) B.dst (by simp[cO]; omega) rX rfl rfl H;refine kH ?_ this;rintro e s ⟨m,h,a1,a2,a3,a4,a5⟩;have key: ∀ {m h},Rp m s.fr->s.hp=Hz.aj h->(match resV m h rs with|some v=>v.seq fun v=>amB t0 objs k v h|none=>False)-> ∃ s1,IJ s1 s/\V8 (Hz.aj []) (fun i=>0<=i/\i<=0+k) (fun t hp=>t=t0/\hp=(rD objs).aj) rs s1:=by
  intro m h a2 a3 q;split at q
  ·rename_i v hv;rw[V.seq_eq] at q;obtain⟨b1,b2⟩:=DX a2 a3 hv;obtain⟨nw,ho,hsub⟩:=q.ok;have hL:=Fj (Z:=fun i=> ¬ Gs (xF objs nw) i) ho;have e:Ep (xF objs nw)=gU objs nw:=funext fun _=>CX
   have hM: ∀ i,i<k+1->((Hz.aj []:Hp) i).isSome=true\/(0<=i/\i<=0+k):=fun i hi=>.inr (by omega)
   refine⟨s,.refl _,b1,fun i=> ¬ Gs (xF objs nw) i,gU objs nw,t0,(rD objs).aj,⟨rfl,rfl⟩,?_,fun i ob hi=>?_,fun i j hi hj q=>?_,T.aW hM _ ht,fun i ob hi=>?_,fun i hi hs=>by cases hi⟩
   ·rw[b2];have:=hsub (fun i=> ¬ Gs (xF objs nw) i) s.hp;exact this.1
   ·rw[<- qO ho] at hi;obtain⟨h1,h2⟩:=sQ hi;obtain⟨_,_,_,h4,l',h5,h6⟩:=wF hL h1;rw[e] at h2 h5;rw[a3];exact⟨_,h5,fun hz=>hz h2,rfl,rfl,h6,uS h4⟩
   ·rw[<- qO ho] at hi hj;obtain⟨oi,hi⟩:=am.1 hi;obtain⟨oj,hj⟩:=am.1 hj;exact NI hL hi hj (by rw[e]; exact q)
   ·rw[<- qO ho] at hi;obtain⟨h1,_,h3,_⟩:=wF hL (sQ hi).1;exact⟨hM i h1,T.aA hM _ h3⟩
  ·exact q.elim
 cases e with
 |exit j=>exact a5.elim
 |normal=>exact key a2 a3 a5
 |ret=>exact key a2 a3 a5
theorem ah.anR{f:FuncId}{args:List V}{h:Hz}{n:Nat}{v:V}{t0:T}{o0 o0' o1 o2:OV}{K:V->Hz->Prop}{KW:Nat->V->Hz->Prop}(H:jr P f (V.aS args) (Hz.aj []) 0 2 fun t hp=>t=t0/\hp=(rD [(0,o0),(1,o1),(2,o2)]).aj)
  (ha:V.bn args=true) (hf1:o1.zn=true) (hf2:o2.zn=true) (h0:o0.au.ren (fun a=>n+a)=o0'.au) (hi0:T.aO (· <3) o0.au.l) (ht:t0.ids (· <3)) (hv:t0.ren (fun a=>n+a)=v.aI) (hn: ∀ m,n<=m->h.get m=none) (hK:KW 2 v ((n,some o0')::(n+1,some o1)::(n+2,some o2)::h)):ah P false none f args h n K KW:=by
 have hz:T.dF (fun a=>a) (V.aS args)=V.aS args:=xI _ (dh (V.eG _ ha));have hp:=jr.place H (ρ:=fun a=>a) (h:=h.aj) (n:=n) (T.aA (fun _ h=>h.elim) _ (dh (V.eG _ ha))) (fun i ob hi=>by cases hi) (fun i hi=>by cases hi) (fun i ob hi=>by cases hi) (fun i j hi=>by cases hi);rw[hz] at hp;refine⟨.inr (.inl ⟨rfl,rfl,2,hp.mono ?_⟩)⟩;rintro t' h' ⟨t,h1,⟨rfl,rfl⟩,rfl,rfl⟩;have nk: ∀ a,a<=2->CO (fun a=>a) 0 2 n a=n+a:=fun a ha=>by
  rw[show CO (fun a=>a) 0 2 n a=n+(a-0) from bc (by omega)]; rfl
 refine⟨v,_,?_,?_,hK⟩
 ·rw[<- hv];exact Sr (M:=(· <3)) (fun b hb=>nk b (by omega)) _ ht
 ·have inj: ∀ a b,(((Hz.aj []) a).isSome=true\/(0<=a/\a<=0+2))->(((Hz.aj []) b).isSome=true\/(0<=b/\b<=0+2))->CO (fun a=>a) 0 2 n a=CO (fun a=>a) 0 2 n b->a=b:=by
   intro a b ha hb e;rcases ha with ha|ha
   ·cases ha
   rcases hb with hb|hb
   ·cases hb
   rw[nk a (by omega),nk b (by omega)] at e; omega
  funext a;rw[ny,ny,ny];by_cases c0:a=n
  ·subst c0;rw[bc rfl];have:=xA (h:=h.aj) (h1:=(rD [(0,o0),(1,o1),(2,o2)]).aj) inj (i:=0) (.inr (by omega));rw[nk 0 (by omega)] at this;refine Eq.trans this ?_;show Option.map _ (some o0.au)=_;rw[bp,bp,<- h0];refine dC some ?_;unfold Ob.ren;rw[xC (M:=(· <3)) (fun b hb=>nk b (by omega)) _ hi0]
  ·rw[bB c0];by_cases c1:a=n+1
   ·subst c1;rw[bc rfl];have:=xA (h:=h.aj) (h1:=(rD [(0,o0),(1,o1),(2,o2)]).aj) inj (i:=1) (.inr (by omega));rw[nk 1 (by omega)] at this;refine Eq.trans this ?_;show Option.map _ (some o1.au)=_;rw[bp,ng hf1]; rfl
   ·rw[bB c1];by_cases c2:a=n+2
    ·subst c2;rw[bc rfl];have:=xA (h:=h.aj) (h1:=(rD [(0,o0),(1,o1),(2,o2)]).aj) inj (i:=2) (.inr (by omega));rw[nk 2 (by omega)] at this;refine Eq.trans this ?_;show Option.map _ (some o2.au)=_;rw[bp,ng hf2]; rfl
    ·rw[bB c2]
     exact AV (by
      rintro⟨b,hb,e⟩;rcases hb with hb|hb
      ·cases hb
      rw[nk b (by omega)] at e; omega)
end
end Go.Ab
