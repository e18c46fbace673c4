/-
 The abstract layer, part 30: a function that holds one loop over an iterator. No condition.
-/
import Derived.RangeFuncLeaves
import Derived.RangeFuncRecord
import Derived.Test.YtbdbmfccbpfeoaaGreatDoorLd
import Derived.Test.YtbdbmfccbpfeoaaGreatDoorLg
namespace Go.Ab
mutual
def T.qN:T->Bool
 | .agg l=>T.fH l
 | .sl _ _ l=>T.fH l
 | .ref _ t=>T.qN t
 | .fn f cap=>Nat.blt f 8192&&T.fH cap
 | .bU l=>T.fH l
 |_=>true
def T.fH:List T->Bool
 |[]=>true
 |t::ts=>T.qN t&&T.fH ts
end
@[reducible] def Env.at(E:Env)(w:World)(y:Option Yd):Env:= {E with w:=w,y:=y}
section
variable {E:Env} {w':World} {y':Option Yd}
mutual
theorem Ji(hw: ∀ b,E.S b->w'.heap[b]? =E.w.heap[b]?):(t:T)->((y'=E.y\/E.y=none)\/t.qN=true)->(vs:List Value)->aK E t vs->aK (E.at w' y') t vs
 | .lit v,_,vs,h=>by simpa [aK] using h
 | .agg l,hn,vs,h=>by
  simp only[aK,T.qN] at h hn ⊢;exact QV hw l hn vs h
 | .sl k full l,hn,vs,h=>by
  simp only[aK,T.qN] at h hn ⊢;obtain⟨a,c,h1,h2,h3,h4⟩:=h;refine⟨a,c,h1,h2,h3,?_⟩;rcases h4 with h4|⟨b,off,cur,e,m,ha,hb,hh,hf,hr⟩
  ·exact .inl h4
  ·exact .inr ⟨b,off,cur,e,m,ha,hb,(hw b hb).trans hh,hf,Jj hw l k hn _ hr⟩
 | .ref k t,hn,vs,h=>by
  simp only[aK,T.qN] at h hn ⊢;obtain⟨b,off,cur,e,m,h1,hb,hh,hk,hf,hl,hr⟩:=h;exact⟨b,off,cur,e,m,h1,hb,(hw b hb).trans hh,hk,hf,hl,Ji hw t hn _ hr⟩
 | .own i,_,vs,h=>by simp only[aK] at h ⊢; exact h
 | .ptr i j off,_,vs,h=>by simp only[aK] at h ⊢; exact h
 | .oG i lo hi,_,vs,h=>by simp only[aK] at h ⊢; exact h
 | .fn f cap,hn,vs,h=>by
  simp only[aK,T.qN,aD] at h hn ⊢;rcases h with ⟨h0,cs,h1,h2⟩|⟨h0,p,hp,hf,h1,h2⟩
  ·exact .inl ⟨h0,cs,h1,QV hw cap (hn.imp id fun q=>q.2) _ h2⟩
  ·rcases hn with (hn|hn)|hn
   ·exact .inr ⟨h0,p,hn.trans hp,hf,h1,wY hw cap (.inl (.inl hn)) _ h2⟩
   ·rw[hn] at hp; cases hp
   ·rw[hn.1] at h0; cases h0
 | .bU l,hn,vs,h=>by
  simp only[aK,T.qN] at h hn ⊢;obtain⟨cs,h1,h2⟩:=h;exact⟨cs,h1,wY hw l hn _ h2⟩
 | .any,_,vs,h=>by simp[aK]
theorem QV(hw: ∀ b,E.S b->w'.heap[b]? =E.w.heap[b]?):(l:List T)->((y'=E.y\/E.y=none)\/T.fH l=true)->(vs:List Value)->aS E l vs->aS (E.at w' y') l vs
 |[],_,vs,h=>by simpa [aS] using h
 |t::ts,hn,vs,h=>by
  simp only[aS,T.fH,aD] at h hn ⊢;obtain⟨hk,v,r,h1,h0,h2,h3⟩:=h;exact⟨hk,v,r,h1,h0,Ji hw t (hn.imp id fun q=>q.1) _ h2,QV hw ts (hn.imp id fun q=>q.2) _ h3⟩
theorem wY(hw: ∀ b,E.S b->w'.heap[b]? =E.w.heap[b]?):(l:List T)->((y'=E.y\/E.y=none)\/T.fH l=true)->(vs:List Value)->bg E l vs->bg (E.at w' y') l vs
 |[],_,vs,h=>by simpa [bg] using h
 |t::ts,hn,vs,h=>by
  simp only[bg,T.fH,aD] at h hn ⊢;obtain⟨v,r,h1,h2,h3⟩:=h;refine⟨v,r,h1,?_,wY hw ts (hn.imp id fun q=>q.2) _ h3⟩;rcases h2 with ⟨hk,cs,h4,h5⟩|⟨hk,h4⟩
  ·exact .inl ⟨hk,cs,h4,Ji hw t (hn.imp id fun q=>q.1) _ h5⟩
  ·exact .inr ⟨hk,Ji hw t (hn.imp id fun q=>q.1) _ h4⟩
theorem Jj(hw: ∀ b,E.S b->w'.heap[b]? =E.w.heap[b]?):(l:List T)->(k:Nat)->((y'=E.y\/E.y=none)\/T.fH l=true)->(vs:List Value)->aH E k l vs->aH (E.at w' y') k l vs
 |[],_,_,vs,h=>by simp[aH]
 |t::ts,k,hn,vs,h=>by
  simp only[aH,T.fH,aD] at h hn ⊢;obtain⟨hk,h1,h0,h2,h3⟩:=h;exact⟨hk,h1,h0,Ji hw t (hn.imp id fun q=>q.1) _ h2,Jj hw ts k (hn.imp id fun q=>q.2) _ h3⟩
end
theorem acs(hw: ∀ b,E.S b->w'.heap[b]? =E.w.heap[b]?): ∀ {l:List T} {es:List MapEntry},((y'=E.y\/E.y=none)\/T.fH l=true)->kJ E l es->kJ (E.at w' y') l es:=by
 intro l;induction l with
 |nil=>intro es _ h; exact h
 |cons t ts ih =>
  intro es hn h;simp only[kJ,T.fH,aD] at h hn ⊢;obtain⟨n,u,e,r,rfl,h1,h2,h3,h4,h5,h6⟩:=h;refine⟨n,u,e,r,rfl,h1,h2,h3,h4,Ji hw u (hn.imp id fun q=>?_) _ h5,ih (hn.imp id fun q=>q.2) h6⟩;have:=q.1;simp only[T.qN,T.fH,aD] at this;exact this.2.1
theorem tJ.y{ob:Ob}{v:Value}(hw: ∀ b,E.S b->w'.heap[b]? =E.w.heap[b]?)(hn:(y'=E.y\/E.y=none)\/T.fH ob.l=true)(hg: ∀ g,rowB v=some g->w'.heap[g]? =E.w.heap[g]?)(h:tJ E ob v):tJ (E.at w' y') ob v:=by
 rcases h with ⟨hk,h|⟨g',c,cur,rfl,h1,h2,hh,h3,h4⟩⟩|⟨hk,g',es,cl,rfl,hh,h1⟩
 ·exact .inl ⟨hk,.inl h⟩
 ·exact .inl ⟨hk,.inr ⟨g',c,cur,rfl,h1,h2,(hg g' rfl).trans hh,h3,Jj hw _ _ hn _ h4⟩⟩
 ·exact .inr ⟨hk,g',es,cl,rfl,(hg g' rfl).trans hh,acs hw hn h1⟩
end
section
variable {P:Program}
theorem oD.at{F F':Fr P}{E:Env}{w':World}{y':Option Yd}(hk:oD F E)(hsz:E.w.heap.size<=w'.heap.size)
  (h1: ∀ g,(E.S g\/(∃ i ob,E.h i=some ob/\rowB (E.φ i)=some g)\/(uS P g).isSome=true)->w'.heap[g]? =E.w.heap[g]?)
  (h2: ∀ g,F' g->F g\/(E.w.heap.size<=g/\g<w'.heap.size)) (h3: ∀ g,(uS P g).isSome=true->F g->F' g) (h4:JE (P:=P) F'.s (E.at w' y'))
  (hn:(y'=E.y\/E.y=none)\/ ∀ i ob,E.h i=some ob->T.fH ob.l=true):oD F' (E.at w' y'):=by
 refine⟨fun i ob hi=>?_,fun i ob g hi hg=>?_,hk.sep,fun g hg=>cR (hk.slt g hg) hsz,fun g hg=>?_,fun g hs hf=>?_,fun g cs hg=>?_,h4⟩
 ·obtain⟨k1,k2,k3⟩:=hk.obs i ob hi;exact⟨k1.y (fun b hb=>h1 b (.inl hb)) (hn.imp id fun q=>q i ob hi) (fun g hg=>h1 g (.inr (.inl ⟨i,ob,hi,hg⟩))),k2,k3⟩
 ·obtain⟨k1,k2⟩:=hk.out i ob g hi hg;refine⟨k1,fun hf=>?_⟩;rcases h2 g hf with hf|⟨hf,_⟩
  ·exact k2 hf
  ·have:=(hk.obs i ob hi).1.lt hg; omega
 ·rcases h2 g hg with hf|⟨_,hf⟩
  ·exact cR (hk.flt g hf) hsz
  ·exact hf
 ·rcases h2 g hf with hf|⟨hf,_⟩
  ·exact hk.sf g hs hf
  ·have:=hk.slt g hs; omega
 ·obtain⟨k1,ty,m,k2⟩:=hk.gl.1 g cs hg;exact⟨h3 g (by rw[hg]; rfl) k1,ty,m,(h1 g (.inr (.inr (by rw[hg]; rfl)))).trans k2⟩
theorem oD.other{F:Fr P}{E:Env}(hk:oD F E){l:Nat}{o:Obj}(hf:F l)(hl:E.w.heap[l]? =some o)(ho: ∀ cs ty m,o≠ .cells cs ty m){g:Nat}(hg:E.S g\/(∃ i ob,E.h i=some ob/\rowB (E.φ i)=some g)\/(uS P g).isSome=true):g≠l:=by
 rintro rfl;rcases hg with hg|⟨i,ob,hi,hg⟩|hg
 ·exact hk.sf g hg hf
 ·exact(hk.out i ob g hi hg).2 hf
 ·obtain⟨cs,hc⟩:=am.1 hg;obtain⟨_,ty,m,h⟩:=hk.gl.1 g cs hc;rw[hl] at h;exact ho _ _ _ (Option.some.inj h)
theorem oD.put{F:Fr P}{E:Env}{y':Option Yd}(hk:oD F E){l:Nat}{o o':Obj}(hf:F l)(hl:E.w.heap[l]? =some o)(ho: ∀ cs ty m,o≠ .cells cs ty m)(h4:JE (P:=P) F.s (E.at (E.w.putObj l o') y'))
  (hn:(y'=E.y\/E.y=none)\/ ∀ i ob,E.h i=some ob->T.fH ob.l=true):oD F (E.at (E.w.putObj l o') y') :=
 hk.at (by simp) (fun g hg=>World.putObj_heap_other (hk.other hf hl ho hg)) (fun _ h=>.inl h) (fun _ _ h=>h) h4 hn
theorem Yc{F:Nat->Prop}{E:Env}{w:World}:JE (P:=P) F (E.at w none):=fun p hp=>by cases hp
def rW:List T->List Nat->List T->List T
 |fr,[],_=>fr
 |fr,_::_,[]=>fr
 |fr,p::ps,t::ts=>rW (fr.set p t) ps ts
theorem ZW{E:Env}: ∀ {ps:List Nat} {ts fr:List T} {vs tm:List Value},bg E ts vs->bg E fr tm->bg E (rW fr ps ts) ((ps.zip vs).foldl (fun t x=>t.set x.1 x.2) tm):=by
 intro ps;induction ps with
 |nil=>intro ts fr vs tm _ h; simp only[rW]; exact h
 |cons p ps ih =>
  intro ts fr vs tm h1 h2;cases ts with
  |nil=>simp only[bg] at h1; subst h1; simp only[rW]; exact h2
  |cons t ts =>
   rw[bW] at h1;obtain⟨v,r,rfl,hv,hr⟩:=h1;simp only[rW]; exact ih hr (Ee h2 p hv)
theorem ZX{M:Nat->Prop}: ∀ {ps:List Nat} {ts fr:List T},T.aN M ts->T.aN M fr->T.aN M (rW fr ps ts):=by
 intro ps;induction ps with
 |nil=>intro ts fr _ h; simp only[rW]; exact h
 |cons p ps ih =>
  intro ts fr h1 h2;cases ts with
  |nil=>simp only[rW]; exact h2
  |cons t ts=>simp only[rW]; exact ih h1.2 (vP h2 h1.1)
theorem acu: ∀ {ps:List Nat} {vs:List Value} {tm:Array Value},((ps.zip vs).foldl (fun(t:Array Value) (x:Nat×Value)=>t.setIfInBounds x.1 x.2) tm).toList=(ps.zip vs).foldl (fun(t:List Value) (x:Nat×Value)=>t.set x.1 x.2) tm.toList:=by
 intro ps;induction ps with
 |nil=>intro vs tm; rfl
 |cons p ps ih =>
  intro vs tm;cases vs with
  |nil=>rfl
  |cons v vs=>simp only[List.zip_cons_cons,dq]; rw[ih,Array.toList_setIfInBounds]
structure DJ(P:Program)(aa bb:bC)(ps:List Nat)(fr ts:List T)(h:Hp)(n:Nat)(post:T->Hp->Prop):Prop where
 nf:T.fH fr=true
 nt:T.fH ts=true
 nh: ∀ i ob,h i=some ob->T.fH ob.l=true
 len:ts.length=ps.length
 ne: ∃ h',post (.bool true) h'
 run: ∃ nx,T.aN (· <nx) fr/\T.aN (· <nx) ts/\nR (· <nx) h /\
  aw P aa (fun e s1=>e= .normal/\aw P bb (fun e s2=>e= .normal/\ ∃ s3,GR s3 s2/\Wj h (fun i=>i=n) (fun t h'=>t= .bU []/\post (.bool true) h') [] s3) s1) ⟨rW fr ps ts,h,nx,nx⟩
def QW(P:Program)(k:Nat)(ps:Array Tmp)(ca cb:Code):Prop:= ∃ fn c,P.funcs[k]? =some fn/\fn.body=some c/\oO c=some (ps,ca,cb)
theorem DJ.yield{k:Nat}{ps:Array Tmp}{ca cb:Code}{aa bb:bC}{fr ts:List T}{h:Hp}{n:Nat}{post:T->Hp->Prop}(DK:QW P k ps ca cb)(ha:comp P ca=some aa)(hb:comp P cb=some bb)(H:DJ P aa bb ps.toList fr ts h n post) :
  wK P (.fn (8192+k) fr) ts h n post:=by
 obtain⟨h',hpost⟩:=H.ne;refine⟨⟨_,_,hpost⟩,fun F M E v vs hk he hv hts ajS vU hm hn p hp=>?_⟩;obtain⟨nx,i1,i2,i3,hrun⟩:=H.run;rw[aC rfl] at hv;simp only[aK] at hv;have ajx:Nat.blt (8192+k) 8192=false:=by
  cases hq:Nat.blt (8192+k) 8192 with
  |false=>rfl
  |true=>have:=cI.mp hq; omega
 obtain⟨hpk,hfr⟩:p.k=k/\bg E fr p.r.tmps.toList:=by
  rcases hv with ⟨h0,_⟩|⟨_,p',hp',hpk,_,hfr⟩
  ·rw[ajx] at h0; cases h0
  ·rw[hp] at hp'; cases hp'; exact⟨by omega,hfr⟩
 obtain⟨⟨hst,hpe⟩,⟨fn,c,q1,q2,q3⟩,hF,hheap⟩:=hk.gl.2 p hp;obtain⟨hps,hca,hcb⟩:p.r.params=ps/\p.r.assign=ca/\p.r.body=cb:=by
  obtain⟨fn',c',r1,r2,r3⟩:=DK;rw[hpk,r1] at q1; cases q1;rw[r2] at q2; cases q2;rw[r3] at q3; cases q3;exact⟨rfl,rfl,rfl⟩
 have hlen:=mJ hts;have hl0:E.w.heap[p.l]? =some (.loop p.r):=hheap;have hnc: ∀ (r:Loop) cs ty m,Obj.loop r≠ .cells cs ty m:=fun _ _ _ _ q=>by cases q
 refine⟨p.r.fn,_,p.r.assign,p.r.body,run_yield hheap ?_,roundIn_of_wpIn trivial ?_⟩
 ·rw[hps,List.size_toArray,hlen,H.len,br]
 rw[hca,hcb];have hk0:oD (F.defs []) (E.at E.w none):=(hk.dl []).at (bO _) (fun _ _=>rfl) (fun _ h=>.inl h) (fun _ _ h=>h) Yc (.inr fun i ob hi=>H.nh i ob (he▸hi));have R0:Rel (F.defs []) (· <nx) (E.at E.w none) ⟨rW fr ps.toList ts,h,nx,nx⟩ {tmps:=(p.r.params.zip vs.toArray).foldl (fun tmps (t,a)=>tmps.setIfInBounds t a) p.r.tmps,defers:=[]}:=by
  refine⟨hk0,he,?_,rfl,ZX i2 i1,i3⟩;have e:((p.r.params.zip vs.toArray).foldl (fun tmps (t,a)=>tmps.setIfInBounds t a) p.r.tmps).toList=(ps.toList.zip vs).foldl (fun(t:List Value) (x:Nat×Value)=>t.set x.1 x.2) p.r.tmps.toList:=by
   rw[<- acu,hps,<- Array.foldl_toList];simp
  show bg _ _ (Array.toList _);rw[e];exact ZW (wY (fun _ _=>rfl) ts (.inr H.nt) _ hts) (wY (fun _ _=>rfl) fr (.inr H.nf) _ hfr)
 refine wpIn_mono (yL (E:=E.at E.w none) (some p.l) ca ha hrun (bO _) R0) ?_;rintro e a1 w1 ⟨ae,E1,s1,rfl,rfl,⟨rfl,hB⟩,R1,hpn,hle,hext,hs⟩;have hl1:E1.w.heap[p.l]? =some (.loop p.r):=(hext.w _ (.inr hF)).trans hl0;refine⟨_,run_beginRound hl1 hst,?_⟩;have hy1:E1.y=none:=hext.y;have hlt1:p.l<E1.w.heap.size:=(cV.1 hl1).1;have R2:Rel (F.defs []) (· <s1.nx) (E1.at (E1.w.putObj p.l (.loop {p.r with state:=.busy})) none) s1 a1:=by
  refine⟨R1.hk.put hF hl1 (hnc _) Yc (.inl (.inr hy1)),R1.he,wY (fun b hb=>World.putObj_heap_other (R1.hk.other hF hl1 (hnc _) (.inl hb))) _ (.inl (.inr hy1)) _ R1.fr,R1.df,R1.mf,R1.mh⟩
 refine wpIn_mono (yL (E:=E1.at (E1.w.putObj p.l (.loop {p.r with state:=.busy})) none) (some p.l) cb hb hB (by rw[hpn]; exact hle) R2) ?_;rintro e a3 w3 ⟨ae,E3,s2,rfl,rfl,⟨rfl,s3,hN,hret⟩,R3,aiB,hle3,agh,hs3⟩;obtain⟨E4,hw4,R4,hx4,hs4,hp4,_⟩:=hN.sound R3 (by rw[aiB]; exact hle3);have hl3:E4.w.heap[p.l]? =some (.loop {p.r with state:=.busy}):=by
  rw[hw4,agh.w _ (.inr hF)]; exact World.putObj_heap_same hlt1
 refine⟨_,_,run_endRound none (by rw[<- hw4]; exact hl3),?_⟩;have ajy:p.l<E.w.heap.size:=(cV.1 hl0).1;have hx:Ext (F.defs []) ((E.at E.w none).at (E.w.putObj p.l (.loop {p.r with state:=.busy})) none) E4:=by
  have hz:=agh.trans hx4;refine⟨fun g hg=>hz.s g (hext.s g hg),fun g hg=>?_,?_,hz.os.trans hext.os,hz.tape.trans hext.tape,hz.output.trans hext.output,dg hext.dr hz.dr,hz.y⟩
  ·rw[hz.w g (hg.imp (hext.s g) id)];by_cases e:g=p.l
   ·subst e;show(E1.w.putObj p.l _).heap[p.l]? =(E.w.putObj p.l _).heap[p.l]?;rw[World.putObj_heap_same hlt1,World.putObj_heap_same ajy]
   ·show(E1.w.putObj p.l _).heap[g]? =(E.w.putObj p.l _).heap[g]?;rw[World.putObj_heap_other e,World.putObj_heap_other e];exact hext.w g hg
  ·have h1:=hz.size;have h2:=hext.size;simp only[World.putObj_size] at h1 ⊢;exact dg h2 h1
 have hsm:Same ((E.at E.w none).at (E.w.putObj p.l (.loop {p.r with state:=.busy})) none) E4 (· <nx):=by
  have h1:Same (E1.at (E1.w.putObj p.l (.loop {p.r with state:=.busy})) none) E4 (· <nx):=by
   have h3:=hs3.trans hs4 (M':=(· <s3.pin)) fun i hi=>by rw[hp4,aiB]; exact hi
   exact h3.weaken fun i hi=>by rw[hpn]; exact hi
  intro i hi hsome;obtain⟨g1,g2,g3⟩:=h1 i hi hsome;obtain⟨f1,f2,f3⟩:=hs i hi g1;exact⟨f1,g2.trans f2,g3.trans f3⟩
 obtain⟨v5,_,v6,t6,E5,hv6,hw5,⟨ht6,ahm⟩,_,hk5,hx5,hs5,_,ajz⟩:=hret.ends (fn:= {(default:Func) with results:= #[]}) (E:=(E.at E.w none).at (E.w.putObj p.l (.loop {p.r with state:=.busy})) none) (M:=M) rfl i3 (he▸hm) (fun i hi (e:i=n)=>hn (e▸hi)) R4 hx hsm;have hl5:E5.w.heap[p.l]? =some (.loop {p.r with state:=.busy}):=by rw[hw5]; exact hl3
 have aiC:p.l<E5.w.heap.size:=(cV.1 hl5).1;have hrec:({{p.r with state:=LoopState.busy} with state:=.ready,pending:=none}:Loop)=p.r:=by
  have h1:=hst; have h2:=hpe;cases hr:p.r;rw[hr] at h1 h2;simp only at h1 h2;rw[h1,h2]
 have hy5:E5.y=none:=hx5.y;have hw6:E3.w=E5.w:=by rw[hw5,hw4]
 refine⟨.bool true,.bool true,E5.at (E5.w.putObj p.l (.loop p.r)) (some p),rfl,?_,ahm,by rw[aV],?_,?_,?_,by simp[T.ids],ajz⟩
 ·show E5.w.putObj p.l (.loop p.r)=_;rw[hw6];simp only[Option.isNone_none,cW];rw[hrec]
 ·refine(hk5.Wn).put hF hl5 (hnc _) (fun q hq=>?_) (.inl (.inr hy5));cases hq;exact⟨⟨hst,hpe⟩,⟨fn,c,q1,q2,q3⟩,hF,World.putObj_heap_same aiC⟩
 ·refine⟨hx5.s,fun g hg=>?_,?_,hx5.os,hx5.tape,hx5.output,hx5.dr,hp.symm⟩
  ·by_cases e:g=p.l
   ·subst e; show(E5.w.putObj p.l _).heap[p.l]? =_; rw[World.putObj_heap_same aiC,hl0]
   ·show(E5.w.putObj p.l _).heap[g]? =_;rw[World.putObj_heap_other e,hx5.w g hg];exact World.putObj_heap_other e
  ·have:=hx5.size;simp only[World.putObj_size] at this ⊢;exact this
 ·exact fun i hi hsome=>hs5 i hi hsome
end
section
variable {P:Program}
structure Site where
 g:Nat
 ps:Array Tmp
 ca:Code
 cb:Code
 aa:bC
 bb:bC
def DL(P:Program):Code->Option (bC×Site×bC)
 | .seq x y=>match DL P x with
  |some (a,i,b)=>(comp P y).map fun y'=>(a,i,.seq b y')
  |none=>match comp P x,DL P y with
   |some x',some (a,i,b)=>some (.seq x' a,i,b)
   |_,_=>none
 | .block _ (.rangeFunc (.tmp g) ps ca cb)=>match comp P ca,comp P cb with
  |some aa,some bb=>some (.skip,⟨g,ps,ca,cb,aa,bb⟩,.skip)
  |_,_=>none
 |_=>none
theorem ZY: ∀ (c:Code) {ac:bC},comp P c=some ac->oO c=none:=by
 intro c;induction c with
 |seq x y ihx ihy =>
  intro ac h;simp only[comp] at h;split at h
  ·rename_i h1 h2;simp only[oO,ihx h1,ihy h2]
  ·cases h
 |cond c x y ihx ihy =>
  intro ac h;simp only[comp] at h;split at h
  ·rename_i h1 h2;simp only[oO,ihx h1,ihy h2]
  ·cases h
 |block id b ih =>
  intro ac h;simp only[comp,bX] at h;obtain⟨b',h1,_⟩:=h;simp only[oO,ih h1]
 |loop b ih =>
  intro ac h;simp only[comp,bX] at h;obtain⟨b',h1,_⟩:=h;simp only[oO,ih h1]
 |rangeFunc f ps x y=>intro ac h; cases h
 |scope b ih=>intro ac h; cases h
 |_=>intro ac _; rfl
theorem WU: ∀ (c:Code) {a b:bC} {i:Site},DL P c=some (a,i,b)->oO c=some (i.ps,i.ca,i.cb)/\comp P i.ca=some i.aa/\comp P i.cb=some i.bb:=by
 intro c;induction c with
 |seq x y ihx ihy =>
  intro a b i h;simp only[DL] at h;split at h
  ·rename_i hx;simp only[bX,eh] at h;obtain⟨y',_,rfl,rfl,rfl⟩:=h;obtain⟨q1,q2⟩:=ihx hx;exact⟨by simp only[oO,q1],q2⟩
  ·split at h
   ·rename_i h1 h2;cases h;obtain⟨q1,q2⟩:=ihy h2;exact⟨by simp only[oO,ZY _ h1,q1],q2⟩
   ·cases h
 |block id b ih =>
  intro a b' i h;cases b with
  |rangeFunc g ps ca cb =>
   cases g with
   |tmp g =>
    simp only[DL] at h;split at h
    ·rename_i h1 h2;cases h;exact⟨rfl,h1,h2⟩
    ·cases h
   |_=>cases h
  |_=>cases h
 |_=>intro a b i h; cases h
def Fr.mark(F:Fr P)(D:Nat):Fr P:= {s:=fun g=>F g\/g=D,dl:=[{target:=.collected D,args:= #[]}]}
def Ye(P:Program)(k:Nat)(i:Site)(K:AS->Prop)(s:AS):Prop :=
 ∃ (RG:List T) (gf:FuncId) (cap:List T) (KH:Hp->Prop),
  T.dG (fun _=>False) s.hp RG s.fr/\T.fH RG=true/\T.aN (· <s.nx) RG/\(∀ i ob,s.hp i=some ob->T.fH ob.l=true)/\s.ev (.t i.g)= .fn gf cap/\gf<4096/\T.fH cap=true /\
  ((∀ ts h n post,DJ P i.aa i.bb i.ps.toList RG ts h n post->wK P (.fn (8192+k) RG) ts h n post)->aO P gf (.fn (8192+k) RG::cap) s.hp s.nx fun _ h'=>KH h') /\
  ∀ h',KH h'->(∀ i ob,h' i=some ob->T.fH ob.l=true)/\K ⟨RG,h',s.nx+1,s.pin⟩
def agi(F:Fr P)(E:Env)(pn:Nat)(Q:ng->AS->Prop)(e:Exit)(a':Act)(w':World):Prop :=
 ∃ D,E.w.heap.size<=D/\ ∃ ae E' s',e=V4 ae/\E'.w=w'/\Q ae s'/\Rel (F.mark D) (· <s'.nx) E' s' a'/\s'.pin=pn/\pn<=s'.nx/\Ext F E E'/\Same E E' (· <pn)/\E'.w.heap[D]? =some (.deferred (some []))
theorem acv{E:Env}: ∀ {l:List T} {vs:List Value},aS E l vs->bg E l vs:=by
 intro l;induction l with
 |nil=>intro vs h; simp[aS] at h; subst h; simp[bg]
 |cons t ts ih =>
  intro vs h;simp only[aS] at h;obtain⟨hk,v,r,rfl,_,h1,h2⟩:=h;rw[bW]; exact⟨v,r,rfl,.inr ⟨hk,h1⟩,ih h2⟩
theorem ahn{F:Fr P}{E:Env}(hk:oD F E){RG fr:List T}{vs:List Value}(hs:T.dG (fun _=>False) E.h RG fr)(h:bg E fr vs):bg E RG vs:=by
 have:=pK hk (Z:=fun _=>False) _ _ hs _ h;refine gX (E:=E.shut fun _=>False) (E':=E) _ (fun _=>True) ⟨fun b hb=>?_,fun _ _=>rfl,fun i _ hi=>⟨?_,rfl,rfl⟩,rfl⟩ (uU _) _ this
 ·rcases hb with hb|⟨_,_,hf,_⟩
  ·exact hb
  ·exact hf.elim
 ·rw[wU (fun h=>h)]; exact hi
theorem ae3{F:Fr P}{E:Env}{s:AS}{a:Act}{k:Nat}{i:Site}(DK:QW P k i.ps i.ca i.cb)(ha:comp P i.ca=some i.aa)(hb:comp P i.cb=some i.bb){Q:ng->AS->Prop}(hp:s.pin<=s.nx)(hdl:F.dl=[])(R:Rel F (· <s.nx) E s a)
  (H:Ye P k i (Q .normal) s):(Code.rangeFunc (.tmp i.g) i.ps i.ca i.cb).wpIn Fence.wide 0 P (agi F E s.pin Q) a E.w:=by
 obtain⟨RG,gf,cap,KH,hsub,hnf,hif,hnh,hg,hgf,hncap,hIt,hKH⟩:=H;have hfr:bg E RG a.tmps.toList:=ahn R.hk (R.he▸hsub) R.fr;have hev:=dK R (x:=.tmp i.g) rfl;have hei:=lJ R (x:=.tmp i.g) rfl;rw[hg] at hev hei;rw[aC rfl] at hev;simp only[aK] at hev;obtain⟨cs,hav,hcs⟩: ∃ cs:Array Value,a.eval (.tmp i.g)= .func (.func gf) #[] cs/\aS E cap cs.toList:=by
  rcases hev with ⟨_,cs,h1,h2⟩|⟨h0,_⟩
  ·refine⟨cs,?_,h2⟩;simp only[eB,and_true] at h1;rw[h1,LK hgf]
  ·rw[cI.mpr (Nat.lt_trans hgf (by decide))] at h0; cases h0
 refine wpIn_rangeFunc fun fn _=>?_
 obtain⟨D,hD⟩: ∃ D,E.w.heap.size=D:=⟨_,rfl⟩
 obtain⟨rc,hrc⟩: ∃ rc:Loop,rc= {state:=.ready,pending:=none,fn:=fn,tmps:=a.tmps,params:=i.ps,assign:=i.ca,body:=i.cb,defers:=E.w.heap.size}:=⟨_,rfl⟩
 obtain⟨W1,hW1⟩: ∃ W1,(E.w.alloc (.deferred (some []))).alloc (.loop rc)=W1:=⟨_,rfl⟩
 have hsz:W1.heap.size=D+2:=by rw[<- hW1,<- hD]; simp
 have hL1:W1.heap[D+1]? =some (.loop rc):=by
  rw[<- hW1,<- hD]; have:=World.alloc_heap_new (E.w.alloc (.deferred (some []))) (.loop rc); rwa [World.size_alloc] at this
 have hK1:W1.heap[D]? =some (.deferred (some [])):=by
  rw[<- hW1,<- hD]; exact(iJ _ _ (by simp)).trans (World.alloc_heap_new E.w _)
 have hold: ∀ g,g<D->W1.heap[g]? =E.w.heap[g]? :=fun g hg=>by
  rw[<- hW1];exact(iJ _ _ (by simp; omega)).trans (iJ _ _ (by omega))
 have hours: ∀ g,(E.S g\/(∃ i ob,E.h i=some ob/\rowB (E.φ i)=some g)\/(uS P g).isSome=true)->g<D:=fun g hg=>by
  rw[<- hD];rcases hg with hg|⟨j,ob,hj,hg⟩|hg
  ·exact R.hk.slt g hg
  ·exact(R.hk.obs j ob hj).1.lt hg
  ·obtain⟨c,hc⟩:=am.1 hg;exact R.hk.flt g (R.hk.gl.1 g c hc).1
 let p:Yd:=⟨D+1,rc,k⟩
 let F1:Fr P:= {s:=fun g=>F g\/g=D\/g=D+1}
 have hk1:oD F1 (E.at W1 (some p)):=by
  refine R.hk.at (by omega) (fun g hg=>hold g (hours g hg)) (fun g hg=>?_) (fun g _ h=>.inl h) (fun q hq=>?_) (.inr fun j ob hj=>hnh j ob (R.he▸hj))
  ·rcases hg with hg|rfl|rfl
   ·exact .inl hg
   ·exact .inr ⟨by omega,by omega⟩
   ·exact .inr ⟨by omega,by omega⟩
  ·cases hq;obtain⟨f0,c0,q1,q2,q3⟩:=DK;refine⟨⟨by show rc.state=_; rw[hrc],by show rc.pending=_; rw[hrc]⟩,⟨f0,c0,q1,q2,?_⟩,.inr (.inr rfl),hL1⟩;show _=some (rc.params,rc.assign,rc.body);rw[q3,hrc]
 have hrep:bg (E.at W1 (some p)) (.fn (8192+k) RG::cap) (.func (.yield (D+1)) #[] #[]::cs.toList):=by
  rw[bW];refine⟨_,_,rfl,?_,wY (fun b hb=>hold b (hours b (.inl hb))) cap (.inr hncap) _ (acv hcs)⟩;rw[aC rfl];simp only[aK];refine .inr ⟨?_,p,rfl,f5 _ _,rfl,?_⟩
  ·cases hq:Nat.blt (8192+k) 8192 with
   |false=>rfl
   |true=>have:=cI.mp hq; omega
  ·show bg _ RG rc.tmps.toList;rw[hrc];exact wY (fun b hb=>hold b (hours b (.inl hb))) RG (.inr hnf) _ hfr
 obtain⟨_,hcl,hcall⟩:=hIt fun ts h n post hr=>hr.yield DK ha hb
 have acw:=hcall F1 (· <s.nx) (E.at W1 (some p)) _ hk1 R.he hrep ⟨by simpa [T.ids] using hif,by simpa [T.ids] using hei⟩ R.mh (gN _);refine⟨D+1,[{target:=.collected D,args:= #[]}],W1,{target:=.fn (.func gf) cs,args:= #[.func (.yield (D+1)) #[] #[]]},W1,gf,#[.func (.yield (D+1)) #[] #[]]++cs,W1,?_,?_,fun _ _=>trivial,?_,(fun q=>by cases q),callsIn_wide.2 ?_⟩
 ·have:=run_enterLoop_outer (P:=P) (w:=E.w) fn a.tmps i.ps i.ca i.cb;rw[<- hrc,hW1,hD] at this;exact this
 ·simp only[resolve,hav];simp[go_sem]
 ·simp only[invoke];exact hcl _ _
 ·have e2:(Value.func (.yield (D+1)) #[] #[]::cs.toList).toArray= #[.func (.yield (D+1)) #[] #[]]++cs:=by
   apply gP; simp
  rw[e2] at acw;refine acw.mono ?_;rintro e w2 ⟨v,t,E2,rfl,rfl,ajA,_,hk2,hx2,hs2,_,hm2⟩;have hl2:E2.w.heap[D+1]? =some (.loop rc):=(hx2.w _ (.inr (.inr (.inr rfl)))).trans hL1;have hno: ∀ g,(E2.S g\/(∃ i ob,E2.h i=some ob/\rowB (E2.φ i)=some g)\/(uS P g).isSome=true)->g≠D+1:=fun g hg=>hk2.other (.inr (.inr rfl)) hl2 (fun _ _ _ q=>by cases q) hg
  obtain⟨ajB,hQ⟩:=hKH _ ajA;have aiD:rc.pending=none:=by rw[hrc]
  have hend:(Instr.endLoop (D+1)).run P E2.w= .ok none (E2.w.putObj (D+1) (.loop {rc with state:=.exhausted})):=(run_endLoop (P:=P) hl2 (by rw[hrc]; simp)).trans (by rw[aiD]);refine⟨none,_,hend,?_⟩;have hch: ∀ g,E.S g\/F g->(E2.w.putObj (D+1) (.loop {rc with state:=.exhausted})).heap[g]? =E.w.heap[g]? :=fun g hg=>by
   have hlt:g<D:=by
    rw[<- hD];rcases hg with hg|hg
    ·exact R.hk.slt g hg
    ·exact R.hk.flt g hg
   rw[World.putObj_heap_other (by omega),hx2.w g (hg.imp id .inl)];exact hold g hlt
  have hx3:Ext F E (E2.at (E2.w.putObj (D+1) (.loop {rc with state:=.exhausted})) E.y):=by
   refine⟨fun g hg=>hx2.s g hg,hch,?_,?_,?_,?_,?_,rfl⟩
   ·have:=hx2.size;show E.w.heap.size<=(E2.w.putObj _ _).heap.size;rw[World.putObj_size];have h2:W1.heap.size<=E2.w.heap.size:=this;omega
   ·show E2.w.os=_; rw[hx2.os]; show W1.os=_; rw[<- hW1]; rfl
   ·show E2.w.tape=_; rw[hx2.tape]; show W1.tape=_; rw[<- hW1]; rfl
   ·show E2.w.output=_; rw[hx2.output]; show W1.output=_; rw[<- hW1]; rfl
   ·refine dg ?_ hx2.dr;show _<=W1.drawn;rw[<- hW1]; exact bO _
  have hs3:Same E (E2.at (E2.w.putObj (D+1) (.loop {rc with state:=.exhausted})) E.y) (· <s.nx):=fun j hj hsome=>hs2 j hj hsome
  have hconv: ∀ j,(j<s.nx\/j=s.nx)->j<s.nx+1:=fun j hj=>by omega
  refine⟨D,by omega,.normal,E2.at (E2.w.putObj (D+1) (.loop {rc with state:=.exhausted})) E.y,⟨RG,E2.h,s.nx+1,s.pin⟩,rfl,rfl,hQ,⟨?_,rfl,?_,?_,?_,?_⟩,rfl,?_,hx3,hs3.weaken fun j hj=>?_,?_⟩
  ·refine hk2.at (by simp) (fun g hg=>World.putObj_heap_other (hno g hg)) (fun g hg=>.inl (hg.imp id .inl)) (fun g hg h=>?_) ?_ (.inr ajB)
   ·rcases h with h|h|h
    ·exact .inl h
    ·exact .inr h
    ·exact absurd h (hno g (.inr (.inr hg)))
   ·exact R.hk.gl.2.of (E:=E) (fun _ h=>.inl h) (fun g hg=>hch g (.inr hg)) rfl
  ·exact gX _ _ (.of hx3 hs3) hif _ hfr
  ·show [_]++a.defers=_;rw[R.df,hdl]; rfl
  ·exact T.aA (fun j (hj:j<s.nx)=>by show j<s.nx+1; omega) _ hif
  ·exact fun j ob hj=>⟨hconv j (hm2 j ob hj).1,T.aA hconv _ (hm2 j ob hj).2⟩
  ·show s.pin<=s.nx+1; omega
  ·show j<s.nx; have:j<s.pin:=hj; omega
  ·show(E2.w.putObj (D+1) _).heap[D]? =_;rw[World.putObj_heap_other (by omega),hx2.w D (.inr (.inr (.inl rfl)))];exact hK1
theorem acy{F:Fr P}{k:Nat}(hdl:F.dl=[]): ∀ (c:Code) {a b:bC} {i:Site},DL P c=some (a,i,b)->QW P k i.ps i.ca i.cb-> ∀ {Q:ng->AS->Prop} {E:Env} {s:AS} {act:Act},s.pin<=s.nx->Rel F (· <s.nx) E s act ->
  aw P a (fun e s'=>e= .normal/\Ye P k i (fun s''=>aw P b Q s'') s') s->c.wpIn Fence.wide 0 P (agi F E s.pin Q) act E.w:=by
 intro c;induction c with
 |seq x y ihx ihy =>
  intro a b i hc DK Q E s act hle R H;simp only[DL] at hc;split at hc
  ·rename_i a1 i1 b1 hx;simp only[bX,eh] at hc;obtain⟨y',hy,rfl,rfl,rfl⟩:=hc;refine wpIn_seq (wpIn_mono (ihx hx DK (Q:=fun e s=>match e with| .normal=>aw P y' Q s|e=>Q e s) hle R H) ?_);rintro e a' w' ⟨D,hD,ae,E',s',rfl,rfl,hQ,R',hpn,hle',hext,hs,hDh⟩;cases ae with
   |normal =>
    refine wpIn_mono (yL none y hy hQ (by rw[hpn]; exact hle') R') ?_;rintro e a2 w2 ⟨ae,E2,s2,rfl,rfl,hQ2,R2,acz,hle2,DN,hs2⟩;rw[hpn] at acz hle2 hs2;refine⟨D,hD,ae,E2,s2,rfl,rfl,hQ2,R2,acz,hle2,hext.trans ⟨DN.s,fun g hg=>DN.w g (hg.imp id .inl),DN.size,DN.os,DN.tape,DN.output,DN.dr,DN.y⟩,hs.trans hs2 fun _ h=>h,?_⟩;rw[DN.w D (.inr (.inr rfl))]; exact hDh
   |exit id=>exact⟨D,hD,.exit id,E',s',rfl,rfl,hQ,R',hpn,hle',hext,hs,hDh⟩
   |ret=>exact⟨D,hD,.ret,E',s',rfl,rfl,hQ,R',hpn,hle',hext,hs,hDh⟩
  ·split at hc
   ·rename_i x' a1 i1 b1 h1 h2;cases hc;simp only[aw] at H;refine wpIn_seq (wpIn_mono (yL none x h1 H hle R) ?_);rintro e a' w' ⟨ae,E',s',rfl,rfl,hQ,R',hpn,hle',hext,hs⟩;cases ae with
    |normal =>
     refine wpIn_mono (ihy h2 DK (Q:=Q) (by rw[hpn]; exact hle') R' hQ) ?_;rintro e a2 w2 ⟨D,hD,ae,E2,s2,rfl,rfl,hQ2,R2,acz,hle2,DN,hs2,hDh⟩;rw[hpn] at acz hle2 hs2;exact⟨D,dg hext.size hD,ae,E2,s2,rfl,rfl,hQ2,R2,acz,hle2,hext.trans DN,hs.trans hs2 fun _ h=>h,hDh⟩
    |exit id=>exact absurd hQ.1 (by simp)
    |ret=>exact absurd hQ.1 (by simp)
   ·cases hc
 |block id b ih =>
  intro a b' i hc DK Q E s act hle R H;cases b with
  |rangeFunc g ps ca cb =>
   cases g with
   |tmp g =>
    simp only[DL] at hc;split at hc
    ·rename_i h1 h2;cases hc;simp only[aw] at H;refine wpIn_block (wpIn_mono (ae3 (i:=⟨g,ps,ca,cb,_,_⟩) DK h1 h2 (Q:=fun e s=>e= .normal/\Q .normal s) hle hdl R ?_) ?_)
     ·obtain⟨RG,gf,cap,KH,q1,q2,q3,q4,q5,q6,q7,q8,q9⟩:=H.2;exact⟨RG,gf,cap,KH,q1,q2,q3,q4,q5,q6,q7,q8,fun h' hk=>⟨(q9 h' hk).1,rfl,(q9 h' hk).2⟩⟩
     ·rintro e a' w' ⟨D,hD,ae,E',s',rfl,rfl,⟨rfl,hQ⟩,R',hpn,hle',hext,hs,hDh⟩;exact⟨D,hD,.normal,E',s',rfl,rfl,hQ,R',hpn,hle',hext,hs,hDh⟩
    ·cases hc
   |_=>cases hc
  |_=>cases hc
 |_=>intro a b i hc; cases hc
theorem aO.acA{f:FuncId}{fn:Func}{c:Code}{a b:bC}{i:Site}{rs:List RV}{ts:List T}{h:Hp}{n nx nt:Nat}{post:T->Hp->Prop}(hf:P.funcs[f]? =some fn)(hb:fn.body=some c)(hc:DL P c=some (a,i,b))
  (hr:kD P fn.results.toList=some rs) (hcl:callable P f) (hnt:fn.ntmps=nt) (hin: ∃ t h',post t h') (hts:T.aN (· <nx) ts) (hh:nR (· <nx) h)
  (H:aw P a (fun e s'=>e= .normal/\Ye P f i (fun s''=>aw P b (Done h n post rs) s'') s') ⟨ts++List.replicate (nt-ts.length) T.un,h,nx,nx⟩):aO P f ts h n post:=by
 refine⟨hin,hcl,fun F M E vs hk he hrep _ hm hn=>callsIn_wide.1 (callsIn_of_wp_marks (F:=Fence.wide) (n:=0) hf hb trivial ?_)⟩;subst hnt;have DK:QW P f i.ps i.ca i.cb:=⟨fn,c,hf,hb,(WU c hc).1⟩
 refine wpIn_mono (acy (F:=F.defs []) rfl c hc DK (Q:=Done h n post rs) (bO _) (Rel.enter rfl (hk.dl []) he hrep hts hh) H) ?_;rintro e a' w' ⟨D,hD,ae,E',s',rfl,rfl,hQ,R',hpn,hle,hext,hs,hDh⟩;have key:(∃ s1,GR s1 s'/\Ret h n post rs s1)->LeavesInM Fence.wide 0 P fn a'.tmps (Ends F M E n post) a'.defers .returning E'.w:=by
  rintro⟨s1,hN,hret⟩;obtain⟨E1,hw1,R1,hx1,hs1,hp1,_⟩:=hN.sound R' (by rw[hpn]; exact hle);have hdf:a'.defers=[{target:=.collected D,args:= #[]}]:=R'.df;rw[hdf];refine⟨by simp,.inl ⟨D,_,rfl,run_takeDeferred hDh,?_⟩⟩;rw[<- hw1];have hD1:E1.w.heap[D]? =some (.deferred (some [])):=by rw[hw1]; exact hDh
  have hno: ∀ g,(E1.S g\/(∃ i ob,E1.h i=some ob/\rowB (E1.φ i)=some g)\/(uS P g).isSome=true)->g≠D:=fun g hg=>R1.hk.other (.inr rfl) hD1 (fun _ _ _ q=>by cases q) hg
  have ajC: ∀ g,E.S g\/F g->g≠D:=fun g hg e=>by
   subst e;rcases hg with hg|hg
   ·have:=hk.slt _ hg; omega
   ·have:=hk.flt _ hg; omega
  have R7:Rel (F.defs []) (· <s1.nx) (E1.at (E1.w.putObj D (.deferred none)) E1.y) s1 {tmps:=a'.tmps,defers:=[]}:=by
   refine⟨R1.hk.at (by simp) (fun g hg=>World.putObj_heap_other (hno g hg)) (fun g hg=>.inl (.inl hg)) (fun g hg h=>?_) (fun q hq=>?_) (.inl (.inl rfl)),R1.he,wY (fun b hb=>World.putObj_heap_other (hno b (.inl hb))) _ (.inl (.inl rfl)) _ R1.fr,rfl,R1.mf,R1.mh⟩
   ·rcases h with h|h
    ·exact h
    ·exact absurd h (hno g (.inr (.inr hg)))
   ·obtain⟨h0,h1,h2,h3⟩:=R1.hk.gl.2 q hq;have hne:q.l≠D:=fun e=>by rw[e,hD1] at h3; cases h3
    rcases h2 with h2|h2
    ·exact⟨h0,h1,h2,(World.putObj_heap_other hne).trans h3⟩
    ·exact absurd h2 hne
  have hx7:Ext (F.defs []) E (E1.at (E1.w.putObj D (.deferred none)) E1.y):=by
   refine⟨fun g hg=>hx1.s g (hext.s g hg),fun g hg=>?_,?_,hx1.os.trans hext.os,hx1.tape.trans hext.tape,hx1.output.trans hext.output,dg hext.dr hx1.dr,hx1.y.trans hext.y⟩
   ·show(E1.w.putObj D _).heap[g]? =_;rw[World.putObj_heap_other (ajC g hg),hx1.w g (hg.imp (hext.s g) .inl),hext.w g hg]
   ·show _<=(E1.w.putObj D _).heap.size;rw[World.putObj_size];exact dg hext.size hx1.size
  have hs7:Same E (E1.at (E1.w.putObj D (.deferred none)) E1.y) (· <nx):=by
   have:=hs.trans hs1 (M':=(· <s1.pin)) fun j hj=>by rw[hp1,hpn]; exact hj
   exact fun j hj hsome=>this j hj hsome
  obtain⟨v,hrun,aiE⟩:=hret.ends (M:=M) hr hh hm (fun j hj (e:j=n)=>hn (e▸hj)) R7 hx7 hs7;exact⟨v,hrun,E9.Wn (N:=fun i=>i=n) aiE⟩
 cases ae with
 |normal=>exact key hQ
 |ret=>exact key hQ
 |exit id=>exact hQ.elim
end
mutual
def V.qN:V->Bool
 | .fn f l=>Nat.blt f 8192&&V.fH l
 | .agg l=>V.fH l
 | .bU l=>V.fH l
 | .Cj _ _ l=>V.fH l
 | .ref _ v=>V.qN v
 | .cnd _ _=>false
 | .raw t=>T.qN t
 |_=>true
def V.fH:List V->Bool
 |[]=>true
 |v::r=>V.qN v&&V.fH r
end
theorem fQ{α:Type}{f:α->T}(h: ∀ x,(f x).qN=true): ∀ l:List α,T.fH (l.map f)=true:=by
 intro l;induction l with
 |nil=>rfl
 |cons x r ih=>simp only[bp,T.fH,h x,ih,eR]
theorem uf(l:List Int):T.fH (l.map T.int)=true:=fQ (fun _=>rfl) l
theorem Nb(l:List Int):(Go.Ab.ints l).qN=true:=uf l
theorem Yf(x:BA):(Oo x).qN=true:=by simp[Oo,T.qN,T.fH]
theorem Ud(x:Rule):(Hl x).qN=true:=by
 simp[Hl,eS,T.qN,T.fH,uf,fQ Yf]
theorem Dat.qN(d:Dat):d.aI.qN=true:=by
 cases d with
 |lin x=>simp[Dat.aI,Om,T.qN,T.fH]
 |RF x=>exact Yf x
 |rule x=>exact Ud x
 |fM x=>simp[Dat.aI,XM,eS,T.qN,T.fH,uf,fQ (f:=eS) (fun _=>rfl),fQ (f:=Om) (fun x=>by simp[Om,T.qN,T.fH]),fQ Ud]
 |cnt x=>simp[Dat.aI,Oq,T.qN,T.fH,uf]
 |prop x=>simp[Dat.aI,abL,eS,T.qN,T.fH,uf,fQ (f:=Oq) (fun x=>by simp[Oq,T.qN,T.fH,uf])]
 |clause x=>simp[Dat.aI,Ho,T.qN,T.fH,uf,fQ Nb]
 |elem x=>simp[Dat.aI,fG,T.qN,T.fH,uf]
theorem Rw.qN(r:Rw):T.fH r.aQ=true:=by
 cases r with
 |ints l=>exact uf l
 |bools l=>exact fQ (fun _=>rfl) l
 |strs l=>exact fQ (fun _=>rfl) l
 |dV l=>exact fQ Nb l
 |mM l=>exact fQ (f:=abN) (fun l=>fQ (f:=T.bool) (fun _=>rfl) l) l
 |mO l=>exact fQ (f:=abO) (fun l=>fQ (f:=Go.Ab.ints) Nb l) l
 |Ci l=>exact fQ (fun x=>Dat.qN (.lin x)) l
 |rC l=>exact fQ (fun x=>Dat.qN (.RF x)) l
 |rules l=>exact fQ (fun x=>Dat.qN (.rule x)) l
 |cnts l=>exact fQ (fun x=>Dat.qN (.cnt x)) l
 |clauses l=>exact fQ (fun x=>Dat.qN (.clause x)) l
 |elems l=>exact fQ (fun x=>Dat.qN (.elem x)) l
 |nil=>rfl
mutual
theorem V.F5:(v:V)->v.qN=true->v.aI.qN=true
 | .int _,_=>rfl
 | .bool _,_=>rfl
 | .u8 _,_=>rfl
 | .str _,_=>rfl
 | .dat d,_=>d.qN
 | .agg l,h=>by simp only[V.qN,V.aI,T.qN] at h ⊢; exact V.vH l h
 | .row _ _ r,_=>r.qN
 | .Cj _ _ l,h=>by simp only[V.qN,V.aI,T.qN] at h ⊢; exact V.vH l h
 | .ref _ v,h=>by simp only[V.qN,V.aI,T.qN] at h ⊢; exact V.F5 v h
 | .own _,_=>rfl
 | .inn _,_=>rfl
 | .pin _ _ _,_=>rfl
 | .ptr _ _ _,_=>rfl
 | .oG _ _ _,_=>rfl
 | .fn f l,h=>by
  simp only[V.qN,V.aI,T.qN,aD] at h ⊢;exact⟨h.1,V.vH l h.2⟩
 | .bU l,h=>by simp only[V.qN,V.aI,T.qN] at h ⊢; exact V.vH l h
 | .cnd _ _,h=>by cases h
 | .raw t,h=>h
theorem V.vH:(l:List V)->V.fH l=true->T.fH (V.aQ l)=true
 |[],_=>rfl
 |v::r,h=>by
  simp only[V.fH,V.aQ,T.fH,aD] at h ⊢;exact⟨V.F5 v h.1,V.vH r h.2⟩
end
def OV.qN:OV->Bool
 | .row _ _ _ x=>V.fH x
 | .box _ _ v=>v.qN
 | .map _ _ x=>x.all fun e=>e.2.qN
 | .gen _ _ x=>V.fH x
theorem Ue{a b:List T}(h1:T.fH a=true)(h2:T.fH b=true):T.fH (a++b)=true:=by
 induction a with
 |nil=>exact h2
 |cons t r ih=>simp only[T.fH,aD,cw] at h1 ⊢; exact⟨h1.1,ih h1.2⟩
theorem OV.F5{o:OV}(h:o.qN=true):T.fH o.ay.l=true:=by
 cases o with
 |row ty k r x=>exact Ue r.qN (V.vH x h)
 |box ty k v =>
  simp only[OV.ay,T.fH,dx];exact V.F5 v h
 |map ty es x =>
  refine Ue (fQ (fun e=>?_) es) ?_
  ·simp only[abP,T.qN,T.fH,dx,cj];exact fQ (fun _=>rfl) _
  ·simp only[OV.qN,cA] at h
   have: ∀ l:List (Int×V),(∀ e∈l,e.2.qN=true)->T.fH (l.map Zy)=true:=by
    intro l;induction l with
    |nil=>intro _; rfl
    |cons e r ih =>
     intro q;simp only[bp,T.fH,aD];exact⟨by simp only[Zy,T.qN,T.fH,dx,cj]; exact V.F5 _ (q e (by simp)),ih fun e he=>q e (by simp[he])⟩
   exact this x h
 |gen ty k x=>exact V.vH x h
def JV:Hz->Bool
 |[]=>true
 |(_,some o)::r=>o.qN&&JV r
 |(_,none)::r=>JV r
theorem QX: ∀ {h:Hz},JV h=true-> ∀ i ob,h.au i=some ob->T.fH ob.l=true:=by
 intro h;induction h with
 |nil=>intro _ i ob q; cases q
 |cons p r ih =>
  obtain⟨j,o⟩:=p;intro hq i ob q;rw[oU] at q;cases o with
  |none =>
   split at q
   ·cases q
   ·exact ih hq i ob q
  |some o =>
   simp only[JV,aD] at hq;split at q
   ·cases q; exact OV.F5 hq.1
   ·exact ih hq.2 i ob q
def frV(N:Nat)(m:Fm):List V:=(List.range N).map fun i=>match m.get i with|some v=>v|none=>.raw .any
theorem Yg{N:Nat}{m:Fm}:V.aQ (frV N m)=rF N m:=by
 rw[iP,frV,rF,cp];refine cK fun i _=>?_
 simp only[Function.comp];cases m.get i<;>rfl
def Z4(nx N:Nat):Fm->Bool
 |[]=>true
 |(i,v)::r=>v.qN&&T.lt nx v.aI&&Nat.blt i N&&Z4 nx N r
theorem Nc{nx N:Nat}: ∀ {m:Fm},Z4 nx N m=true-> ∀ {i:Nat} {v:V},m.get i=some v->v.qN=true/\T.lt nx v.aI=true/\i<N:=by
 intro m;induction m with
 |nil=>intro _ i v q; cases q
 |cons p r ih =>
  obtain⟨j,u⟩:=p;intro h i v q;simp only[Z4,aD] at h;simp only[Fm.get] at q;cases hb:Nat.beq j i with
  |true=>rw[hb] at q; cases q; exact⟨h.1.1.1,h.1.1.2,by rw[<- fA hb]; exact cI.mp h.1.2⟩
  |false=>rw[hb] at q; exact ih h.2 q
theorem acB{l:List T}(h: ∀ t∈l,t.qN=true):T.fH l=true:=by
 induction l with
 |nil=>rfl
 |cons t r ih=>simp only[T.fH,aD]; exact⟨h t (by simp),ih fun u hu=>h u (by simp[hu])⟩
theorem ae4{nx N:Nat}{m:Fm}(h:Z4 nx N m=true):T.fH (rF N m)=true:=by
 refine acB fun t ht=>?_
 simp only[rF,bA] at ht;obtain⟨i,_,rfl⟩:=ht;split
 ·rename_i v hv; exact V.F5 v (Nc h hv).1
 ·rfl
section
variable {P:Program}
def QN(X:Fm->Hz->Nat->Prop):Qz
 | .normal,m,h,n=>X m h n
 |_,_,_,_=>False
def Nh:List Nat->List V->Fm->Fm
 |p::ps,v::vs,m=>Nh ps vs ((p,v)::m)
 |_,_,m=>m
theorem Z5: ∀ {ps:List Nat} {vs:List V} {m:Fm} {fr:List T},(∀ p∈ps,p<fr.length)->Rp m fr->Rp (Nh ps vs m) (rW fr ps (V.aQ vs)):=by
 intro ps;induction ps with
 |nil=>intro vs m fr _ h; simp only[rW,Nh]; exact h
 |cons p ps ih =>
  intro vs m fr hp h;cases vs with
  |nil=>simp only[rW,Nh,V.aQ]; exact h
  |cons v vs =>
   simp only[Nh,V.aQ,rW];refine ih (fun q hq=>by rw[co]; exact hp q (by simp[hq])) ?_;intro i u q;simp only[Fm.get] at q;cases hb:Nat.beq p i with
   |true =>
    rw[hb] at q; cases q;rw[<- fA hb,List.getElem?_set_self (hp p (by simp))]
   |false =>
    rw[hb] at q;rw[dy (fun e=>cG hb e)];exact h i u q
theorem Z7: ∀ {ps:List Nat} {ts fr:List T},(rW fr ps ts).length=fr.length:=by
 intro ps;induction ps with
 |nil=>intro ts fr; simp only[rW]
 |cons p ps ih =>
  intro ts fr;cases ts with
  |nil=>simp only[rW]
  |cons t ts=>simp only[rW]; rw[ih,co]
def Uf(N:Nat):List Nat->Bool
 |[]=>true
 |p::r=>Nat.blt p N&&Uf N r
theorem acC{N:Nat}: ∀ {l:List Nat},Uf N l=true-> ∀ p∈l,p<N:=by
 intro l;induction l with
 |nil=>intro _ p hp; cases hp
 |cons q r ih =>
  intro h p hp;simp only[Uf,aD] at h;rcases bm.1 hp with rfl|hp
  ·exact cI.mp h.1
  ·exact ih h.2 p hp
theorem Ug{l:List V}:Rp (rD 0 l) (V.aQ l):=by
 have:=rE (l:=l) (n:=0);simpa using this
theorem ZC.round{k nt n:Nat}{aa bb:bC}{ps:List Nat}{cap args:List V}{h:Hz}{K:V->Hz->Prop}(hY: ∀ ts h n post,DJ P aa bb ps (V.aQ cap) ts h n post->wK P (.fn (8192+k) (V.aQ cap)) ts h n post)(nx:Nat)
  (hnt:cap.length=nt) (c1:(V.fH cap&&V.fH args&&JV h&&T.J9 nx (V.aQ cap)&&T.J9 nx (V.aQ args)&&Ar nx h&&Nat.beq args.length ps.length&&Uf nt ps&&lq nt aa&&lq nt bb)=true) (hin: ∃ h',K (.bool true) h')
  (H:az P nt nx aa (QN fun m h1 nx1=>az P nt nx bb (QN fun _ h2 _=>gG h n (fun t hp=>t= .bU []/\ ∃ h':Hz,hp=h'.au/\K (.bool true) h') (.bU []) h2) m h1 nx1) (Nh ps args (rD 0 cap)) h nx):ZC P (8192+k) cap args h n K:=by
 simp only[aD] at c1;obtain⟨⟨⟨⟨⟨⟨⟨⟨⟨d1,d2⟩,d3⟩,d4⟩,d5⟩,d6⟩,d7⟩,d8⟩,d9⟩,d10⟩:=c1;have hG:=Au d6;have hlen:(V.aQ cap).length=nt:=by rw[dA]; exact hnt
 refine⟨hY _ _ _ _ ⟨V.vH _ d1,V.vH _ d2,QX d3,?_,?_,nx,BG d4,BG d5,(fun i ob hi=>⟨(hG i ob hi).1,(hG i ob hi).2.1⟩),?_⟩⟩
 ·rw[dA]; exact fA d7
 ·obtain⟨h',hk⟩:=hin;exact⟨h'.au,.bool true,h',rfl,rfl,hk⟩
 ·have:=jO (P:=P) (N:=nt) (pn:=nx) (s:=⟨rW (V.aQ cap) ps (V.aQ args),h.au,nx,nx⟩) d9 (by rw[Z7]; exact hlen) (Z5 (fun p hp=>by rw[hlen]; exact acC d8 p hp) Ug) rfl rfl H;refine jk ?_ this;rintro e s ⟨m,h1,a1,a2,a3,a4,a5⟩;cases e with
  |exit j=>exact a5.elim
  |ret=>exact a5.elim
  |normal =>
   refine⟨rfl,?_⟩;have:=jO (P:=P) (N:=nt) (pn:=nx) (s:=s) d10 a1 a2 a3 a4 a5;refine jk ?_ this;rintro e s2 ⟨m2,h2,b1,b2,b3,b4,b5⟩;cases e with
   |exit j=>exact b5.elim
   |ret=>exact b5.elim
   |normal =>
    obtain⟨Z,ρ,t,h',⟨rfl,h'',rfl,hk⟩,c2,c3,c4,c5,c6,c7⟩:=b5.ok;exact⟨rfl,s2,.refl _,trivial,Z,ρ,_,_,⟨rfl,.bool true,h'',rfl,rfl,hk⟩,by rw[b3]; exact c2,by rw[b3]; exact c3,c4,c5,c6,c7⟩
structure Yh(P:Program)(f:FuncId)(a:bC)(g:Nat)(ps:List Nat)(aa bb b:bC)(rs:List RV)(nt:Nat):Prop where
 ex: ∃ fn c i,P.funcs[f]? =some fn/\fn.body=some c/\DL P c=some (a,i,b)/\(i.g=g/\i.ps.toList=ps/\i.aa=aa/\i.bb=bb)/\kD P fn.results.toList=some rs/\fn.ntmps=nt
 cl:callable P f
 dst:(lq nt a&&lq nt b)=true
def stripR(x:bC×Site×bC):bC×(Nat×List Nat×bC×bC)×bC:=(x.1,(x.2.1.g,x.2.1.ps.toList,x.2.1.aa,x.2.1.bb),x.2.2)
theorem Yh.of{f:FuncId}{fn:Func}{a:bC}{g:Nat}{ps:List Nat}{aa bb b:bC}{rs:List RV}{nt:Nat}(h1:P.funcs[f]? =some fn)
  (h2:(fn.body.isSome,(DL P (fn.body.getD .skip)).map stripR,kD P fn.results.toList,fn.ntmps,lq nt a&&lq nt b)=(true,some (a,(g,ps,aa,bb),b),some rs,nt,true)) (h3:callable P f):Yh P f a g ps aa bb b rs nt:=by
 simp only[eh] at h2;obtain⟨q1,q2,q3,q4,q5⟩:=h2;obtain⟨cd,hc⟩:=am.1 q1;rw[hc] at q2;simp only[dt,bX] at q2;obtain⟨⟨a',i,b'⟩,r1,r2⟩:=q2;simp only[stripR,eh] at r2;obtain⟨rfl,⟨r3,r4,r5,r6⟩,rfl⟩:=r2;exact⟨⟨fn,cd,i,h1,hc,r1,⟨r3,r4,r5,r6⟩,q3,q4⟩,h3,q5⟩
structure Yi(P:Program)(nt k g:Nat)(ps:List Nat)(aa bb:bC)(D:Fm->Hz->Nat->Prop)(m:Fm)(h:Hz)(nx:Nat):Prop where
 ok: ∃ (fm:Fm) (gf:FuncId) (cap:List V) (KH:Hz->Prop),(∀ i v,fm.get i=some v->m.get i=some v)/\Z4 nx nt fm=true/\JV h=true/\m.get g=some (.fn gf cap)/\gf<4096/\V.fH cap=true /\
  ((∀ ts h n post,DJ P aa bb ps (V.aQ (frV nt fm)) ts h n post->wK P (.fn (8192+k) (V.aQ (frV nt fm))) ts h n post)->aO P gf (V.aQ (.fn (8192+k) (frV nt fm)::cap)) h.au nx fun _ hp=> ∃ h':Hz,hp=h'.au/\KH h') /\
  ∀ h',KH h'->JV h'=true/\D fm h' (nx+1)
theorem Yi.walk{nt k g:Nat}{ps:List Nat}{aa bb:bC}{D:Fm->Hz->Nat->Prop}{m:Fm}{h:Hz}{nx:Nat}(live:List Nat)(KH:Hz->Prop)(gf:FuncId)(cap:List V)(hg:m.get g=some (.fn gf cap))(hc:(Nat.blt gf 4096&&V.fH cap&&JV h)=true)
  (H:Ht m live [] fun fm=>Z4 nx nt fm=true/\((∀ ts h n post,DJ P aa bb ps (V.aQ (frV nt fm)) ts h n post->wK P (.fn (8192+k) (V.aQ (frV nt fm))) ts h n post)->aO P gf (V.aQ (.fn (8192+k) (frV nt fm)::cap)) h.au nx fun _ hp=> ∃ h':Hz,hp=h'.au/\KH h') /\
   ∀ h',KH h'->JV h'=true/\D fm h' (nx+1)):Yi P nt k g ps aa bb D m h nx:=by
 obtain⟨fm,⟨h1,h2,h3⟩,hb⟩:=xG H (fun i v q=>by cases q);simp only[aD] at hc;exact⟨fm,gf,cap,KH,hb,h1,hc.2,hg,cI.mp hc.1.1,hc.1.2,h2,h3⟩
def AtR(P:Program)(nt k g:Nat)(ps:List Nat)(aa bb:bC)(D:Fm->Hz->Nat->Prop):Qz
 | .normal,m,h,nx=>Yi P nt k g ps aa bb D m h nx
 |_,_,_,_=>False
theorem acD{nt k pn:Nat}{i:Site}{b:bC}{D:Qz}{Qa:ng->AS->Prop}(hd:lq nt b=true)(hq: ∀ e s,Lift nt pn D e s->Qa e s){e:ng}{s:AS}(H:Lift nt pn (AtR P nt k i.g i.ps.toList i.aa i.bb fun m h nx=>az P nt pn b D m h nx) e s) :
  e= .normal/\Ye P k i (fun s''=>aw P b Qa s'') s:=by
 obtain⟨m,h,a1,a2,a3,a4,a5⟩:=H;cases e with
 |exit j=>exact a5.elim
 |ret=>exact a5.elim
 |normal =>
  refine⟨rfl,?_⟩;obtain⟨fm,gf,cap,KH,q1,q2,q3,q4,q5,q6,q7,q8⟩:=a5.ok;refine⟨rF nt fm,gf,V.aQ cap,fun hp=> ∃ h':Hz,hp=h'.au/\KH h',TS a1 a2 (fun j v hv=>⟨v,q1 j v hv,rfl⟩),ae4 q2,Aq (fun j v hv=>(Nc q2 hv).2.1),fun j ob hj=>QX q3 j ob (by rw[<- a3]; exact hj),?_,q5,V.vH _ q6,?_,?_⟩
  ·show s.fr.getD i.g T.un=_;rw[ag,a2 _ _ q4]; rfl
  ·intro hY;rw[a3];have:=q7 (by rw[Yg]; exact hY);simpa only[V.aQ,V.aI,Yg] using this
  ·rintro hp ⟨h',rfl,hk⟩;obtain⟨r1,r2⟩:=q8 h' hk;refine⟨QX r1,?_⟩;have:=jO (P:=P) (N:=nt) (pn:=pn) (s:=⟨rF nt fm,h'.au,s.nx+1,s.pin⟩) hd vZ (Ap fun j v hv=>(Nc q2 hv).2.2) rfl a4 r2;exact jk (fun e s hs=>hq e s hs) this
theorem aj.ofR{f:FuncId}{a:bC}{g:Nat}{ps:List Nat}{aa bb b:bC}{rs:List RV}{nt:Nat}{args:List V}{res:V}(B:Yh P f a g ps aa bb b rs nt)(hrs:MX rs=true)(hn:args.length<=nt)(hf:V.bG args=true)(hr:res.free=true)
  (H:az P nt 0 a (AtR P nt f g ps aa bb fun m h nx=>az P nt 0 b (ace rs res) m h nx) (rD 0 args) [] 0):aj P f args res:=by
 obtain⟨fn,c,i,h1,h2,h3,⟨rfl,rfl,rfl,rfl⟩,h4,h5⟩:=B.ex;have hd:=B.dst;simp only[aD] at hd;have vU:res.aI.ids (fun _=>False):=dP (V.iZ res hr);refine⟨V.fE args hf,fun _=>T.aT (fun _ h=>h.elim) _ vU,(fun _ h=>by cases h),(fun _ h=>by cases h),fun n=>?_⟩;refine aO.acA (nx:=0) (nt:=nt) h1 h2 h3 h4 B.cl h5 ⟨_,_,rfl,rfl⟩ (T.aA (fun _ h=>h.elim) _ (cZ (V.fE args hf))) (wL _) ?_;have:=jO (P:=P) (N:=nt) (pn:=0) (s:=⟨V.aQ args++List.replicate (nt-(V.aQ args).length) T.un,no,0,0⟩) hd.1 (by simp[dA]; omega) rE KG rfl H;refine jk (fun e s hs=>acD hd.2 ?_ hs) this;rintro e s ⟨m,h,a1,a2,a3,a4,a5⟩;have key: ∀ {m h},Rp m s.fr->s.hp=Hz.au h->(match resV m h rs with|some v=>v.seq fun v=>iT res v h|none=>False)-> ∃ s1,GR s1 s/\Ret no n (fun t' h'=>t'=res.aI/\h'=iL no n none) rs s1:=by
  intro m h a2 a3 q;split at q
  ·rename_i v hv;rw[V.seq_eq] at q;obtain⟨hz,⟨Z,hfz⟩,hsub⟩:=q.ok;rw[MZ (h2:=hz) hrs] at hv;obtain⟨b1,b2⟩:=Et (s:=⟨s.fr,hz.au,s.nx,s.pin⟩) a2 rfl hv;refine⟨⟨s.fr,hz.au,s.nx,s.pin⟩,.fz (Z:=Z) ?_ (.refl _),b1,fun _=>True,fun _=>0,res.aI,no,⟨rfl,rfl⟩,by rw[I5 _ vU,b2]; exact hsub,(fun i ob hi=>by cases hi),(fun i j hi=>by cases hi),T.aT (fun _ h=>h.elim) _ vU,wL _,(fun i hi=>by cases hi)⟩;refine⟨dL _,fun i ob hi=>?_,rfl,rfl⟩;obtain⟨o,e1,rfl⟩:=MW hi;obtain⟨o',c1,c2,c3,c4,c5,c6,c7⟩:=Dz hfz e1;rw[a3];exact⟨o'.ay,aP c1,c2,c3,c4,c5,c6,c7⟩
  ·exact q.elim
 cases e with
 |exit j=>exact a5.elim
 |normal=>exact key a2 a3 a5
 |ret=>exact key a2 a3 a5
end
end Go.Ab
