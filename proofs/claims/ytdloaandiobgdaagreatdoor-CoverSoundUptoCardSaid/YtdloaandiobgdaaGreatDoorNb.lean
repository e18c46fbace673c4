/-
 protocol.isReserved and protocol.ValidName as contracts of the layer. No condition.
-/
import Derived.Test.YtdloaandiobgdaaGreatDoorNa
import Derived.Test.YtdloaandiobgdaaGreatDoorKa
import Derived.Test.YtdloaandiobgdaaGreatDoorLg
namespace Go.Ab
open Go.RowKit
section
variable {P:Program}
theorem BU.ah7{f:FuncId}{us:List Value}{ty:TypeId}{l:List ByteArray}(hcl:callable P f){c:Nat}(hc:l.length=c+1)(hlen:l.length<=maxLen)
  (H: ∀ w,Tab P w->Calls P f us.toArray w fun e w'=>e= .returned (.slice (some ⟨w.heap.size,0,none⟩) l.length l.length)/\w'=w.alloc (.cells (l.map Value.string).toArray ty)) :
  BU P f (us.map T.lit) (fun n=>.own n) (some ⟨ty,0,l.map fun x=>.lit (.string x)⟩):=by
 have hfree:T.bn (l.map fun x=>T.lit (.string x))=true:=by
  rw[iO]; intro t ht; obtain⟨x,_,rfl⟩:=ax.1 ht; rfl
 refine⟨SN,fun _=>rfl,(fun ob h=>by cases h; exact hfree),(fun ob h=>by cases h; exact fun e=>absurd e (by decide:(0:Nat)≠gK)),fun n=>⟨⟨_,_,rfl,rfl⟩,hcl,fun F M E vs hk he hr hid hm hn=>?_⟩⟩;rw[Iq] at hr; subst hr;refine(H E.w fun g cs hg=>(hk.gl.1 g cs hg).2).mono ?_;rintro e w' ⟨rfl,rfl⟩;have hrows: ∀ (E:Env) (l:List ByteArray),aJ E 0 (l.map fun x=>T.lit (.string x)) (l.map Value.string):=by
  intro E l;induction l with
  |nil=>trivial
  |cons x l ih =>
   simp only[bl,aJ];exact⟨rfl,by simp[bD],(fun v hv=>by simp[bD] at hv; subst hv; rfl),by simp[bD,aN],by simpa [bD] using ih⟩
 let ob:Ob:=⟨ty,0,l.map fun x=>.lit (.string x)⟩
 let v:Value:=.slice (some ⟨E.w.heap.size,0,none⟩) l.length l.length
 have hob: ∀ E',E'.w=E.w.alloc (.cells (l.map Value.string).toArray ty)->uN E' ob v:=by
  intro E' hE;refine .inl ⟨(fun e=>absurd e (by decide:(0:Nat)≠gK)),.inr ⟨E.w.heap.size,c,(l.map Value.string).toArray,by simp[v,ob,hc],by simp[ob,hc],by omega,?_,by simp[ob,bD,hc],hrows E' l⟩⟩;rw[hE]; exact xg _ _
 have h0:=OE (E:=E) (M:=M) (n:=n) (v:=v) (ob:=ob) (h0:=no) (w':=E.w.alloc (.cells (l.map Value.string).toArray ty)) hk (by rw[he]; exact hm) hn (fun j oj h=>by cases h) (zO _ _) rfl rfl rfl (ba _)
  (fun g hg _=>iU _ _ hg) (fun g hg=>.inl (by
   have:g=E.w.heap.size:=by
    have h:=hg;simp only[v,hc,rowB,bi] at h;exact h.symm
   omega)) (hob _ rfl) (show 0<bD 0 by decide)
 refine⟨v,.own n,E.obj (E.w.alloc (.cells (l.map Value.string).toArray ty)) n v ob no,rfl,rfl,⟨rfl,rfl⟩,?_,h0.1,h0.2,Ce hn (fun j oj h=>by cases h),.inr rfl,?_⟩
 ·rw[aB rfl];simp only[aN];exact⟨_,rfl,fun _=>by simp[Env.obj]⟩
 ·intro i oi hi
  have:i=n/\oi=ob:=by
   simp only[Env.obj,upd,no] at hi;split at hi
   ·cases hi; exact⟨by assumption,rfl⟩
   ·cases hi
  obtain⟨rfl,rfl⟩:=this;exact⟨.inr rfl,T.aA (fun _ h=>h.elim) _ (dh hfree)⟩
end
end Go.Ab
namespace Go.Proofs.YtdloaandiobgdaaGreatDoor
open Go.Ab Go.Proofs
set_option maxRecDepth 100000
theorem akW{w:World}(h:Tab Tryz.prog w):Lib.TabIs Tryz.prog w "strings.asciiSpace" .u8 Lib.asciiSpaceTab:=by
 have hg:Tryz.prog.globalNamed "strings.asciiSpace" = some 0:=by kernel_rfl
 obtain⟨ty,m,e⟩:=h 0 _ (by unfold wZ; rw[bc hg]);unfold Lib.TabIs World.var?;rw[hg];simp only[Option.bind_some,e]
theorem S.Fields(s:ByteArray)(hs:s.size<4294967281)(hascii: ∀ (j:Nat) b,s.data.toList[j]? =some b->b.toNat<128){c:Nat}(hc:(Lib.fields s.data.toList).length=c+1)(hl:(Lib.fields s.data.toList).length<=maxLen) :
  BU Tryz.prog 117 [.lit (.string s)] (fun n=>.own n) (some ⟨9,0,(Lib.fields s.data.toList).map eS⟩):=by
 have:=BU.ah7 (P:=Tryz.prog) (f:=117) (us:=[.string s]) (ty:=9) (l:=(Lib.fields s.data.toList).map fun l=>(⟨l.toArray⟩:ByteArray)) Tryz.call117 (c:=c) (by simpa using hc) (by simpa using hl) (fun w hw=>by
  have:Calls Tryz.prog 117 #[.string s] w fun e w'=>e= .returned (.slice (some ⟨w.heap.size,0,none⟩) (Lib.fields s.data.toList).length (Lib.fields s.data.toList).length)/\w'=w.alloc (.cells ((Lib.fields s.data.toList).map fun l=>Value.string ⟨l.toArray⟩).toArray 9):=Any.strings_Fields_laid Tryz.laysM157 s w hs hascii (akW hw)
  simpa [List.map_map,Function.comp_def] using this)
 have e:eS=fun l:Str=>T.lit (.string ⟨l.toArray⟩):=rfl
 rw[e];simpa [List.map_map,Function.comp_def] using this
def JI(s:Str):List Str->Nat->Int
 |[],_=> -1
 |x::r,i=>bif s==x then(i:Int) else JI s r (i+1)
theorem afe{s:Str}: ∀ {l:List Str} {i:Nat},0<=JI s l i↔(l.any fun x=>s==x)=true:=by
 intro l;induction l with
 |nil=>intro i; simp[JI]
 |cons x r ih =>
  intro i;rw[ez,cY,<- ih (i:=i+1)];show(0:Int)<=(bif s==x then(i:Int) else JI s r (i+1))↔_;generalize (s==x)=b;cases b<;>simp
theorem aff{s:Str}{l:List Str}{i:Nat}:decide (0<=JI s l i)=l.any fun x=>s==x:=by
 rw[cR,aq]; exact afe
theorem S.slices_Index_string(l:List Str)(s:Str)(f:Bool)(hl:l.length<2^40):ak Tryz.prog 142 [.row 0 f (.strs l),.str s] (.int (JI s l 0)):=by
 refine ak.of Bd.gQ (by simp) rfl rfl ?_;refine aG.same [0,1,6,7] (fun i:Nat=>[(8,.int i)]) (fun i=>i<=l.length/\JI s l 0=JI s (l.drop i) i) (fun i=>l.length-i) 0 rfl (by decide) rfl (fun _=>rfl) ⟨by omega,by simp⟩ ⟨⟨_,rfl,rfl⟩,trivial⟩ ?_;refine⟨rfl,?_⟩;rintro i ⟨hi,hall⟩;refine⟨fun h3=>?_,fun h3=>?_⟩
 ·have hi':i<l.length:=by simpa using h3
  have hd:l.drop i=l.getD i []::l.drop (i+1):=by
   rw[eD hi']; simp[hi']
  rw[hd] at hall;simp only[JI] at hall;refine .mk (by simp only[Rw.rng] at *; omega) ?_;refine⟨fun h4=>?_,fun h4=>?_⟩
  ·conv=>whnf
   refine ay.int ?_;have h4':(s==l.getD i [])=true:=h4;rw[hall,h4']; rfl
  ·conv=>whnf
   refine .mk (by simp only[okI] at *; omega) ?_;refine⟨i+1,⟨by omega,?_⟩,by omega,⟨⟨_,rfl,rfl⟩,trivial⟩,?_,rfl⟩
   ·have h4':(s==l.getD i [])=false:=h4;rw[hall,h4']; rfl
   ·repeat' (first|exact trivial|exact⟨_,rfl,rfl⟩|constructor)
 ·conv=>whnf
  refine ay.int ?_;have hi':l.length<=i:=by simpa using h3
  rw[hall,cJ hi']; rfl
theorem S.slices_Contains_string(l:List Str)(s:Str)(f:Bool)(hl:l.length<2^40):ak Tryz.prog 107 [.row 0 f (.strs l),.str s] (.bool (l.any fun x=>s==x)):=by
 refine ak.of Bd.fJ (by simp) rfl rfl ?_;refine ah.pure (S.slices_Index_string l s f hl) rfl ?_;exact ay.bool aff.symm
def JJ:ByteArray:=⟨#[112,114,111,116,111,99,111,108,32,116,111,112,111,108,111,103,121,32,115,116,97,116,101,115,32,109,101,115,115,97,103,101,115,32,118,97,108,117,101,115,32,102,97,117,108,116,115,32,114,101,115,105,108,105,101,110,99,101,32,105,110,105,116,105,97,108,32,108,101,97,100,101,114,32,114,117,108,101,32,108,111,99,97,108,32,112,97,105,114,32,98,114,111,97,100,99,97,115,116,32,110,101,105,103,104,98,111,114,32,112,97,115,115,32,119,104,101,110,32,101,120,105,115,116,115,32,102,111,114,97,108,108,32,114,101,97,100,32,119,114,105,116,101,32,115,101,110,100,32,97,108,108,32,97,116,32,102,105,114,115,116,32,108,97,115,116,32,108,101,102,116,32,114,105,103,104,116,32,112,97,114,101,110,116,32,99,104,105,108,100,32,112,114,111,112,101,114,116,121,32,110,101,118,101,114,32,101,118,101,110,116,117,97,108,108,121,32,115,116,97,114,116,32,99,111,117,110,116,32,97,100,106,97,99,101,110,116,32,103,111,97,108,32,99,108,105,113,117,101,32,108,105,110,101,32,114,105,110,103,32,116,114,101,101,32,99,114,97,115,104,32,111,109,105,115,115,105,111,110,32,97,114,98,105,116,114,97,114,121]⟩
def wL:List Str:=Lib.fields JJ.data.toList
theorem NQ:wL.length=42+1:=by kernel_rfl
theorem acv:(JJ.data.toList.all fun b=>Nat.blt b.toNat 128)=true:=by kernel_rfl
theorem S.acw:BU Tryz.prog 117 [.lit (.string JJ)] (fun n=>.own n) (some ⟨9,0,wL.map eS⟩) :=
 S.Fields JJ (ag (by kernel_rfl)) (fun j b hb=>by
  have:=bj.1 acv b (cx hb)
  exact cF.mp this) NQ (by rw[show(Lib.fields JJ.data.toList).length=_ from NQ]; decide)
theorem amE{h:Hz}{j:Nat}{Z:Nat->Prop}{l:List Str}(hz:Z j)(q:h.get j=some (.row 9 0 (.strs l) [])):T.sub Z h.aj (V.row 0 false (.strs l)).aI (V.own j).aI:=by
 show T.sub Z h.aj (.sl 0 false (l.map eS)) (.own j);simp only[T.sub];refine⟨trivial,hz,?_,by decide,9,?_⟩
 ·rw[iO]; intro t ht; obtain⟨x,_,rfl⟩:=ax.1 ht; rfl
 ·have:=aK q;rw[this]; simp[OV.au,Rw.aS,V.aS]
theorem S.iH(s:Str):ak Tryz.prog 81 [.str s] (.bool (wL.any fun x=>s==x)):=by
 refine ak.of Bd.iH (by simp) rfl rfl ?_;refine ah.heap (BU.frame S.acw _ _) ?_;rintro t hp ⟨rfl,rfl⟩;refine⟨.own 1,[(1,some (.row 9 0 (.strs wL) []))],rfl,?_,?_⟩
 ·rw[bI]; simp[jM,OV.au,Rw.aS,V.aS]
 refine ah.lend (S.slices_Contains_string wL s false (by rw[NQ]; decide)) (And.intro (amE trivial rfl) (And.intro (aH _) trivial)) rfl rfl ?_;exact ay.bool rfl
def validName(s:Str):Bool:=nmB (bs s)&& !(wL.any fun x=>s==x)
theorem S.fP(s:Str):ak Tryz.prog 43 [.str s] (.bool (validName s)):=S.Za (bs s) _ (S.iH s)
end Go.Proofs.YtdloaandiobgdaaGreatDoor
namespace Go.Ab
open Go.RowKit
section
variable {P:Program}
theorem BU.ofRow{f:FuncId}{ts:List T}{ty:TypeId}{l:List T}(hcl:callable P f)(hfree:T.bn l=true)(htf:T.bn ts=true)
  (H: ∀ E vs,bg E ts vs-> ∀ w,Tab P w->Calls P f vs.toArray w fun e w'=> ∃ (c q:Nat) (cs:Array Value),e= .returned (.slice (some ⟨w.heap.size,0,none⟩) l.length (c+1))/\w'=(w.drewN q).alloc (.cells cs ty)/\l.length<=c+1/\c+1<=maxLen/\cs.size=c+1/\ ∀ E,aJ E 0 l cs.toList) :
  BU P f ts (fun n=>.own n) (some ⟨ty,0,l⟩):=by
 refine⟨htf,fun _=>rfl,(fun ob h=>by cases h; exact hfree),(fun ob h=>by cases h; exact fun e=>absurd e (by decide:(0:Nat)≠gK)),fun n=>⟨⟨_,_,rfl,rfl⟩,hcl,fun F M E vs hk he hr hid hm hn=>?_⟩⟩;refine(H E vs hr E.w fun g cs hg=>(hk.gl.1 g cs hg).2).mono ?_;rintro e w' ⟨c,q,cs,rfl,rfl,h1,h2,h3,h4⟩
 let ob:Ob:=⟨ty,0,l⟩
 let v:Value:=.slice (some ⟨E.w.heap.size,0,none⟩) l.length (c+1)
 have hob: ∀ E',E'.w=(E.w.drewN q).alloc (.cells cs ty)->uN E' ob v:=by
  intro E' hE;refine .inl ⟨(fun e=>absurd e (by decide:(0:Nat)≠gK)),.inr ⟨E.w.heap.size,c,cs,rfl,h1,h2,?_,by simpa [ob,bD] using h3,h4 E'⟩⟩;rw[hE]; exact xg (E.w.drewN q) _
 have h0:=OE (E:=E) (M:=M) (n:=n) (v:=v) (ob:=ob) (h0:=no) (w':=(E.w.drewN q).alloc (.cells cs ty)) hk (by rw[he]; exact hm) hn (fun j oj h=>by cases h) (zO (E.w.drewN q) _) rfl rfl rfl (gN _ _)
  (fun g hg _=>iU (E.w.drewN q) _ hg) (fun g hg=>.inl (by
   have:g=E.w.heap.size:=by
    have h:=hg;simp only[v,rowB,bi] at h;exact h.symm
   omega)) (hob _ rfl) (show 0<bD 0 by decide)
 refine⟨v,.own n,E.obj ((E.w.drewN q).alloc (.cells cs ty)) n v ob no,rfl,rfl,⟨rfl,rfl⟩,?_,h0.1,h0.2,Ce hn (fun j oj h=>by cases h),.inr rfl,?_⟩
 ·rw[aB rfl];simp only[aN];exact⟨_,rfl,fun _=>by simp[Env.obj]⟩
 ·intro i oi hi
  have:i=n/\oi=ob:=by
   simp only[Env.obj,upd,no] at hi;split at hi
   ·cases hi; exact⟨by assumption,rfl⟩
   ·cases hi
  obtain⟨rfl,rfl⟩:=this;exact⟨.inr rfl,T.aA (fun _ h=>h.elim) _ (dh hfree)⟩
end
end Go.Ab
namespace Go.Proofs.YtdloaandiobgdaaGreatDoor
open Go.Ab Go.Proofs
set_option maxRecDepth 100000
theorem S.Grow(n:Nat)(h0:0<n)(hn:n<2^30):BU Tryz.prog 141 [.sl 0 true [],.int n] (fun m=>.own m) (some ⟨9,0,[]⟩):=by
 have hi9:(Tryz.prog.info? 9).map (fun i=>(i.zero,i.size,i.bytes))=some (some (.string ByteArray.empty),1,16):=by kernel_rfl
 obtain⟨i0,hi0,hi⟩:=be.1 hi9;simp only[fe] at hi;obtain⟨hz,hs,hby⟩:=hi;refine BU.ofRow Tryz.call141 rfl rfl (fun E vs h w hw=>?_);simp only[bQ] at h;obtain⟨v,r,rfl,h1,v',r',rfl,h2,h3⟩:=h;simp only[bg] at h3; subst h3;rw[aB rfl] at h1;simp only[aN] at h1;obtain⟨a,c,h4,_,h5,_⟩:=h1;have hc:c=0:=h5 trivial;subst hc;have hv:v= .slice a 0 0:=by simpa using h4
 have hv':v'= .int .i64 n:=aQ.1 h2;subst hv hv'
 have:Calls Tryz.prog 141 #[.slice a 0 0,.int .i64 n] w fun e w'=>e= .returned (.slice (some ⟨w.heap.size,0,none⟩) 0 (grownCap w (0+n) 0 9)) /\
   w'=w.drew.alloc (.cells (([]:List Value).toArray++Builtin.zeroCells (Value.string ByteArray.empty).cells (0+n-0)++Builtin.zeroCells (Value.string ByteArray.empty).cells (grownCap w (0+n) 0 9-(0+n))) 9) :=
  Any8.slices_Grow_grow Tryz.layGrow i0 (.string ByteArray.empty) hi0 hz (by omega) a 0 0 n [] w (ba _) (by omega) (by rw[hby]; omega) (by omega) (by simp) (fun _=>rfl) (fun _ _ j v h=>by simp at h)
 refine this.mono ?_;rintro e w' ⟨rfl,rfl⟩;have hge:=grownCap_ge w (0+n) 0 9;have hle:=grownCap_le_maxLen w (0+n) 0 9 (by simp only[maxLen]; omega);generalize grownCap w (0+n) 0 9=gc at hge hle;obtain⟨c,rfl⟩: ∃ c,gc=c+1:=⟨gc-1,by omega⟩
 refine⟨c,1,_,rfl,rfl,ao _,hle,?_,fun _=>trivial⟩;simp[Builtin.zeroCells,Value.cells]; omega
end Go.Proofs.YtdloaandiobgdaaGreatDoor
