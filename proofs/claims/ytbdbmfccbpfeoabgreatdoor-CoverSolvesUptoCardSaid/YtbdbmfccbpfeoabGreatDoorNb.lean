/-
 protocol.isReserved and protocol.ValidName as contracts of the layer. No condition.
-/
import Derived.Test.YtbdbmfccbpfeoabGreatDoorNa
import Derived.Test.YtbdbmfccbpfeoabGreatDoorKa
import Derived.Test.YtbdbmfccbpfeoabGreatDoorLg
namespace Go.Ab
open Go.RowKit
section
variable {P:Program}
theorem CO.aeM{f:FuncId}{us:List Value}{ty:TypeId}{l:List ByteArray}(hcl:callable P f){c:Nat}(hc:l.length=c+1)(hlen:l.length<=maxLen)
  (H: ∀ w,Tab P w->Calls P f us.toArray w fun e w'=>e= .returned (.slice (some ⟨w.heap.size,0,none⟩) l.length l.length)/\w'=w.alloc (.cells (l.map Value.string).toArray ty)) :
  CO P f (us.map T.lit) (fun n=>.own n) (some ⟨ty,0,l.map fun x=>.lit (.string x)⟩):=by
 have hfree:T.bW (l.map fun x=>T.lit (.string x))=true:=by
  rw[gq]; intro t ht; obtain⟨x,_,rfl⟩:=av.1 ht; rfl
 refine⟨Px,fun _=>rfl,(fun ob h=>by cases h; exact hfree),(fun ob h=>by cases h; exact fun e=>absurd e (by decide:(0:Nat)≠iM)),fun n=>⟨⟨_,_,rfl,rfl⟩,hcl,fun F M E vs hk he hr hid hm hn=>?_⟩⟩;rw[FB] at hr; subst hr;refine(H E.w fun g cs hg=>(hk.gl.1 g cs hg).2).mono ?_;rintro e w' ⟨rfl,rfl⟩;have hrows: ∀ (E:Env) (l:List ByteArray),aG E 0 (l.map fun x=>T.lit (.string x)) (l.map Value.string):=by
  intro E l;induction l with
  |nil=>trivial
  |cons x l ih =>
   simp only[cG,aG];exact⟨rfl,by simp[bn],(fun v hv=>by simp[bn] at hv; subst hv; rfl),by simp[bn,aN],by simpa [bn] using ih⟩
 let ob:Ob:=⟨ty,0,l.map fun x=>.lit (.string x)⟩
 let v:Value:=.slice (some ⟨E.w.heap.size,0,none⟩) l.length l.length
 have hob: ∀ E',E'.w=E.w.alloc (.cells (l.map Value.string).toArray ty)->vg E' ob v:=by
  intro E' hE;refine .inl ⟨(fun e=>absurd e (by decide:(0:Nat)≠iM)),.inr ⟨E.w.heap.size,c,(l.map Value.string).toArray,by simp[v,ob,hc],by simp[ob,hc],by omega,?_,by simp[ob,bn,hc],hrows E' l⟩⟩;rw[hE]; exact xU _ _
 have h0:=Qn (E:=E) (M:=M) (n:=n) (v:=v) (ob:=ob) (h0:=no) (w':=E.w.alloc (.cells (l.map Value.string).toArray ty)) hk (by rw[he]; exact hm) hn (fun j oj h=>by cases h) (AU _ _) rfl rfl rfl (ba _)
  (fun g hg _=>lQ _ _ hg) (fun g hg=>.inl (by
   have:g=E.w.heap.size:=by
    have h:=hg;simp only[v,hc,rowB,bR] at h;exact h.symm
   omega)) (hob _ rfl) (show 0<bn 0 by decide)
 refine⟨v,.own n,E.obj (E.w.alloc (.cells (l.map Value.string).toArray ty)) n v ob no,rfl,rfl,⟨rfl,rfl⟩,?_,h0.1,h0.2,CW hn (fun j oj h=>by cases h),.inr rfl,?_⟩
 ·rw[aF rfl];simp only[aN];exact⟨_,rfl,fun _=>by simp[Env.obj]⟩
 ·intro i oi hi
  have:i=n/\oi=ob:=by
   simp only[Env.obj,upd,no] at hi;split at hi
   ·cases hi; exact⟨by assumption,rfl⟩
   ·cases hi
  obtain⟨rfl,rfl⟩:=this;exact⟨.inr rfl,T.aB (fun _ h=>h.elim) _ (dn hfree)⟩
end
end Go.Ab
namespace Go.Proofs.YtbdbmfccbpfeoabGreatDoor
open Go.Ab Go.Proofs
set_option maxRecDepth 100000
theorem agN{w:World}(h:Tab Tryz.prog w):Lib.TabIs Tryz.prog w "strings.asciiSpace" .u8 Lib.asciiSpaceTab:=by
 have hg:Tryz.prog.globalNamed "strings.asciiSpace" = some 0:=by kernel_rfl
 obtain⟨ty,m,e⟩:=h 0 _ (by unfold zh; rw[bk hg]);unfold Lib.TabIs World.var?;rw[hg];simp only[Option.bind_some,e]
theorem S.Fields(s:ByteArray)(hs:s.size<4294967281)(hascii: ∀ (j:Nat) b,s.data.toList[j]? =some b->b.toNat<128){c:Nat}(hc:(Lib.fields s.data.toList).length=c+1)(hl:(Lib.fields s.data.toList).length<=maxLen) :
  CO Tryz.prog 110 [.lit (.string s)] (fun n=>.own n) (some ⟨9,0,(Lib.fields s.data.toList).map eS⟩):=by
 have:=CO.aeM (P:=Tryz.prog) (f:=110) (us:=[.string s]) (ty:=9) (l:=(Lib.fields s.data.toList).map fun l=>(⟨l.toArray⟩:ByteArray)) Tryz.call110 (c:=c) (by simpa using hc) (by simpa using hl) (fun w hw=>by
  have:Calls Tryz.prog 110 #[.string s] w fun e w'=>e= .returned (.slice (some ⟨w.heap.size,0,none⟩) (Lib.fields s.data.toList).length (Lib.fields s.data.toList).length)/\w'=w.alloc (.cells ((Lib.fields s.data.toList).map fun l=>Value.string ⟨l.toArray⟩).toArray 9):=Any.strings_Fields_laid Tryz.laysM157 s w hs hascii (agN hw)
  simpa [List.map_map,Function.comp_def] using this)
 have e:eS=fun l:Str=>T.lit (.string ⟨l.toArray⟩):=rfl
 rw[e];simpa [List.map_map,Function.comp_def] using this
def H6(s:Str):List Str->Nat->Int
 |[],_=> -1
 |x::r,i=>bif s==x then(i:Int) else H6 s r (i+1)
theorem acs{s:Str}: ∀ {l:List Str} {i:Nat},0<=H6 s l i↔(l.any fun x=>s==x)=true:=by
 intro l;induction l with
 |nil=>intro i; simp[H6]
 |cons x r ih =>
  intro i;rw[eJ,cS,<- ih (i:=i+1)];show(0:Int)<=(bif s==x then(i:Int) else H6 s r (i+1))↔_;generalize (s==x)=b;cases b<;>simp
theorem acu{s:Str}{l:List Str}{i:Nat}:decide (0<=H6 s l i)=l.any fun x=>s==x:=by
 rw[cK,ag]; exact acs
theorem S.slices_Index_string(l:List Str)(s:Str)(f:Bool)(hl:l.length<2^40):aj Tryz.prog 129 [.row 0 f (.strs l),.str s] (.int (H6 s l 0)):=by
 refine aj.of Bd.jQ (by simp) rfl rfl ?_;refine aA.same [0,1,6,7] (fun i:Nat=>[(8,.int i)]) (fun i=>i<=l.length/\H6 s l 0=H6 s (l.drop i) i) (fun i=>l.length-i) 0 rfl (by decide) rfl (fun _=>rfl) ⟨by omega,by simp⟩ ⟨⟨_,rfl,rfl⟩,trivial⟩ ?_;refine⟨rfl,?_⟩;rintro i ⟨hi,hall⟩;refine⟨fun h3=>?_,fun h3=>?_⟩
 ·have hi':i<l.length:=by simpa using h3
  have hd:l.drop i=l.getD i []::l.drop (i+1):=by
   rw[eD hi']; simp[hi']
  rw[hd] at hall;simp only[H6] at hall;refine .mk (by simp only[Rw.rng] at *; omega) ?_;refine⟨fun h4=>?_,fun h4=>?_⟩
  ·conv=>whnf
   refine ak.int ?_;have h4':(s==l.getD i [])=true:=h4;rw[hall,h4']; rfl
  ·conv=>whnf
   refine .mk (by simp only[okI] at *; omega) ?_;refine⟨i+1,⟨by omega,?_⟩,by omega,⟨⟨_,rfl,rfl⟩,trivial⟩,?_,rfl⟩
   ·have h4':(s==l.getD i [])=false:=h4;rw[hall,h4']; rfl
   ·repeat' (first|exact trivial|exact⟨_,rfl,rfl⟩|constructor)
 ·conv=>whnf
  refine ak.int ?_;have hi':l.length<=i:=by simpa using h3
  rw[hall,cI hi']; rfl
theorem S.slices_Contains_string(l:List Str)(s:Str)(f:Bool)(hl:l.length<2^40):aj Tryz.prog 100 [.row 0 f (.strs l),.str s] (.bool (l.any fun x=>s==x)):=by
 refine aj.of Bd.iW (by simp) rfl rfl ?_;refine ah.pure (S.slices_Index_string l s f hl) rfl ?_;exact ak.bool acu.symm
def H7:ByteArray:=⟨#[112,114,111,116,111,99,111,108,32,116,111,112,111,108,111,103,121,32,115,116,97,116,101,115,32,109,101,115,115,97,103,101,115,32,118,97,108,117,101,115,32,102,97,117,108,116,115,32,114,101,115,105,108,105,101,110,99,101,32,105,110,105,116,105,97,108,32,108,101,97,100,101,114,32,114,117,108,101,32,108,111,99,97,108,32,112,97,105,114,32,98,114,111,97,100,99,97,115,116,32,110,101,105,103,104,98,111,114,32,112,97,115,115,32,119,104,101,110,32,101,120,105,115,116,115,32,102,111,114,97,108,108,32,114,101,97,100,32,119,114,105,116,101,32,115,101,110,100,32,97,108,108,32,97,116,32,102,105,114,115,116,32,108,97,115,116,32,108,101,102,116,32,114,105,103,104,116,32,112,97,114,101,110,116,32,99,104,105,108,100,32,112,114,111,112,101,114,116,121,32,110,101,118,101,114,32,101,118,101,110,116,117,97,108,108,121,32,115,116,97,114,116,32,99,111,117,110,116,32,97,100,106,97,99,101,110,116,32,103,111,97,108,32,99,108,105,113,117,101,32,108,105,110,101,32,114,105,110,103,32,116,114,101,101,32,99,114,97,115,104,32,111,109,105,115,115,105,111,110,32,97,114,98,105,116,114,97,114,121]⟩
def ug:List Str:=Lib.fields H7.data.toList
theorem KF:ug.length=42+1:=by kernel_rfl
theorem ZN:(H7.data.toList.all fun b=>Nat.blt b.toNat 128)=true:=by kernel_rfl
theorem S.ZO:CO Tryz.prog 110 [.lit (.string H7)] (fun n=>.own n) (some ⟨9,0,ug.map eS⟩) :=
 S.Fields H7 (ai (by kernel_rfl)) (fun j b hb=>by
  have:=bu.1 ZN b (ce hb)
  exact cW.mp this) KF (by rw[show(Lib.fields H7.data.toList).length=_ from KF]; decide)
theorem ahT{h:Hz}{j:Nat}{Z:Nat->Prop}{l:List Str}(hz:Z j)(q:h.get j=some (.row 9 0 (.strs l) [])):T.sub Z h.ay (V.row 0 false (.strs l)).aH (V.own j).aH:=by
 show T.sub Z h.ay (.sl 0 false (l.map eS)) (.own j);simp only[T.sub];refine⟨trivial,hz,?_,by decide,9,?_⟩
 ·rw[gq]; intro t ht; obtain⟨x,_,rfl⟩:=av.1 ht; rfl
 ·have:=aO q;rw[this]; simp[OV.au,Rw.aU,V.aU]
theorem S.jL(s:Str):aj Tryz.prog 76 [.str s] (.bool (ug.any fun x=>s==x)):=by
 refine aj.of Bd.jL (by simp) rfl rfl ?_;refine ah.heap (CO.frame S.ZO _ _) ?_;rintro t hp ⟨rfl,rfl⟩;refine⟨.own 1,[(1,some (.row 9 0 (.strs ug) []))],rfl,?_,?_⟩
 ·rw[dG]; simp[jF,OV.au,Rw.aU,V.aU]
 refine ah.lend (S.slices_Contains_string ug s false (by rw[KF]; decide)) (And.intro (ahT trivial rfl) (And.intro (aC _) trivial)) rfl rfl ?_;exact ak.bool rfl
def validName(s:Str):Bool:=nmB (bs s)&& !(ug.any fun x=>s==x)
theorem S.gU(s:Str):aj Tryz.prog 44 [.str s] (.bool (validName s)):=S.WW (bs s) _ (S.jL s)
end Go.Proofs.YtbdbmfccbpfeoabGreatDoor
namespace Go.Ab
open Go.RowKit
section
variable {P:Program}
theorem CO.ofRow{f:FuncId}{ts:List T}{ty:TypeId}{l:List T}(hcl:callable P f)(hfree:T.bW l=true)(htf:T.bW ts=true)
  (H: ∀ E vs,bF E ts vs-> ∀ w,Tab P w->Calls P f vs.toArray w fun e w'=> ∃ (c q:Nat) (cs:Array Value),e= .returned (.slice (some ⟨w.heap.size,0,none⟩) l.length (c+1))/\w'=(w.drewN q).alloc (.cells cs ty)/\l.length<=c+1/\c+1<=maxLen/\cs.size=c+1/\ ∀ E,aG E 0 l cs.toList) :
  CO P f ts (fun n=>.own n) (some ⟨ty,0,l⟩):=by
 refine⟨htf,fun _=>rfl,(fun ob h=>by cases h; exact hfree),(fun ob h=>by cases h; exact fun e=>absurd e (by decide:(0:Nat)≠iM)),fun n=>⟨⟨_,_,rfl,rfl⟩,hcl,fun F M E vs hk he hr hid hm hn=>?_⟩⟩;refine(H E vs hr E.w fun g cs hg=>(hk.gl.1 g cs hg).2).mono ?_;rintro e w' ⟨c,q,cs,rfl,rfl,h1,h2,h3,h4⟩
 let ob:Ob:=⟨ty,0,l⟩
 let v:Value:=.slice (some ⟨E.w.heap.size,0,none⟩) l.length (c+1)
 have hob: ∀ E',E'.w=(E.w.drewN q).alloc (.cells cs ty)->vg E' ob v:=by
  intro E' hE;refine .inl ⟨(fun e=>absurd e (by decide:(0:Nat)≠iM)),.inr ⟨E.w.heap.size,c,cs,rfl,h1,h2,?_,by simpa [ob,bn] using h3,h4 E'⟩⟩;rw[hE]; exact xU (E.w.drewN q) _
 have h0:=Qn (E:=E) (M:=M) (n:=n) (v:=v) (ob:=ob) (h0:=no) (w':=(E.w.drewN q).alloc (.cells cs ty)) hk (by rw[he]; exact hm) hn (fun j oj h=>by cases h) (AU (E.w.drewN q) _) rfl rfl rfl (gg _ _)
  (fun g hg _=>lQ (E.w.drewN q) _ hg) (fun g hg=>.inl (by
   have:g=E.w.heap.size:=by
    have h:=hg;simp only[v,rowB,bR] at h;exact h.symm
   omega)) (hob _ rfl) (show 0<bn 0 by decide)
 refine⟨v,.own n,E.obj ((E.w.drewN q).alloc (.cells cs ty)) n v ob no,rfl,rfl,⟨rfl,rfl⟩,?_,h0.1,h0.2,CW hn (fun j oj h=>by cases h),.inr rfl,?_⟩
 ·rw[aF rfl];simp only[aN];exact⟨_,rfl,fun _=>by simp[Env.obj]⟩
 ·intro i oi hi
  have:i=n/\oi=ob:=by
   simp only[Env.obj,upd,no] at hi;split at hi
   ·cases hi; exact⟨by assumption,rfl⟩
   ·cases hi
  obtain⟨rfl,rfl⟩:=this;exact⟨.inr rfl,T.aB (fun _ h=>h.elim) _ (dn hfree)⟩
end
end Go.Ab
namespace Go.Proofs.YtbdbmfccbpfeoabGreatDoor
open Go.Ab Go.Proofs
set_option maxRecDepth 100000
theorem S.Grow(n:Nat)(h0:0<n)(hn:n<2^30):CO Tryz.prog 128 [.sl 0 true [],.int n] (fun m=>.own m) (some ⟨9,0,[]⟩):=by
 have hi9:(Tryz.prog.info? 9).map (fun i=>(i.zero,i.size,i.bytes))=some (some (.string ByteArray.empty),1,16):=by kernel_rfl
 obtain⟨i0,hi0,hi⟩:=bh.1 hi9;simp only[Prod.mk.injEq] at hi;obtain⟨hz,hs,hby⟩:=hi;refine CO.ofRow Tryz.call128 rfl rfl (fun E vs h w hw=>?_);simp only[dI] at h;obtain⟨v,r,rfl,h1,v',r',rfl,h2,h3⟩:=h;simp only[bF] at h3; subst h3;rw[aF rfl] at h1;simp only[aN] at h1;obtain⟨a,c,h4,_,h5,_⟩:=h1;have hc:c=0:=h5 trivial;subst hc;have hv:v= .slice a 0 0:=by simpa using h4
 have hv':v'= .int .i64 n:=aX.1 h2;subst hv hv'
 have:Calls Tryz.prog 128 #[.slice a 0 0,.int .i64 n] w fun e w'=>e= .returned (.slice (some ⟨w.heap.size,0,none⟩) 0 (grownCap w (0+n) 0 9)) /\
   w'=w.drew.alloc (.cells (([]:List Value).toArray++Builtin.zeroCells (Value.string ByteArray.empty).cells (0+n-0)++Builtin.zeroCells (Value.string ByteArray.empty).cells (grownCap w (0+n) 0 9-(0+n))) 9) :=
  Any8.slices_Grow_grow Tryz.layGrow i0 (.string ByteArray.empty) hi0 hz (by omega) a 0 0 n [] w (ba _) (by omega) (by rw[hby]; omega) (by omega) (by simp) (fun _=>rfl) (fun _ _ j v h=>by simp at h)
 refine this.mono ?_;rintro e w' ⟨rfl,rfl⟩;have hge:=grownCap_ge w (0+n) 0 9;have hle:=grownCap_le_maxLen w (0+n) 0 9 (by simp only[maxLen]; omega);generalize grownCap w (0+n) 0 9=gc at hge hle;obtain⟨c,rfl⟩: ∃ c,gc=c+1:=⟨gc-1,by omega⟩
 refine⟨c,1,_,rfl,rfl,ab _,hle,?_,fun _=>trivial⟩;simp[Builtin.zeroCells,Value.cells]; omega
end Go.Proofs.YtbdbmfccbpfeoabGreatDoor
