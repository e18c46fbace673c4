/-
 protocol.isReserved and protocol.ValidName as contracts of the layer. No condition.
-/
import Derived.Test.YtdhobgbagphngaaGreatDoorNa
import Derived.Test.YtdhobgbagphngaaGreatDoorKa
import Derived.Test.YtdhobgbagphngaaGreatDoorLg
namespace Go.Ab
open Go.RowKit
section
variable {P:Program}
theorem AX.acB{f:FuncId}{us:List Value}{ty:TypeId}{l:List ByteArray}(hcl:callable P f){c:Nat}(hc:l.length=c+1)(hlen:l.length<=maxLen)
  (H: ∀ w,Tab P w->Calls P f us.toArray w fun e w'=>e= .returned (.slice (some ⟨w.heap.size,0,none⟩) l.length l.length)/\w'=w.alloc (.cells (l.map Value.string).toArray ty)) :
  AX P f (us.map T.lit) (fun n=>.own n) (some ⟨ty,0,l.map fun x=>.lit (.string x)⟩):=by
 have hfree:T.bZ (l.map fun x=>T.lit (.string x))=true:=by
  rw[iw]; intro t ht; obtain⟨x,_,rfl⟩:=List.mem_map.1 ht; rfl
 refine⟨NM,fun _=>rfl,(fun ob h=>by cases h; exact hfree),(fun ob h=>by cases h; exact fun e=>absurd e (by decide:(0:Nat)≠fM)),fun n=>⟨⟨_,_,rfl,rfl⟩,hcl,fun F M E vs hk he hr hid hm hn=>?_⟩⟩;rw[Ep] at hr; subst hr;refine(H E.w fun g cs hg=>(hk.gl.1 g cs hg).2).mono ?_;rintro e w' ⟨rfl,rfl⟩;have hrows: ∀ (E:Env) (l:List ByteArray),aF E 0 (l.map fun x=>T.lit (.string x)) (l.map Value.string):=by
  intro E l;induction l with
  |nil=>trivial
  |cons x l ih =>
   simp only[List.map_cons,aF];exact⟨rfl,by simp[bg],(fun v hv=>by simp[bg] at hv; subst hv; rfl),by simp[bg,aN],by simpa [bg] using ih⟩
 let ob:Ob:=⟨ty,0,l.map fun x=>.lit (.string x)⟩
 let v:Value:=.slice (some ⟨E.w.heap.size,0,none⟩) l.length l.length
 have hob: ∀ E',E'.w=E.w.alloc (.cells (l.map Value.string).toArray ty)->tZ E' ob v:=by
  intro E' hE;refine .inl ⟨(fun e=>absurd e (by decide:(0:Nat)≠fM)),.inr ⟨E.w.heap.size,c,(l.map Value.string).toArray,by simp[v,ob,hc],by simp[ob,hc],by omega,?_,by simp[ob,bg,hc],hrows E' l⟩⟩;rw[hE]; exact uf _ _
 have h0:=JQ (E:=E) (M:=M) (n:=n) (v:=v) (ob:=ob) (h0:=no) (w':=E.w.alloc (.cells (l.map Value.string).toArray ty)) hk (by rw[he]; exact hm) hn (fun j oj h=>by cases h) (wZ _ _) rfl rfl rfl (Nat.le_refl _)
  (fun g hg _=>jC _ _ hg) (fun g hg=>.inl (by
   have:g=E.w.heap.size:=by
    have h:=hg;simp only[v,hc,rowB,Option.some.injEq] at h;exact h.symm
   omega)) (hob _ rfl) (show 0<bg 0 by decide)
 refine⟨v,.own n,E.obj (E.w.alloc (.cells (l.map Value.string).toArray ty)) n v ob no,rfl,rfl,⟨rfl,rfl⟩,?_,h0.1,h0.2,y5 hn (fun j oj h=>by cases h),.inr rfl,?_⟩
 ·rw[ay rfl];simp only[aN];exact⟨_,rfl,fun _=>by simp[Env.obj]⟩
 ·intro i oi hi
  have:i=n/\oi=ob:=by
   simp only[Env.obj,upd,no] at hi;split at hi
   ·cases hi; exact⟨by assumption,rfl⟩
   ·cases hi
  obtain⟨rfl,rfl⟩:=this;exact⟨.inr rfl,T.aB (fun _ h=>h.elim) _ (cu hfree)⟩
end
end Go.Ab
namespace Go.Proofs.YtdhobgbagphngaaGreatDoor
open Go.Ab Go.Proofs
set_option maxRecDepth 100000
theorem aeP{w:World}(h:Tab Tryz.prog w):Lib.TabIs Tryz.prog w "strings.asciiSpace" .u8 Lib.asciiSpaceTab:=by
 have hg:Tryz.prog.globalNamed "strings.asciiSpace" = some 0:=by kernel_rfl
 obtain⟨ty,m,e⟩:=h 0 _ (by unfold yE; rw[if_pos hg]);unfold Lib.TabIs World.var?;rw[hg];simp only[Option.bind_some,e]
theorem S.Fields(s:ByteArray)(hs:s.size<4294967281)(hascii: ∀ (j:Nat) b,s.data.toList[j]? =some b->b.toNat<128){c:Nat}(hc:(Lib.fields s.data.toList).length=c+1)(hl:(Lib.fields s.data.toList).length<=maxLen) :
  AX Tryz.prog 166 [.lit (.string s)] (fun n=>.own n) (some ⟨9,0,(Lib.fields s.data.toList).map eS⟩):=by
 have:=AX.acB (P:=Tryz.prog) (f:=166) (us:=[.string s]) (ty:=9) (l:=(Lib.fields s.data.toList).map fun l=>(⟨l.toArray⟩:ByteArray)) Tryz.call166 (c:=c) (by simpa using hc) (by simpa using hl) (fun w hw=>by
  have:Calls Tryz.prog 166 #[.string s] w fun e w'=>e= .returned (.slice (some ⟨w.heap.size,0,none⟩) (Lib.fields s.data.toList).length (Lib.fields s.data.toList).length)/\w'=w.alloc (.cells ((Lib.fields s.data.toList).map fun l=>Value.string ⟨l.toArray⟩).toArray 9):=Any.strings_Fields_laid Tryz.laysM157 s w hs hascii (aeP hw)
  simpa [List.map_map,Function.comp_def] using this)
 have e:eS=fun l:Str=>T.lit (.string ⟨l.toArray⟩):=rfl
 rw[e];simpa [List.map_map,Function.comp_def] using this
def FX(s:Str):List Str->Nat->Int
 |[],_=> -1
 |x::r,i=>bif s==x then(i:Int) else FX s r (i+1)
theorem aaj{s:Str}: ∀ {l:List Str} {i:Nat},0<=FX s l i↔(l.any fun x=>s==x)=true:=by
 intro l;induction l with
 |nil=>intro i; simp[FX]
 |cons x r ih =>
  intro i;rw[List.any_cons,Bool.or_eq_true,<- ih (i:=i+1)];show(0:Int)<=(bif s==x then(i:Int) else FX s r (i+1))↔_;generalize (s==x)=b;cases b<;>simp
theorem aak{s:Str}{l:List Str}{i:Nat}:decide (0<=FX s l i)=l.any fun x=>s==x:=by
 rw[Bool.eq_iff_iff,decide_eq_true_eq]; exact aaj
theorem S.slices_Index_string(l:List Str)(s:Str)(f:Bool)(hl:l.length<2^40):aj Tryz.prog 172 [.row 0 f (.strs l),.str s] (.int (FX s l 0)):=by
 refine aj.of Bd.jr (by simp) rfl rfl ?_;refine aC.same [0,1,6,7] (fun i:Nat=>[(8,.int i)]) (fun i=>i<=l.length/\FX s l 0=FX s (l.drop i) i) (fun i=>l.length-i) 0 rfl (by decide) rfl (fun _=>rfl) ⟨by omega,by simp⟩ ⟨⟨_,rfl,rfl⟩,trivial⟩ ?_;refine⟨rfl,?_⟩;rintro i ⟨hi,hall⟩;refine⟨fun h3=>?_,fun h3=>?_⟩
 ·have hi':i<l.length:=by simpa using h3
  have hd:l.drop i=l.getD i []::l.drop (i+1):=by
   rw[List.drop_eq_getElem_cons hi']; simp[hi']
  rw[hd] at hall;simp only[FX] at hall;refine .mk (by simp only[Rw.rng] at *; omega) ?_;refine⟨fun h4=>?_,fun h4=>?_⟩
  ·conv=>whnf
   refine ak.int ?_;have h4':(s==l.getD i [])=true:=h4;rw[hall,h4']; rfl
  ·conv=>whnf
   refine .mk (by simp only[okI] at *; omega) ?_;refine⟨i+1,⟨by omega,?_⟩,by omega,⟨⟨_,rfl,rfl⟩,trivial⟩,?_,rfl⟩
   ·have h4':(s==l.getD i [])=false:=h4;rw[hall,h4']; rfl
   ·repeat' (first|exact trivial|exact⟨_,rfl,rfl⟩|constructor)
 ·conv=>whnf
  refine ak.int ?_;have hi':l.length<=i:=by simpa using h3
  rw[hall,List.drop_eq_nil_of_le hi']; rfl
theorem S.slices_Contains_string(l:List Str)(s:Str)(f:Bool)(hl:l.length<2^40):aj Tryz.prog 151 [.row 0 f (.strs l),.str s] (.bool (l.any fun x=>s==x)):=by
 refine aj.of Bd.iH (by simp) rfl rfl ?_;refine ah.pure (S.slices_Index_string l s f hl) rfl ?_;exact ak.bool aak.symm
def FY:ByteArray:=⟨#[112,114,111,116,111,99,111,108,32,116,111,112,111,108,111,103,121,32,115,116,97,116,101,115,32,109,101,115,115,97,103,101,115,32,118,97,108,117,101,115,32,102,97,117,108,116,115,32,114,101,115,105,108,105,101,110,99,101,32,105,110,105,116,105,97,108,32,108,101,97,100,101,114,32,114,117,108,101,32,108,111,99,97,108,32,112,97,105,114,32,98,114,111,97,100,99,97,115,116,32,110,101,105,103,104,98,111,114,32,112,97,115,115,32,119,104,101,110,32,101,120,105,115,116,115,32,102,111,114,97,108,108,32,114,101,97,100,32,119,114,105,116,101,32,115,101,110,100,32,97,108,108,32,97,116,32,102,105,114,115,116,32,108,97,115,116,32,108,101,102,116,32,114,105,103,104,116,32,112,97,114,101,110,116,32,99,104,105,108,100,32,112,114,111,112,101,114,116,121,32,110,101,118,101,114,32,101,118,101,110,116,117,97,108,108,121,32,115,116,97,114,116,32,99,111,117,110,116,32,97,100,106,97,99,101,110,116,32,103,111,97,108,32,99,108,105,113,117,101,32,108,105,110,101,32,114,105,110,103,32,116,114,101,101,32,99,114,97,115,104,32,111,109,105,115,115,105,111,110,32,97,114,98,105,116,114,97,114,121]⟩
def sK:List Str:=Lib.fields FY.data.toList
theorem Ji:sK.length=42+1:=by kernel_rfl
theorem XT:(FY.data.toList.all fun b=>Nat.blt b.toNat 128)=true:=by kernel_rfl
theorem S.XU:AX Tryz.prog 166 [.lit (.string FY)] (fun n=>.own n) (some ⟨9,0,sK.map eS⟩) :=
 S.Fields FY (of_decide_eq_true (by kernel_rfl)) (fun j b hb=>by
  have:=List.all_eq_true.1 XT b (List.mem_of_getElem? hb)
  exact Nat.blt_eq.mp this) Ji (by rw[show(Lib.fields FY.data.toList).length=_ from Ji]; decide)
theorem af2{h:Hz}{j:Nat}{Z:Nat->Prop}{l:List Str}(hz:Z j)(q:h.get j=some (.row 9 0 (.strs l) [])):T.sub Z h.au (V.row 0 false (.strs l)).aG (V.own j).aG:=by
 show T.sub Z h.au (.sl 0 false (l.map eS)) (.own j);simp only[T.sub];refine⟨trivial,hz,?_,by decide,9,?_⟩
 ·rw[iw]; intro t ht; obtain⟨x,_,rfl⟩:=List.mem_map.1 ht; rfl
 ·have:=aP q;rw[this]; simp[OV.aA,Rw.aT,V.aT]
theorem S.jg(s:Str):aj Tryz.prog 142 [.str s] (.bool (sK.any fun x=>s==x)):=by
 refine aj.of Bd.jg (by simp) rfl rfl ?_;refine ah.heap (AX.frame S.XU _ _) ?_;rintro t hp ⟨rfl,rfl⟩;refine⟨.own 1,[(1,some (.row 9 0 (.strs sK) []))],rfl,?_,?_⟩
 ·rw[bP]; simp[jc,OV.aA,Rw.aT,V.aT]
 refine ah.lend (S.slices_Contains_string sK s false (by rw[Ji]; decide)) (And.intro (af2 trivial rfl) (And.intro (aI _) trivial)) rfl rfl ?_;exact ak.bool rfl
def validName(s:Str):Bool:=nmB (bs s)&& !(sK.any fun x=>s==x)
theorem S.gB(s:Str):aj Tryz.prog 111 [.str s] (.bool (validName s)):=S.U0 (bs s) _ (S.jg s)
end Go.Proofs.YtdhobgbagphngaaGreatDoor
namespace Go.Ab
open Go.RowKit
section
variable {P:Program}
theorem AX.ofRow{f:FuncId}{ts:List T}{ty:TypeId}{l:List T}(hcl:callable P f)(hfree:T.bZ l=true)(htf:T.bZ ts=true)
  (H: ∀ E vs,bF E ts vs-> ∀ w,Tab P w->Calls P f vs.toArray w fun e w'=> ∃ (c q:Nat) (cs:Array Value),e= .returned (.slice (some ⟨w.heap.size,0,none⟩) l.length (c+1))/\w'=(w.drewN q).alloc (.cells cs ty)/\l.length<=c+1/\c+1<=maxLen/\cs.size=c+1/\ ∀ E,aF E 0 l cs.toList) :
  AX P f ts (fun n=>.own n) (some ⟨ty,0,l⟩):=by
 refine⟨htf,fun _=>rfl,(fun ob h=>by cases h; exact hfree),(fun ob h=>by cases h; exact fun e=>absurd e (by decide:(0:Nat)≠fM)),fun n=>⟨⟨_,_,rfl,rfl⟩,hcl,fun F M E vs hk he hr hid hm hn=>?_⟩⟩;refine(H E vs hr E.w fun g cs hg=>(hk.gl.1 g cs hg).2).mono ?_;rintro e w' ⟨c,q,cs,rfl,rfl,h1,h2,h3,h4⟩
 let ob:Ob:=⟨ty,0,l⟩
 let v:Value:=.slice (some ⟨E.w.heap.size,0,none⟩) l.length (c+1)
 have hob: ∀ E',E'.w=(E.w.drewN q).alloc (.cells cs ty)->tZ E' ob v:=by
  intro E' hE;refine .inl ⟨(fun e=>absurd e (by decide:(0:Nat)≠fM)),.inr ⟨E.w.heap.size,c,cs,rfl,h1,h2,?_,by simpa [ob,bg] using h3,h4 E'⟩⟩;rw[hE]; exact uf (E.w.drewN q) _
 have h0:=JQ (E:=E) (M:=M) (n:=n) (v:=v) (ob:=ob) (h0:=no) (w':=(E.w.drewN q).alloc (.cells cs ty)) hk (by rw[he]; exact hm) hn (fun j oj h=>by cases h) (wZ (E.w.drewN q) _) rfl rfl rfl (Nat.le_add_right _ _)
  (fun g hg _=>jC (E.w.drewN q) _ hg) (fun g hg=>.inl (by
   have:g=E.w.heap.size:=by
    have h:=hg;simp only[v,rowB,Option.some.injEq] at h;exact h.symm
   omega)) (hob _ rfl) (show 0<bg 0 by decide)
 refine⟨v,.own n,E.obj ((E.w.drewN q).alloc (.cells cs ty)) n v ob no,rfl,rfl,⟨rfl,rfl⟩,?_,h0.1,h0.2,y5 hn (fun j oj h=>by cases h),.inr rfl,?_⟩
 ·rw[ay rfl];simp only[aN];exact⟨_,rfl,fun _=>by simp[Env.obj]⟩
 ·intro i oi hi
  have:i=n/\oi=ob:=by
   simp only[Env.obj,upd,no] at hi;split at hi
   ·cases hi; exact⟨by assumption,rfl⟩
   ·cases hi
  obtain⟨rfl,rfl⟩:=this;exact⟨.inr rfl,T.aB (fun _ h=>h.elim) _ (cu hfree)⟩
end
end Go.Ab
namespace Go.Proofs.YtdhobgbagphngaaGreatDoor
open Go.Ab Go.Proofs
set_option maxRecDepth 100000
theorem S.Grow(n:Nat)(h0:0<n)(hn:n<2^30):AX Tryz.prog 171 [.sl 0 true [],.int n] (fun m=>.own m) (some ⟨9,0,[]⟩):=by
 have hi9:(Tryz.prog.info? 9).map (fun i=>(i.zero,i.size,i.bytes))=some (some (.string ByteArray.empty),1,16):=by kernel_rfl
 obtain⟨i0,hi0,hi⟩:=Option.map_eq_some_iff.1 hi9;simp only[Prod.mk.injEq] at hi;obtain⟨hz,hs,hby⟩:=hi;refine AX.ofRow Tryz.call171 rfl rfl (fun E vs h w hw=>?_);simp only[bJ] at h;obtain⟨v,r,rfl,h1,v',r',rfl,h2,h3⟩:=h;simp only[bF] at h3; subst h3;rw[ay rfl] at h1;simp only[aN] at h1;obtain⟨a,c,h4,_,h5,_⟩:=h1;have hc:c=0:=h5 trivial;subst hc;have hv:v= .slice a 0 0:=by simpa using h4
 have hv':v'= .int .i64 n:=aK.1 h2;subst hv hv'
 have:Calls Tryz.prog 171 #[.slice a 0 0,.int .i64 n] w fun e w'=>e= .returned (.slice (some ⟨w.heap.size,0,none⟩) 0 (grownCap w (0+n) 0 9)) /\
   w'=w.drew.alloc (.cells (([]:List Value).toArray++Builtin.zeroCells (Value.string ByteArray.empty).cells (0+n-0)++Builtin.zeroCells (Value.string ByteArray.empty).cells (grownCap w (0+n) 0 9-(0+n))) 9) :=
  Any8.slices_Grow_grow Tryz.layGrow i0 (.string ByteArray.empty) hi0 hz (by omega) a 0 0 n [] w (Nat.le_refl _) (by omega) (by rw[hby]; omega) (by omega) (by simp) (fun _=>rfl) (fun _ _ j v h=>by simp at h)
 refine this.mono ?_;rintro e w' ⟨rfl,rfl⟩;have hge:=grownCap_ge w (0+n) 0 9;have hle:=grownCap_le_maxLen w (0+n) 0 9 (by simp only[maxLen]; omega);generalize grownCap w (0+n) 0 9=gc at hge hle;obtain⟨c,rfl⟩: ∃ c,gc=c+1:=⟨gc-1,by omega⟩
 refine⟨c,1,_,rfl,rfl,Nat.zero_le _,hle,?_,fun _=>trivial⟩;simp[Builtin.zeroCells,Value.cells]; omega
end Go.Proofs.YtdhobgbagphngaaGreatDoor
