/-
 protocol.isReserved and protocol.ValidName as contracts of the layer. No condition.
-/
import Derived.Test.YtbigdcimbhgjbaaGreatDoorNa
import Derived.Test.YtbigdcimbhgjbaaGreatDoorKa
import Derived.Test.YtbigdcimbhgjbaaGreatDoorLg
namespace Go.Ab
open Go.RowKit
section
variable {P:Program}
theorem wF.Z7{f:FuncId}{us:List Value}{ty:TypeId}{l:List ByteArray}(hcl:callable P f){c:Nat}(hc:l.length=c+1)(hlen:l.length<=maxLen)
  (H: ∀ w,Tab P w->Calls P f us.toArray w fun e w'=>e= .returned (.slice (some ⟨w.heap.size,0,none⟩) l.length l.length)/\w'=w.alloc (.cells (l.map Value.string).toArray ty)) :
  wF P f (us.map T.lit) (fun n=>.own n) (some ⟨ty,0,l.map fun x=>.lit (.string x)⟩):=by
 have hfree:T.bZ (l.map fun x=>T.lit (.string x))=true:=by
  rw[gY]; intro t ht; obtain⟨x,_,rfl⟩:=List.mem_map.1 ht; rfl
 refine⟨KC,fun _=>rfl,(fun ob h=>by cases h; exact hfree),(fun ob h=>by cases h; exact fun e=>absurd e (by decide:(0:Nat)≠eU)),fun n=>⟨⟨_,_,rfl,rfl⟩,hcl,fun F M E vs hk he hr hid hm hn=>?_⟩⟩
 rw[BR] at hr; subst hr
 refine(H E.w fun g cs hg=>(hk.gl.1 g cs hg).2).mono ?_
 rintro e w' ⟨rfl,rfl⟩
 have hrows: ∀ (E:Env) (l:List ByteArray),aC E 0 (l.map fun x=>T.lit (.string x)) (l.map Value.string):=by
  intro E l
  induction l with
  |nil=>trivial
  |cons x l ih =>
   simp only[List.map_cons,aC]
   exact⟨rfl,by simp[bC],(fun v hv=>by simp[bC] at hv; subst hv; rfl),by simp[bC,aJ],by simpa [bC] using ih⟩
 let ob:Ob:=⟨ty,0,l.map fun x=>.lit (.string x)⟩
 let v:Value:=.slice (some ⟨E.w.heap.size,0,none⟩) l.length l.length
 have hob: ∀ E',E'.w=E.w.alloc (.cells (l.map Value.string).toArray ty)->su E' ob v:=by
  intro E' hE
  refine .inl ⟨(fun e=>absurd e (by decide:(0:Nat)≠eU)),.inr ⟨E.w.heap.size,c,(l.map Value.string).toArray,by simp[v,ob,hc],by simp[ob,hc],by omega,?_,by simp[ob,bC,hc],hrows E' l⟩⟩
  rw[hE]; exact rH _ _
 have h0:=Ic (E:=E) (M:=M) (n:=n) (v:=v) (ob:=ob) (h0:=no) (w':=E.w.alloc (.cells (l.map Value.string).toArray ty)) hk (by rw[he]; exact hm) hn (fun j oj h=>by cases h) (vw _ _) rfl rfl rfl (Nat.le_refl _)
  (fun g hg _=>jE _ _ hg) (fun g hg=>.inl (by
   have:g=E.w.heap.size:=by
    have h:=hg
    simp only[v,hc,rowB,Option.some.injEq] at h
    exact h.symm
   omega)) (hob _ rfl) (show 0<bC 0 by decide)
 refine⟨v,.own n,E.obj (E.w.alloc (.cells (l.map Value.string).toArray ty)) n v ob no,rfl,rfl,⟨rfl,rfl⟩,?_,h0.1,h0.2,xw hn (fun j oj h=>by cases h),.inr rfl,?_⟩
 ·rw[aA rfl]
  simp only[aJ]
  exact⟨_,rfl,fun _=>by simp[Env.obj]⟩
 ·intro i oi hi
  have:i=n/\oi=ob:=by
   simp only[Env.obj,upd,no] at hi
   split at hi
   ·cases hi; exact⟨by assumption,rfl⟩
   ·cases hi
  obtain⟨rfl,rfl⟩:=this
  exact⟨.inr rfl,T.ay (fun _ h=>h.elim) _ (cZ hfree)⟩
end
end Go.Ab
namespace Go.Proofs.YtbigdcimbhgjbaaGreatDoor
open Go.Ab Go.Proofs
set_option maxRecDepth 100000
theorem ab6{w:World}(h:Tab Tryz.prog w):Lib.TabIs Tryz.prog w "strings.asciiSpace" .u8 Lib.asciiSpaceTab:=by
 have hg:Tryz.prog.globalNamed "strings.asciiSpace" = some 3:=by kernel_rfl
 obtain⟨ty,m,e⟩:=h 3 _ (by unfold wO; rw[if_pos hg])
 unfold Lib.TabIs World.var?
 rw[hg]
 simp only[Option.bind_some,e]
theorem S.Fields(s:ByteArray)(hs:s.size<4294967281)(hascii: ∀ (j:Nat) b,s.data.toList[j]? =some b->b.toNat<128){c:Nat}(hc:(Lib.fields s.data.toList).length=c+1)(hl:(Lib.fields s.data.toList).length<=maxLen) :
  wF Tryz.prog 126 [.lit (.string s)] (fun n=>.own n) (some ⟨9,0,(Lib.fields s.data.toList).map eS⟩):=by
 have:=wF.Z7 (P:=Tryz.prog) (f:=126) (us:=[.string s]) (ty:=9) (l:=(Lib.fields s.data.toList).map fun l=>(⟨l.toArray⟩:ByteArray)) Tryz.call126 (c:=c) (by simpa using hc) (by simpa using hl) (fun w hw=>by
  have:Calls Tryz.prog 126 #[.string s] w fun e w'=>e= .returned (.slice (some ⟨w.heap.size,0,none⟩) (Lib.fields s.data.toList).length (Lib.fields s.data.toList).length)/\w'=w.alloc (.cells ((Lib.fields s.data.toList).map fun l=>Value.string ⟨l.toArray⟩).toArray 9):=Any.strings_Fields_laid Tryz.laysM157 s w hs hascii (ab6 hw)
  simpa [List.map_map,Function.comp_def] using this)
 have e:eS=fun l:Str=>T.lit (.string ⟨l.toArray⟩):=rfl
 rw[e]
 simpa [List.map_map,Function.comp_def] using this
def iE(s:Str):List Str->Nat->Int
 |[],_=> -1
 |x::r,i=>bif s==x then(i:Int) else iE s r (i+1)
theorem Ya{s:Str}: ∀ {l:List Str} {i:Nat},0<=iE s l i↔(l.any fun x=>s==x)=true:=by
 intro l
 induction l with
 |nil=>intro i; simp[iE]
 |cons x r ih =>
  intro i
  rw[List.any_cons,Bool.or_eq_true,<- ih (i:=i+1)]
  show(0:Int)<=(bif s==x then(i:Int) else iE s r (i+1))↔_
  generalize (s==x)=b
  cases b<;>simp
theorem Yb{s:Str}{l:List Str}{i:Nat}:decide (0<=iE s l i)=l.any fun x=>s==x:=by
 rw[Bool.eq_iff_iff,decide_eq_true_eq]; exact Ya
theorem S.slices_Index_string(l:List Str)(s:Str)(f:Bool)(hl:l.length<2^40):ak Tryz.prog 35 [.row 0 f (.strs l),.str s] (.int (iE s l 0)):=by
 refine ak.of Bd.jh (by simp) rfl rfl ?_
 refine aQ.same [0,1,6,7] (fun i:Nat=>[(8,.int i)]) (fun i=>i<=l.length/\iE s l 0=iE s (l.drop i) i) (fun i=>l.length-i) 0 rfl (by decide) rfl (fun _=>rfl) ⟨by omega,by simp⟩ ⟨⟨_,rfl,rfl⟩,trivial⟩ ?_
 refine⟨rfl,?_⟩
 rintro i ⟨hi,hall⟩
 refine⟨fun h3=>?_,fun h3=>?_⟩
 ·have hi':i<l.length:=by simpa using h3
  have hd:l.drop i=l.getD i []::l.drop (i+1):=by
   rw[List.drop_eq_getElem_cons hi']; simp[hi']
  rw[hd] at hall
  simp only[iE] at hall
  refine .mk (by simp only[Rw.rng] at *; omega) ?_
  refine⟨fun h4=>?_,fun h4=>?_⟩
  ·conv=>whnf
   refine au.int ?_
   have h4':(s==l.getD i [])=true:=h4
   rw[hall,h4']; rfl
  ·conv=>whnf
   refine .mk (by simp only[okI] at *; omega) ?_
   refine⟨i+1,⟨by omega,?_⟩,by omega,⟨⟨_,rfl,rfl⟩,trivial⟩,?_,rfl⟩
   ·have h4':(s==l.getD i [])=false:=h4
    rw[hall,h4']; rfl
   ·repeat' (first|exact trivial|exact⟨_,rfl,rfl⟩|constructor)
 ·conv=>whnf
  refine au.int ?_
  have hi':l.length<=i:=by simpa using h3
  rw[hall,List.drop_eq_nil_of_le hi']; rfl
theorem S.slices_Contains_string(l:List Str)(s:Str)(f:Bool)(hl:l.length<2^40):ak Tryz.prog 100 [.row 0 f (.strs l),.str s] (.bool (l.any fun x=>s==x)):=by
 refine ak.of Bd.iw (by simp) rfl rfl ?_
 refine ah.pure (S.slices_Index_string l s f hl) rfl ?_
 exact au.bool Yb.symm
def DX:ByteArray:=⟨#[112,114,111,116,111,99,111,108,32,116,111,112,111,108,111,103,121,32,115,116,97,116,101,115,32,109,101,115,115,97,103,101,115,32,118,97,108,117,101,115,32,102,97,117,108,116,115,32,114,101,115,105,108,105,101,110,99,101,32,105,110,105,116,105,97,108,32,108,101,97,100,101,114,32,114,117,108,101,32,108,111,99,97,108,32,112,97,105,114,32,98,114,111,97,100,99,97,115,116,32,110,101,105,103,104,98,111,114,32,112,97,115,115,32,119,104,101,110,32,101,120,105,115,116,115,32,102,111,114,97,108,108,32,114,101,97,100,32,119,114,105,116,101,32,115,101,110,100,32,97,108,108,32,97,116,32,102,105,114,115,116,32,108,97,115,116,32,108,101,102,116,32,114,105,103,104,116,32,112,97,114,101,110,116,32,99,104,105,108,100,32,112,114,111,112,101,114,116,121,32,110,101,118,101,114,32,101,118,101,110,116,117,97,108,108,121,32,115,116,97,114,116,32,99,111,117,110,116,32,97,100,106,97,99,101,110,116,32,103,111,97,108,32,99,108,105,113,117,101,32,108,105,110,101,32,114,105,110,103,32,116,114,101,101,32,99,114,97,115,104,32,111,109,105,115,115,105,111,110,32,97,114,98,105,116,114,97,114,121]⟩
def qG:List Str:=Lib.fields DX.data.toList
theorem Gg:qG.length=42+1:=by kernel_rfl
theorem Ve:(DX.data.toList.all fun b=>Nat.blt b.toNat 128)=true:=by kernel_rfl
theorem S.Vf:wF Tryz.prog 126 [.lit (.string DX)] (fun n=>.own n) (some ⟨9,0,qG.map eS⟩) :=
 S.Fields DX (of_decide_eq_true (by kernel_rfl)) (fun j b hb=>by
  have:=List.all_eq_true.1 Ve b (List.mem_of_getElem? hb)
  exact Nat.blt_eq.mp this) Gg (by rw[show(Lib.fields DX.data.toList).length=_ from Gg]; decide)
theorem adu{h:Hz}{j:Nat}{Z:Nat->Prop}{l:List Str}(hz:Z j)(q:h.get j=some (.row 9 0 (.strs l) [])):T.sub Z h.aj (V.row 0 false (.strs l)).aI (V.own j).aI:=by
 show T.sub Z h.aj (.sl 0 false (l.map eS)) (.own j)
 simp only[T.sub]
 refine⟨trivial,hz,?_,by decide,9,?_⟩
 ·rw[gY]; intro t ht; obtain⟨x,_,rfl⟩:=List.mem_map.1 ht; rfl
 ·have:=aH q
  rw[this]; simp[OV.aF,Rw.aX,V.aX]
theorem S.jc(s:Str):ak Tryz.prog 98 [.str s] (.bool (qG.any fun x=>s==x)):=by
 refine ak.of Bd.jc (by simp) rfl rfl ?_
 refine ah.heap (wF.frame S.Vf _ _) ?_
 rintro t hp ⟨rfl,rfl⟩
 refine⟨.own 1,[(1,some (.row 9 0 (.strs qG) []))],rfl,?_,?_⟩
 ·rw[aY]; simp[gu,OV.aF,Rw.aX,V.aX]
 refine ah.lend (S.slices_Contains_string qG s false (by rw[Gg]; decide)) (And.intro (adu trivial rfl) (And.intro (aB _) trivial)) rfl rfl ?_
 exact au.bool rfl
def validName(s:Str):Bool:=nmB (bs s)&& !(qG.any fun x=>s==x)
theorem S.fP(s:Str):ak Tryz.prog 66 [.str s] (.bool (validName s)):=S.Q8 (bs s) _ (S.jc s)
end Go.Proofs.YtbigdcimbhgjbaaGreatDoor
namespace Go.Ab
open Go.RowKit
section
variable {P:Program}
theorem wF.ofRow{f:FuncId}{ts:List T}{ty:TypeId}{l:List T}(hcl:callable P f)(hfree:T.bZ l=true)(htf:T.bZ ts=true)
  (H: ∀ E vs,bD E ts vs-> ∀ w,Tab P w->Calls P f vs.toArray w fun e w'=> ∃ (c q:Nat) (cs:Array Value),e= .returned (.slice (some ⟨w.heap.size,0,none⟩) l.length (c+1))/\w'=(w.drewN q).alloc (.cells cs ty)/\l.length<=c+1/\c+1<=maxLen/\cs.size=c+1/\ ∀ E,aC E 0 l cs.toList) :
  wF P f ts (fun n=>.own n) (some ⟨ty,0,l⟩):=by
 refine⟨htf,fun _=>rfl,(fun ob h=>by cases h; exact hfree),(fun ob h=>by cases h; exact fun e=>absurd e (by decide:(0:Nat)≠eU)),fun n=>⟨⟨_,_,rfl,rfl⟩,hcl,fun F M E vs hk he hr hid hm hn=>?_⟩⟩
 refine(H E vs hr E.w fun g cs hg=>(hk.gl.1 g cs hg).2).mono ?_
 rintro e w' ⟨c,q,cs,rfl,rfl,h1,h2,h3,h4⟩
 let ob:Ob:=⟨ty,0,l⟩
 let v:Value:=.slice (some ⟨E.w.heap.size,0,none⟩) l.length (c+1)
 have hob: ∀ E',E'.w=(E.w.drewN q).alloc (.cells cs ty)->su E' ob v:=by
  intro E' hE
  refine .inl ⟨(fun e=>absurd e (by decide:(0:Nat)≠eU)),.inr ⟨E.w.heap.size,c,cs,rfl,h1,h2,?_,by simpa [ob,bC] using h3,h4 E'⟩⟩
  rw[hE]; exact rH (E.w.drewN q) _
 have h0:=Ic (E:=E) (M:=M) (n:=n) (v:=v) (ob:=ob) (h0:=no) (w':=(E.w.drewN q).alloc (.cells cs ty)) hk (by rw[he]; exact hm) hn (fun j oj h=>by cases h) (vw (E.w.drewN q) _) rfl rfl rfl (Nat.le_add_right _ _)
  (fun g hg _=>jE (E.w.drewN q) _ hg) (fun g hg=>.inl (by
   have:g=E.w.heap.size:=by
    have h:=hg
    simp only[v,rowB,Option.some.injEq] at h
    exact h.symm
   omega)) (hob _ rfl) (show 0<bC 0 by decide)
 refine⟨v,.own n,E.obj ((E.w.drewN q).alloc (.cells cs ty)) n v ob no,rfl,rfl,⟨rfl,rfl⟩,?_,h0.1,h0.2,xw hn (fun j oj h=>by cases h),.inr rfl,?_⟩
 ·rw[aA rfl]
  simp only[aJ]
  exact⟨_,rfl,fun _=>by simp[Env.obj]⟩
 ·intro i oi hi
  have:i=n/\oi=ob:=by
   simp only[Env.obj,upd,no] at hi
   split at hi
   ·cases hi; exact⟨by assumption,rfl⟩
   ·cases hi
  obtain⟨rfl,rfl⟩:=this
  exact⟨.inr rfl,T.ay (fun _ h=>h.elim) _ (cZ hfree)⟩
end
end Go.Ab
namespace Go.Proofs.YtbigdcimbhgjbaaGreatDoor
open Go.Ab Go.Proofs
set_option maxRecDepth 100000
theorem S.Grow(n:Nat)(h0:0<n)(hn:n<2^30):wF Tryz.prog 127 [.sl 0 true [],.int n] (fun m=>.own m) (some ⟨9,0,[]⟩):=by
 have hi9:(Tryz.prog.info? 9).map (fun i=>(i.zero,i.size,i.bytes))=some (some (.string ByteArray.empty),1,16):=by kernel_rfl
 obtain⟨i0,hi0,hi⟩:=Option.map_eq_some_iff.1 hi9
 simp only[Prod.mk.injEq] at hi
 obtain⟨hz,hs,hby⟩:=hi
 refine wF.ofRow Tryz.call127 rfl rfl (fun E vs h w hw=>?_)
 simp only[bK] at h
 obtain⟨v,r,rfl,h1,v',r',rfl,h2,h3⟩:=h
 simp only[bD] at h3; subst h3
 rw[aA rfl] at h1
 simp only[aJ] at h1
 obtain⟨a,c,h4,_,h5,_⟩:=h1
 have hc:c=0:=h5 trivial
 subst hc
 have hv:v= .slice a 0 0:=by simpa using h4
 have hv':v'= .int .i64 n:=aK.1 h2
 subst hv hv'
 have:Calls Tryz.prog 127 #[.slice a 0 0,.int .i64 n] w fun e w'=>e= .returned (.slice (some ⟨w.heap.size,0,none⟩) 0 (grownCap w (0+n) 0 9)) /\
   w'=w.drew.alloc (.cells (([]:List Value).toArray++Builtin.zeroCells (Value.string ByteArray.empty).cells (0+n-0)++Builtin.zeroCells (Value.string ByteArray.empty).cells (grownCap w (0+n) 0 9-(0+n))) 9) :=
  Any8.slices_Grow_grow Tryz.layGrow i0 (.string ByteArray.empty) hi0 hz (by omega) a 0 0 n [] w (Nat.le_refl _) (by omega) (by rw[hby]; omega) (by omega) (by simp) (fun _=>rfl) (fun _ _ j v h=>by simp at h)
 refine this.mono ?_
 rintro e w' ⟨rfl,rfl⟩
 have hge:=grownCap_ge w (0+n) 0 9
 have hle:=grownCap_le_maxLen w (0+n) 0 9 (by simp only[maxLen]; omega)
 generalize grownCap w (0+n) 0 9=gc at hge hle
 obtain⟨c,rfl⟩: ∃ c,gc=c+1:=⟨gc-1,by omega⟩
 refine⟨c,1,_,rfl,rfl,Nat.zero_le _,hle,?_,fun _=>trivial⟩
 simp[Builtin.zeroCells,Value.cells]; omega
end Go.Proofs.YtbigdcimbhgjbaaGreatDoor
