/-
 protocol.ValidName and protocol.isReserved: their contracts. No condition.
-/
import Derived.WalkKit
import Derived.WalkSpells
import Derived.LoopTactic
import Derived.Laws.RangeAny
import Derived.Laws.RangeString
import Derived.Test.YtbdbmfccbpfeoabGreatDoorLg
import Derived.Test.YtbdbmfccbpfeoabGreatDoorSb
import Derived.Test.YtbdbmfccbpfeoabGreatDoorSc
namespace Go.Ab
open Go.RowKit
section
variable {P:Program}
def Tab(P:Program)(w:World):Prop:= ∀ g cs,zh P g=some cs-> ∃ ty m,w.heap[g]? =some (.cells cs ty m)
structure Grew(w w':World):Prop where
 b:Below w.heap.size w w'
 d:w.drawn<=w'.drawn
theorem Grew.refl(w:World):Grew w w:=⟨.refl _ _,ba _⟩
theorem Grew.trans{a b c:World}(h:Grew a b)(k:Grew b c):Grew a c:=⟨h.b.trans (k.b.mono h.b.size),ez h.d k.d⟩
theorem Tab.grew{w w':World}(h:Tab P w)(g:Grew w w'):Tab P w':=fun n cs hn=>by
 obtain⟨ty,m,e⟩:=h n cs hn;exact⟨ty,m,by rw[g.b.block n (dC.1 e).1]; exact e⟩
theorem Grew.iter(w:World)(s:ByteArray)(pos:Nat):Grew w (w.iter s pos):=⟨(Below.refl _ w).alloc (ba _) _,ba _⟩
theorem FB{E:Env}: ∀ {us vs:List Value},bF E (us.map T.lit) vs↔vs=us:=by
 intro us;induction us with
 |nil=>intro vs; simp[bF]
 |cons u us ih =>
  intro vs;simp only[cG,dI,aX,ih];constructor
  ·rintro⟨v,r,rfl,rfl,rfl⟩; rfl
  ·rintro rfl; exact⟨u,us,rfl,rfl,rfl⟩
theorem Px: ∀ {us:List Value},T.bW (us.map T.lit)=true:=by
 intro us;induction us with
 |nil=>rfl
 |cons u us ih=>simpa [T.bW,T.free] using ih
theorem xG.aeI{f:FuncId}{us:List Value}{u:Value}(hcl:callable P f)(H: ∀ w,Tab P w->Calls P f us.toArray w fun e w'=>e= .returned u/\Grew w w'):xG P f (us.map T.lit) (.lit u):=by
 refine⟨Px,fun _=>trivial,(fun _ h=>by cases h),(fun _ h=>by cases h),fun n=>⟨⟨_,_,rfl,rfl⟩,hcl,fun F M E vs hk he hr hid hm hn=>?_⟩⟩;rw[FB] at hr; subst hr;refine(H E.w fun g cs hg=>(hk.gl.1 g cs hg).2).mono ?_;rintro e w' ⟨rfl,g⟩;have hold: ∀ q,q<E.w.heap.size->w'.heap[q]? =E.w.heap[q]? :=g.b.block
 have hext:Ext F E {E with w:=w'}:=⟨fun _ h=>h,fun q hq=>hold q (by
  rcases hq with hq|hq
  ·exact hk.slt q hq
  ·exact hk.flt q hq),g.b.size,g.b.os,g.b.tape,g.b.output,g.d,rfl⟩
 refine⟨u,.lit u,{E with w:=w'},rfl,rfl,⟨rfl,by rw[show jF no n none=no from rfl]; exact he⟩,aX.2 rfl,?_,hext,fun i _ hs=>⟨hs,rfl,rfl⟩,trivial,?_⟩
 ·refine⟨(fun i ob hi=>by rw[show({E with w:=w'}:Env).h=E.h from rfl,he] at hi; cases hi),(fun i ob g hi=>by rw[show({E with w:=w'}:Env).h=E.h from rfl,he] at hi; cases hi),(fun i j oi oj g _ hi=>by rw[show({E with w:=w'}:Env).h=E.h from rfl,he] at hi; cases hi),fun q hq=>cY (hk.slt q hq) g.b.size,fun q hq=>cY (hk.flt q hq) g.b.size,hk.sf,hext.gl hk⟩
 ·intro i ob hi;rw[show({E with w:=w'}:Env).h=E.h from rfl,he] at hi; cases hi
theorem xG.calls{f:FuncId}{us:List Value}{u:Value}(S:xG P f (us.map T.lit) (.lit u)){W:World}(hgl:Tab P W):Calls P f us.toArray W fun e w'=>e= .returned u/\Grew W w':=by
 obtain⟨_,_,hcall⟩:=S.call 0;refine(hcall (agL P) (fun _=>False) (acg P W) us (aci hgl) rfl (FB.2 rfl) (dn S.free) (zl _) (fun h=>h)).mono ?_;rintro e w' ⟨v,t,E2,rfl,rfl,⟨rfl,_⟩,hv,_,hext,_⟩;refine⟨by rw[aX.1 hv],⟨hext.os,hext.tape,hext.output,hext.size,fun g hg=>hext.w g ?_⟩,hext.dr⟩;cases hq:zh P g with
 |none=>exact .inl ⟨hg,hq⟩
 |some cs=>right; show(zh P g).isSome=true; rw[hq]; rfl
end
end Go.Ab
namespace Go.Proofs.YtbdbmfccbpfeoabGreatDoor
open Go.Ab Go.Proofs Go.RowKit
set_option maxRecDepth 100000
def kJ(c:Nat):Bool:=Nat.ble 97 c&&Nat.ble c 122
def nameB(c:Nat):Bool:=kJ c||(Nat.ble 48 c&&Nat.ble c 57)||Nat.beq c 95
def lZ:List UInt8->Bool
 |[]=>true
 |c::r=>kJ c.toNat&&r.all fun c=>nameB c.toNat
def upTo(s:ByteArray)(n:Nat):Prop:= ∀ j,j<n->(h:j<s.size)->(bif Nat.beq j 0 then kJ (s[j]'h).toNat else nameB (s[j]'h).toNat)=true
def Uk(s:ByteArray)(j:Nat)(h:j<s.size):Bool:=bif Nat.beq j 0 then kJ (s[j]'h).toNat else nameB (s[j]'h).toNat
theorem HY(s:ByteArray):lZ s.data.toList=true↔upTo s s.size:=by
 have hsz:s.data.toList.length=s.size:=by simp
 have hg: ∀ j (h:j<s.size),s.data.toList[j]? =some (s[j]'h):=fun j h=>by
  rw[bN (by omega)]; rfl
 constructor
 ·intro h j hj hjs;have:=hg j hjs;revert this;generalize s[j]'hjs=x;intro this;revert h this;cases s.data.toList with
  |nil=>intro _ h; cases h
  |cons c r =>
   intro h1 h2;simp only[lZ,aD,bu] at h1;cases j with
   |zero=>simp at h2; subst h2; exact h1.1
   |succ j =>
    simp only[List.getElem?_cons_succ] at h2;exact h1.2 x (ce h2)
 ·intro h;have h': ∀ j x,s.data.toList[j]? =some x->(bif Nat.beq j 0 then kJ x.toNat else nameB x.toNat)=true:=by
   intro j x hx;have hj:j<s.size:=by rw[<- hsz]; exact(bi.1 hx).1
   rw[hg j hj] at hx; cases hx;exact h j hj hj
  revert h';cases s.data.toList with
  |nil=>intro _; rfl
  |cons c r =>
   intro h';simp only[lZ,aD,bu];refine⟨h' 0 c rfl,fun x hx=>?_⟩;obtain⟨i,hi,rfl⟩:=eI hx;exact h' (i+1) _ (by simp[List.getElem?_eq_getElem hi])
theorem Ul(s:ByteArray)(pos:Nat)(h:pos<s.size)(hb:Uk s pos h=false):lZ s.data.toList=false:=by
 cases e:lZ s.data.toList with
 |false=>rfl
 |true =>
  have:=(HY s).1 e pos h h;unfold Uk at hb;rw[hb] at this; cases this
theorem ZK{s:ByteArray}{pos:Nat}(h:upTo s pos)(hp:pos<s.size)(hb:Uk s pos hp=true):upTo s (pos+1):=by
 intro j hj hjs;by_cases e:j=pos
 ·subst e; exact hb
 ·exact h j (by omega) hjs
theorem aeJ{s:ByteArray}{res:Bool}{w:World}{pos p:Nat}{v:Value}(hp:pos<s.size)(hb:Uk s pos hp=false)(hv:v= .bool false) :
  Ending.returned v=Ending.returned (Value.bool (lZ s.data.toList&& !res))/\Grew w (w.iter s p):=by
 rw[Ul s pos hp hb,hv]; exact⟨rfl,Grew.iter _ _ _⟩
theorem Um{pos c:Nat}:(bif Nat.beq pos 0 then kJ c else nameB c)=true↔(97<=c/\c<=122\/pos≠0/\(48<=c/\c<=57\/c=95)):=by
 cases pos with
 |zero=>simp[kJ]
 |succ n=>simp[nameB,kJ,or_assoc]
theorem ZL{pos c:Nat}:(bif Nat.beq pos 0 then kJ c else nameB c)=false↔ ¬ (97<=c/\c<=122\/pos≠0/\(48<=c/\c<=57\/c=95)):=by
 rw[<- Um]; simp
theorem ZM{s:ByteArray}{w:World}{pos c:Nat}(hp:pos<s.size)(hup:upTo s pos)(hok:Uk s pos hp=bif Nat.beq pos 0 then kJ c else nameB c)(h:97<=c/\c<=122\/pos≠0/\(48<=c/\c<=57\/c=95)) :
  ∃ q,w.iter s (pos+1)=w.iter s q/\q<=s.size/\upTo s q:=⟨pos+1,rfl,by omega,ZK hup hp (by rw[hok]; exact Um.2 h)⟩
theorem Py{s:ByteArray}{res:Bool}{w:World}{pos p c:Nat}(hp:pos<s.size)(hok:Uk s pos hp=bif Nat.beq pos 0 then kJ c else nameB c)(h: ¬ (97<=c/\c<=122\/pos≠0/\(48<=c/\c<=57\/c=95))) :
  Ending.returned (Value.bool false)=Ending.returned (Value.bool (lZ s.data.toList&& !res))/\Grew w (w.iter s p) :=
 aeJ hp (by rw[hok]; exact ZL.2 h) rfl
theorem uf{p:Prop}[Decidable p]{b:Bool}(h:some (if p then Value.bool true else undef)=some (Value.bool b))(hp:p):b=true:=by
 rw[bk hp] at h; simpa using h.symm
set_option maxHeartbeats 8000000 in
theorem aeK(s:ByteArray)(res:Bool)(hres:xG Tryz.prog 76 [.lit (.string s)] (.lit (.bool res)))(w:World)(ht:Tab Tryz.prog w)(h1:s.toList.isEmpty=false)(h2:decide (12<(s.size:Int))=false) :
  Calls Tryz.prog 44 #[.string s] w fun e w'=>e= .returned (.bool (lZ s.data.toList&& !res))/\Grew w w':=by
 go_enter Tryz.func44,Tryz.ntmps44
 go_wp2
 go_loopw [3,4,5] (fun _ _ _ w'=> ∃ pos:Nat,w'=w.iter s pos/\pos<=s.size/\upTo s pos) (fun _ _ _ w'=>s.size-w'.iterPos w.heap.size)
 case atStart=>exact⟨0,rfl,ab _,fun j hj=>by omega⟩
 case round =>
  obtain⟨pos,rfl,hle,hup⟩:=hrel;by_cases hp:pos<s.size
  ·obtain⟨c,hc⟩: ∃ c:Nat,(s[pos]'hp).toNat=c:=⟨_,rfl⟩
   have hok:Uk s pos hp=bif Nat.beq pos 0 then kJ c else nameB c:=by unfold Uk; rw[hc]
   by_cases ha:c<128
   ·have hnx: ∀ ty,(Instr.next (.pointer (some ⟨w.heap.size,0,none⟩)) true ty).run Tryz.prog (w.iter s pos)= .ok (.tuple #[.bool true,.int .i64 pos,.int .i32 c]) (w.iter s (pos+1)):=fun ty=>by
     rw[<- hc]; exact run_next_ascii w s pos ty hp (by omega)
    clear hc
    go_wp2
    all_goals clear hnx
    all_goals (first|go_ret|go_roundw)
    all_goals first
     |(simp only[World.iterPos_iter]; omega)
     |(refine ZM hp hup hok ?_; clear hok hup; simp only[du,ag,am,bq,bne_eq_false_iff_eq,ne_eq] at *; first|omega|(exfalso; rename_i q _ _; have:=uf q (by omega); simp_all; done)|(rename_i q _ _; have:=uf q (by omega); omega))
     |(refine Py hp hok ?_; clear hok hup; simp only[bo,am,bv,bne_iff_ne,ne_eq] at *; first|omega|(exfalso; rename_i q _ _; have:=uf q (by omega); simp_all; done)|(rename_i q _ _; have:=uf q (by omega); omega))
     |(exfalso; clear hok hup; simp only[du,ag,am] at *; omega)
   ·obtain⟨hr,hwd⟩:=decode_high s pos hp (by omega);have hnx: ∀ ty,(Instr.next (.pointer (some ⟨w.heap.size,0,none⟩)) true ty).run Tryz.prog (w.iter s pos)=_:=fun ty=>run_next_any w s pos ty hp
    generalize (Utf8.decode s pos).1=r at hnx hr;generalize (Utf8.decode s pos).2=wd at hnx hwd;have hz: ¬ (97<=c/\c<=122\/pos≠0/\(48<=c/\c<=57\/c=95)):=by omega
    clear hc
    go_wp2
    all_goals clear hnx
    all_goals (first|go_ret|go_roundw)
    all_goals first
     |exact Py hp hok hz
     |(exfalso; clear hok hup; simp only[du,ag,am,bq,bne_eq_false_iff_eq,ne_eq] at *; omega)
  ·have hnx: ∀ ty,(Instr.next (.pointer (some ⟨w.heap.size,0,none⟩)) true ty).run Tryz.prog (w.iter s pos)=_:=fun ty=>run_next_end w s pos ty hp
   have hL:lZ s.data.toList=true:=(HY s).2 fun j hj hjs=>hup j (by omega) hjs
   go_wp2_with (go_at_call 76; refine(hres.calls (W:=w.iter s pos) (ht.grew (Grew.iter w s pos))).mono ?_; rintro e w' ⟨rfl,hg⟩)
   go_ret
   rw[hL];exact⟨rfl,(Grew.iter w s pos).trans hg⟩
set_option maxHeartbeats 4000000 in
theorem acr(s:ByteArray)(w:World)(h1:s.toList.isEmpty=true):Calls Tryz.prog 44 #[.string s] w fun e w'=>e= .returned (.bool false)/\Grew w w':=by
 go_enter Tryz.func44,Tryz.ntmps44
 go_wp2
 all_goals go_ret
 all_goals exact⟨rfl,Grew.refl _⟩
set_option maxHeartbeats 4000000 in
theorem aeL(s:ByteArray)(w:World)(h1:s.toList.isEmpty=false)(h2:decide (12<(s.size:Int))=true):Calls Tryz.prog 44 #[.string s] w fun e w'=>e= .returned (.bool false)/\Grew w w':=by
 go_enter Tryz.func44,Tryz.ntmps44
 go_wp2
 all_goals go_ret
 all_goals exact⟨rfl,Grew.refl _⟩
def nmB(s:ByteArray):Bool:= !(s.toList.isEmpty)&& !(decide (12<(s.size:Int)))&&lZ s.data.toList
theorem S.WW(s:ByteArray)(res:Bool)(hres:xG Tryz.prog 76 [.lit (.string s)] (.lit (.bool res))):xG Tryz.prog 44 [.lit (.string s)] (.lit (.bool (nmB s&& !res))):=by
 refine xG.aeI (us:=[.string s]) Tryz.call44 fun w ht=>?_
 unfold nmB;cases h1:s.toList.isEmpty with
 |true=>exact acr s w h1
 |false =>
  cases h2:decide (12<(s.size:Int)) with
  |true=>exact aeL s w h1 h2
  |false=>simpa using aeK s res hres w ht h1 h2
end Go.Proofs.YtbdbmfccbpfeoabGreatDoor
