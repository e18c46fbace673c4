/-
 protocol.ValidName and protocol.isReserved: their contracts. No condition.
-/
import Derived.WalkKit
import Derived.WalkSpells
import Derived.LoopTactic
import Derived.Laws.RangeAny
import Derived.Laws.RangeString
import Derived.Test.YtdloaandiobgdaaGreatDoorLg
import Derived.Test.YtdloaandiobgdaaGreatDoorSb
import Derived.Test.YtdloaandiobgdaaGreatDoorSc
namespace Go.Ab
open Go.RowKit
section
variable {P:Program}
def Tab(P:Program)(w:World):Prop:= ∀ g cs,wZ P g=some cs-> ∃ ty m,w.heap[g]? =some (.cells cs ty m)
structure Grew(w w':World):Prop where
 b:Below w.heap.size w w'
 d:w.drawn<=w'.drawn
theorem Grew.refl(w:World):Grew w w:=⟨.refl _ _,ba _⟩
theorem Grew.trans{a b c:World}(h:Grew a b)(k:Grew b c):Grew a c:=⟨h.b.trans (k.b.mono h.b.size),di h.d k.d⟩
theorem Tab.grew{w w':World}(h:Tab P w)(g:Grew w w'):Tab P w':=fun n cs hn=>by
 obtain⟨ty,m,e⟩:=h n cs hn;exact⟨ty,m,by rw[g.b.block n (cm.1 e).1]; exact e⟩
theorem Grew.iter(w:World)(s:ByteArray)(pos:Nat):Grew w (w.iter s pos):=⟨(Below.refl _ w).alloc (ba _) _,ba _⟩
theorem Iq{E:Env}: ∀ {us vs:List Value},bg E (us.map T.lit) vs↔vs=us:=by
 intro us;induction us with
 |nil=>intro vs; simp[bg]
 |cons u us ih =>
  intro vs;simp only[bl,bQ,aQ,ih];constructor
  ·rintro⟨v,r,rfl,rfl,rfl⟩; rfl
  ·rintro rfl; exact⟨u,us,rfl,rfl,rfl⟩
theorem SN: ∀ {us:List Value},T.bn (us.map T.lit)=true:=by
 intro us;induction us with
 |nil=>rfl
 |cons u us ih=>simpa [T.bn,T.free] using ih
theorem zC.ah3{f:FuncId}{us:List Value}{u:Value}(hcl:callable P f)(H: ∀ w,Tab P w->Calls P f us.toArray w fun e w'=>e= .returned u/\Grew w w'):zC P f (us.map T.lit) (.lit u):=by
 refine⟨SN,fun _=>trivial,(fun _ h=>by cases h),(fun _ h=>by cases h),fun n=>⟨⟨_,_,rfl,rfl⟩,hcl,fun F M E vs hk he hr hid hm hn=>?_⟩⟩;rw[Iq] at hr; subst hr;refine(H E.w fun g cs hg=>(hk.gl.1 g cs hg).2).mono ?_;rintro e w' ⟨rfl,g⟩;have hold: ∀ q,q<E.w.heap.size->w'.heap[q]? =E.w.heap[q]? :=g.b.block
 have hext:Ext F E {E with w:=w'}:=⟨fun _ h=>h,fun q hq=>hold q (by
  rcases hq with hq|hq
  ·exact hk.slt q hq
  ·exact hk.flt q hq),g.b.size,g.b.os,g.b.tape,g.b.output,g.d,rfl⟩
 refine⟨u,.lit u,{E with w:=w'},rfl,rfl,⟨rfl,by rw[show jM no n none=no from rfl]; exact he⟩,aQ.2 rfl,?_,hext,fun i _ hs=>⟨hs,rfl,rfl⟩,trivial,?_⟩
 ·refine⟨(fun i ob hi=>by rw[show({E with w:=w'}:Env).h=E.h from rfl,he] at hi; cases hi),(fun i ob g hi=>by rw[show({E with w:=w'}:Env).h=E.h from rfl,he] at hi; cases hi),(fun i j oi oj g _ hi=>by rw[show({E with w:=w'}:Env).h=E.h from rfl,he] at hi; cases hi),fun q hq=>cU (hk.slt q hq) g.b.size,fun q hq=>cU (hk.flt q hq) g.b.size,hk.sf,hext.gl hk⟩
 ·intro i ob hi;rw[show({E with w:=w'}:Env).h=E.h from rfl,he] at hi; cases hi
theorem zC.calls{f:FuncId}{us:List Value}{u:Value}(S:zC P f (us.map T.lit) (.lit u)){W:World}(hgl:Tab P W):Calls P f us.toArray W fun e w'=>e= .returned u/\Grew W w':=by
 obtain⟨_,_,hcall⟩:=S.call 0;refine(hcall (akS P) (fun _=>False) (aeX P W) us (aeZ hgl) rfl (Iq.2 rfl) (dh S.free) (BA _) (fun h=>h)).mono ?_;rintro e w' ⟨v,t,E2,rfl,rfl,⟨rfl,_⟩,hv,_,hext,_⟩;refine⟨by rw[aQ.1 hv],⟨hext.os,hext.tape,hext.output,hext.size,fun g hg=>hext.w g ?_⟩,hext.dr⟩;cases hq:wZ P g with
 |none=>exact .inl ⟨hg,hq⟩
 |some cs=>right; show(wZ P g).isSome=true; rw[hq]; rfl
end
end Go.Ab
namespace Go.Proofs.YtdloaandiobgdaaGreatDoor
open Go.Ab Go.Proofs Go.RowKit
set_option maxRecDepth 100000
def nP(c:Nat):Bool:=Nat.ble 97 c&&Nat.ble c 122
def nameB(c:Nat):Bool:=nP c||(Nat.ble 48 c&&Nat.ble c 57)||Nat.beq c 95
def pK:List UInt8->Bool
 |[]=>true
 |c::r=>nP c.toNat&&r.all fun c=>nameB c.toNat
def upTo(s:ByteArray)(n:Nat):Prop:= ∀ j,j<n->(h:j<s.size)->(bif Nat.beq j 0 then nP (s[j]'h).toNat else nameB (s[j]'h).toNat)=true
def WS(s:ByteArray)(j:Nat)(h:j<s.size):Bool:=bif Nat.beq j 0 then nP (s[j]'h).toNat else nameB (s[j]'h).toNat
theorem JH(s:ByteArray):pK s.data.toList=true↔upTo s s.size:=by
 have hsz:s.data.toList.length=s.size:=by simp
 have hg: ∀ j (h:j<s.size),s.data.toList[j]? =some (s[j]'h):=fun j h=>by
  rw[bS (by omega)]; rfl
 constructor
 ·intro h j hj hjs;have:=hg j hjs;revert this;generalize s[j]'hjs=x;intro this;revert h this;cases s.data.toList with
  |nil=>intro _ h; cases h
  |cons c r =>
   intro h1 h2;simp only[pK,aD,bj] at h1;cases j with
   |zero=>simp at h2; subst h2; exact h1.1
   |succ j =>
    simp only[List.getElem?_cons_succ] at h2;exact h1.2 x (cx h2)
 ·intro h;have h': ∀ j x,s.data.toList[j]? =some x->(bif Nat.beq j 0 then nP x.toNat else nameB x.toNat)=true:=by
   intro j x hx;have hj:j<s.size:=by rw[<- hsz]; exact(bo.1 hx).1
   rw[hg j hj] at hx; cases hx;exact h j hj hj
  revert h';cases s.data.toList with
  |nil=>intro _; rfl
  |cons c r =>
   intro h';simp only[pK,aD,bj];refine⟨h' 0 c rfl,fun x hx=>?_⟩;obtain⟨i,hi,rfl⟩:=dt hx;exact h' (i+1) _ (by simp[List.getElem?_eq_getElem hi])
theorem WT(s:ByteArray)(pos:Nat)(h:pos<s.size)(hb:WS s pos h=false):pK s.data.toList=false:=by
 cases e:pK s.data.toList with
 |false=>rfl
 |true =>
  have:=(JH s).1 e pos h h;unfold WS at hb;rw[hb] at this; cases this
theorem acr{s:ByteArray}{pos:Nat}(h:upTo s pos)(hp:pos<s.size)(hb:WS s pos hp=true):upTo s (pos+1):=by
 intro j hj hjs;by_cases e:j=pos
 ·subst e; exact hb
 ·exact h j (by omega) hjs
theorem ah4{s:ByteArray}{res:Bool}{w:World}{pos p:Nat}{v:Value}(hp:pos<s.size)(hb:WS s pos hp=false)(hv:v= .bool false) :
  Ending.returned v=Ending.returned (Value.bool (pK s.data.toList&& !res))/\Grew w (w.iter s p):=by
 rw[WT s pos hp hb,hv]; exact⟨rfl,Grew.iter _ _ _⟩
theorem WU{pos c:Nat}:(bif Nat.beq pos 0 then nP c else nameB c)=true↔(97<=c/\c<=122\/pos≠0/\(48<=c/\c<=57\/c=95)):=by
 cases pos with
 |zero=>simp[nP]
 |succ n=>simp[nameB,nP,or_assoc]
theorem acs{pos c:Nat}:(bif Nat.beq pos 0 then nP c else nameB c)=false↔ ¬ (97<=c/\c<=122\/pos≠0/\(48<=c/\c<=57\/c=95)):=by
 rw[<- WU]; simp
theorem acu{s:ByteArray}{w:World}{pos c:Nat}(hp:pos<s.size)(hup:upTo s pos)(hok:WS s pos hp=bif Nat.beq pos 0 then nP c else nameB c)(h:97<=c/\c<=122\/pos≠0/\(48<=c/\c<=57\/c=95)) :
  ∃ q,w.iter s (pos+1)=w.iter s q/\q<=s.size/\upTo s q:=⟨pos+1,rfl,by omega,acr hup hp (by rw[hok]; exact WU.2 h)⟩
theorem SQ{s:ByteArray}{res:Bool}{w:World}{pos p c:Nat}(hp:pos<s.size)(hok:WS s pos hp=bif Nat.beq pos 0 then nP c else nameB c)(h: ¬ (97<=c/\c<=122\/pos≠0/\(48<=c/\c<=57\/c=95))) :
  Ending.returned (Value.bool false)=Ending.returned (Value.bool (pK s.data.toList&& !res))/\Grew w (w.iter s p) :=
 ah4 hp (by rw[hok]; exact acs.2 h) rfl
theorem wK{p:Prop}[Decidable p]{b:Bool}(h:some (if p then Value.bool true else undef)=some (Value.bool b))(hp:p):b=true:=by
 rw[bc hp] at h; simpa using h.symm
set_option maxHeartbeats 8000000 in
theorem ah5(s:ByteArray)(res:Bool)(hres:zC Tryz.prog 81 [.lit (.string s)] (.lit (.bool res)))(w:World)(ht:Tab Tryz.prog w)(h1:s.toList.isEmpty=false)(h2:decide (12<(s.size:Int))=false) :
  Calls Tryz.prog 43 #[.string s] w fun e w'=>e= .returned (.bool (pK s.data.toList&& !res))/\Grew w w':=by
 go_enter Tryz.func43,Tryz.ntmps43
 go_wp2
 go_loopw [3,4,5] (fun _ _ _ w'=> ∃ pos:Nat,w'=w.iter s pos/\pos<=s.size/\upTo s pos) (fun _ _ _ w'=>s.size-w'.iterPos w.heap.size)
 case atStart=>exact⟨0,rfl,ao _,fun j hj=>by omega⟩
 case round =>
  obtain⟨pos,rfl,hle,hup⟩:=hrel;by_cases hp:pos<s.size
  ·obtain⟨c,hc⟩: ∃ c:Nat,(s[pos]'hp).toNat=c:=⟨_,rfl⟩
   have hok:WS s pos hp=bif Nat.beq pos 0 then nP c else nameB c:=by unfold WS; rw[hc]
   by_cases ha:c<128
   ·have hnx: ∀ ty,(Instr.next (.pointer (some ⟨w.heap.size,0,none⟩)) true ty).run Tryz.prog (w.iter s pos)= .ok (.tuple #[.bool true,.int .i64 pos,.int .i32 c]) (w.iter s (pos+1)):=fun ty=>by
     rw[<- hc]; exact run_next_ascii w s pos ty hp (by omega)
    clear hc
    go_wp2
    all_goals clear hnx
    all_goals (first|go_ret|go_roundw)
    all_goals first
     |(simp only[World.iterPos_iter]; omega)
     |(refine acu hp hup hok ?_; clear hok hup; simp only[dg,aq,bA,cE,gL,ne_eq] at *; first|omega|(exfalso; rename_i q _ _; have:=wK q (by omega); simp_all; done)|(rename_i q _ _; have:=wK q (by omega); omega))
     |(refine SQ hp hok ?_; clear hok hup; simp only[bq,bA,bt,bne_iff_ne,ne_eq] at *; first|omega|(exfalso; rename_i q _ _; have:=wK q (by omega); simp_all; done)|(rename_i q _ _; have:=wK q (by omega); omega))
     |(exfalso; clear hok hup; simp only[dg,aq,bA] at *; omega)
   ·obtain⟨hr,hwd⟩:=decode_high s pos hp (by omega);have hnx: ∀ ty,(Instr.next (.pointer (some ⟨w.heap.size,0,none⟩)) true ty).run Tryz.prog (w.iter s pos)=_:=fun ty=>run_next_any w s pos ty hp
    generalize (Utf8.decode s pos).1=r at hnx hr;generalize (Utf8.decode s pos).2=wd at hnx hwd;have hz: ¬ (97<=c/\c<=122\/pos≠0/\(48<=c/\c<=57\/c=95)):=by omega
    clear hc
    go_wp2
    all_goals clear hnx
    all_goals (first|go_ret|go_roundw)
    all_goals first
     |exact SQ hp hok hz
     |(exfalso; clear hok hup; simp only[dg,aq,bA,cE,gL,ne_eq] at *; omega)
  ·have hnx: ∀ ty,(Instr.next (.pointer (some ⟨w.heap.size,0,none⟩)) true ty).run Tryz.prog (w.iter s pos)=_:=fun ty=>run_next_end w s pos ty hp
   have hL:pK s.data.toList=true:=(JH s).2 fun j hj hjs=>hup j (by omega) hjs
   go_wp2_with (go_at_call 81; refine(hres.calls (W:=w.iter s pos) (ht.grew (Grew.iter w s pos))).mono ?_; rintro e w' ⟨rfl,hg⟩)
   go_ret
   rw[hL];exact⟨rfl,(Grew.iter w s pos).trans hg⟩
set_option maxHeartbeats 4000000 in
theorem afd(s:ByteArray)(w:World)(h1:s.toList.isEmpty=true):Calls Tryz.prog 43 #[.string s] w fun e w'=>e= .returned (.bool false)/\Grew w w':=by
 go_enter Tryz.func43,Tryz.ntmps43
 go_wp2
 all_goals go_ret
 all_goals exact⟨rfl,Grew.refl _⟩
set_option maxHeartbeats 4000000 in
theorem ah6(s:ByteArray)(w:World)(h1:s.toList.isEmpty=false)(h2:decide (12<(s.size:Int))=true):Calls Tryz.prog 43 #[.string s] w fun e w'=>e= .returned (.bool false)/\Grew w w':=by
 go_enter Tryz.func43,Tryz.ntmps43
 go_wp2
 all_goals go_ret
 all_goals exact⟨rfl,Grew.refl _⟩
def nmB(s:ByteArray):Bool:= !(s.toList.isEmpty)&& !(decide (12<(s.size:Int)))&&pK s.data.toList
theorem S.Za(s:ByteArray)(res:Bool)(hres:zC Tryz.prog 81 [.lit (.string s)] (.lit (.bool res))):zC Tryz.prog 43 [.lit (.string s)] (.lit (.bool (nmB s&& !res))):=by
 refine zC.ah3 (us:=[.string s]) Tryz.call43 fun w ht=>?_
 unfold nmB;cases h1:s.toList.isEmpty with
 |true=>exact afd s w h1
 |false =>
  cases h2:decide (12<(s.size:Int)) with
  |true=>exact ah6 s w h1 h2
  |false=>simpa using ah5 s res hres w ht h1 h2
end Go.Proofs.YtdloaandiobgdaaGreatDoor
