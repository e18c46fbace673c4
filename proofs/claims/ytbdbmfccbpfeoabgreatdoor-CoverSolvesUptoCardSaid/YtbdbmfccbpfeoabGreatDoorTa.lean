/-
 Arguments of the statements as plain data: what a reading of bounded bulk gives. No condition.
-/
import Derived.Test.YtbdbmfccbpfeoabGreatDoorCards
import Derived.Test.YtbdbmfccbpfeoabGreatDoorTie
import Derived.Test.YtbdbmfccbpfeoabGreatDoorVa
import Derived.Test.YtbdbmfccbpfeoabGreatDoorLg
import Derived.Test.YtbdbmfccbpfeoabGreatDoorFa
namespace Go.Proofs.YtbdbmfccbpfeoabGreatDoor
open Go.Ab Go.Proofs
set_option maxRecDepth 100000
section
variable {H:Type}
theorem afd{s:Sh}{α:Type}{f:α->T}{Q:α->Prop}{sz:α->Nat}{N:Nat}(hs: ∀ d:DataW H,s.wf d->Rows.uptoBulk d<=N-> ∃ a,s.aH d=f a/\Q a/\sz a<=Rows.uptoBulk d/\1<=Rows.uptoBulk d) :
  ∀ {es:List (DataW H)},(∀ x∈es,s.wf x)->Rows.uptoBulkAll es<=N-> ∃ l:List α,es.map s.aH=l.map f/\l.length<=Rows.uptoBulkAll es/\(l.map sz).sum<=Rows.uptoBulkAll es/\ ∀ a∈l,Q a:=by
 intro es;induction es with
 |nil=>intro _ _; exact⟨[],rfl,ab _,ab _,fun a h=>by cases h⟩
 |cons d r ih =>
  intro h hb;simp only[Rows.uptoBulkAll] at hb ⊢;obtain⟨l,h1,h2,h3,h4⟩:=ih (fun x hx=>h x (by simp[hx])) (by omega);obtain⟨a,g1,g2,g3,g4⟩:=hs d (h d (by simp)) (by omega);refine⟨a::l,by simp[h1,g1],by simp only[bL]; omega,by simp only[cG,eW]; omega,fun x hx=>?_⟩;rcases br.1 hx with rfl|hx
  ·exact g2
  ·exact h4 x hx
theorem Ju{s:Sh}{k:Nat}{α:Type}{f:α->T}{Q:α->Prop}{sz:α->Nat}{N:Nat}(hs: ∀ d:DataW H,s.wf d->Rows.uptoBulk d<=N-> ∃ a,s.aH d=f a/\Q a/\sz a<=Rows.uptoBulk d/\1<=Rows.uptoBulk d)
  {d:DataW H} (h:(Sh.sl k s).wf d) (hb:Rows.uptoBulk d<=N): ∃ l:List α,(Sh.sl k s).aH d= .sl k false (l.map f)/\l.length+1<=Rows.uptoBulk d/\(l.map sz).sum<=Rows.uptoBulk d/\ ∀ a∈l,Q a:=by
 rcases h with rfl|⟨es,sp,rfl,h⟩
 ·exact⟨[],rfl,by simp[Rows.uptoBulk],ab _,fun a h=>by cases h⟩
 ·simp only[Rows.uptoBulk] at hb ⊢;obtain⟨l,h1,h2,h3,h4⟩:=afd hs h (by omega);refine⟨l,?_,by omega,by omega,h4⟩;show T.sl k false (es.map s.aH)=_;rw[h1]
theorem ag2{d:DataW H}{N:Nat}(h:Sh.int.wf d)(_:Rows.uptoBulk d<=N): ∃ n:Int,Sh.int.aH d=T.int n/\True/\0<=Rows.uptoBulk d/\1<=Rows.uptoBulk d:=by
 obtain⟨n,rfl,_⟩:=h;exact⟨n,rfl,trivial,ab _,ba _⟩
theorem Rq{d:DataW H}{N:Nat}(h:Sh.str.wf d)(_:Rows.uptoBulk d<=N): ∃ s:Str,Sh.str.aH d=eS s/\s.length+1<=Rows.uptoBulk d/\0<=Rows.uptoBulk d/\1<=Rows.uptoBulk d:=by
 obtain⟨l,rfl⟩:=h;exact⟨l,rfl,ba _,ab _,Nat.succ_le_succ (ab _)⟩
theorem afe{d:DataW H}{N:Nat}(h:Sh.str.wf d)(hb:Rows.uptoBulk d<=N): ∃ s:Str,Sh.str.aH d=eS s/\s.length<N/\0<=Rows.uptoBulk d/\1<=Rows.uptoBulk d:=by
 obtain⟨s,h1,h2,h3,h4⟩:=Rq h hb;exact⟨s,h1,by omega,h3,h4⟩
theorem qF{d:DataW H}{N:Nat}(h:(Sh.sl 0 .int).wf d)(hb:Rows.uptoBulk d<=N): ∃ l:List Int,(Sh.sl 0 .int).aH d=Go.Ab.ints l/\l.length<N:=by
 obtain⟨l,h1,h2,_⟩:=Ju (f:=T.int) (Q:=fun _=>True) (sz:=fun _=>0) (fun d h hb=>ag2 h hb) h hb;exact⟨l,h1,by omega⟩
theorem Rt{d:DataW H}{N:Nat}(h:(Sh.sl 0 .str).wf d)(hb:Rows.uptoBulk d<=N): ∃ l:List Str,(Sh.sl 0 .str).aH d=strs l/\l.length<N/\ ∀ s∈l,s.length<N:=by
 obtain⟨l,h1,h2,_,h4⟩:=Ju (f:=eS) (Q:=fun s=>s.length<N) (sz:=fun _=>0) (fun d h hb=>afe h hb) h hb;exact⟨l,h1,by omega,h4⟩
def Yv:Sh:=.st [.int,.int,.int,.int]
def Yw:Sh:=.st [.int,.int,Yv]
def Ru:Sh:=.st [.str,.int,.int,.int,.int,.int,.sl 0 .int,.sl 7 Yw,.sl 0 .int,.sl 0 .int,.int,.int,.sl 0 .int,.int,.sl 0 .int,.sl 0 .int,.sl 0 .int,.int]
def Jv:Sh:=.st [.str,.int,.sl 0 .str,.sl 0 .str,.sl 0 .str,.int,.sl 5 Yv,.sl 0 .int,.sl 0 .int,.sl 19 Ru]
theorem adh{d:DataW H}{N:Nat}(h:Yv.wf d)(_:Rows.uptoBulk d<=N): ∃ x:Lin,Yv.aH d=Wq x/\True/\0<=Rows.uptoBulk d/\1<=Rows.uptoBulk d:=by
 obtain⟨ds,rfl,d0,r0,rfl,⟨a,rfl,_⟩,d1,r1,rfl,⟨b,rfl,_⟩,d2,r2,rfl,⟨c,rfl,_⟩,d3,r3,rfl,⟨e,rfl,_⟩,h2⟩:=h;simp only[Sh.Yb] at h2; subst h2;exact⟨⟨a,b,c,e⟩,rfl,trivial,ab _,by simp[Rows.uptoBulk]⟩
theorem ag3{d:DataW H}{N:Nat}(h:Yw.wf d)(hb:Rows.uptoBulk d<=N): ∃ x:BP,Yw.aH d=TJ x/\True/\0<=Rows.uptoBulk d/\1<=Rows.uptoBulk d:=by
 obtain⟨ds,rfl,d0,r0,rfl,⟨a,rfl,_⟩,d1,r1,rfl,⟨b,rfl,_⟩,d2,r2,rfl,h3,h2⟩:=h;simp only[Sh.Yb] at h2; subst h2;simp only[Rows.uptoBulk,Rows.uptoBulkAll] at hb ⊢;obtain⟨x,hx,_⟩:=adh (N:=N) h3 (by omega);refine⟨⟨a,b,x⟩,?_,trivial,by omega,by omega⟩;simp only[Yw,Sh.aH,Sh.Hu,hx]; rfl
theorem aff{d:DataW H}{N:Nat}(h:Ru.wf d)(hb:Rows.uptoBulk d<=N)(hN:N<=2^20): ∃ x:Rule,Ru.aH d=ML x/\vK x/\x.guards.length<=Rows.uptoBulk d/\1<=Rows.uptoBulk d:=by
 obtain⟨ds,rfl,d0,r0,rfl,w0,d1,r1,rfl,⟨a1,rfl,_⟩,d2,r2,rfl,⟨a2,rfl,_⟩,d3,r3,rfl,⟨a3,rfl,_⟩,d4,r4,rfl,⟨a4,rfl,_⟩,d5,r5,rfl,⟨a5,rfl,_⟩,d6,r6,rfl,w6,d7,r7,rfl,w7,d8,r8,rfl,w8,d9,r9,rfl,w9,d10,r10,rfl,⟨a10,rfl,_⟩,d11,r11,rfl,⟨a11,rfl,_⟩,d12,r12,rfl,w12,d13,r13,rfl,⟨a13,rfl,_⟩,d14,r14,rfl,w14,d15,r15,rfl,w15,d16,r16,rfl,w16,d17,r17,rfl,⟨a17,rfl,_⟩,h2⟩:=h;simp only[Sh.Yb] at h2; subst h2;simp only[Rows.uptoBulk,Rows.uptoBulkAll] at hb ⊢;obtain⟨s,e0,_⟩:=Rq (N:=N) w0 (by omega);obtain⟨l6,e6,b6⟩:=qF (N:=N) w6 (by omega);obtain⟨l7,e7,b7,_⟩:=Ju (f:=TJ) (Q:=fun _=>True) (sz:=fun _=>0) (N:=N) (fun d h hb=>ag3 h hb) w7 (by omega);obtain⟨l8,e8,b8⟩:=qF (N:=N) w8 (by omega);obtain⟨l9,e9,b9⟩:=qF (N:=N) w9 (by omega);obtain⟨l12,e12,b12⟩:=qF (N:=N) w12 (by omega);obtain⟨l14,e14,b14⟩:=qF (N:=N) w14 (by omega);obtain⟨l15,e15,b15⟩:=qF (N:=N) w15 (by omega);obtain⟨l16,e16,b16⟩:=qF (N:=N) w16 (by omega);refine⟨⟨s,a1,a2,a3,a4,a5,l6,l7,l8,l9,a10,a11,l12,a13,l14,l15,l16,a17⟩,?_,⟨by show l6.length<_; omega,by show l7.length<_; omega,by show l8.length<_; omega,by show l9.length<_; omega,by show l12.length<_; omega,by show l14.length<_; omega,by show l15.length<_; omega,by show l16.length<_; omega⟩,by show l7.length<=_; omega,by omega⟩;simp only[Ru,Sh.aH,Sh.Hu] at e0 e6 e7 e8 e9 e12 e14 e15 e16 ⊢;simp only[e0,e6,e7,e8,e9,e12,e14,e15,e16]; rfl
theorem NQ:vK default:=⟨by decide,by decide,by decide,by decide,by decide,by decide,by decide,by decide⟩
theorem afg{d:DataW H}{N:Nat}(h:Jv.wf d)(hb:Rows.uptoBulk d<=N)(hN:N<=2^20): ∃ x:aI,Jv.aH d=abJ x/\dU x:=by
 obtain⟨ds,rfl,d0,r0,rfl,w0,d1,r1,rfl,⟨a1,rfl,_⟩,d2,r2,rfl,w2,d3,r3,rfl,w3,d4,r4,rfl,w4,d5,r5,rfl,⟨a5,rfl,_⟩,d6,r6,rfl,w6,d7,r7,rfl,w7,d8,r8,rfl,w8,d9,r9,rfl,w9,h2⟩:=h;simp only[Sh.Yb] at h2; subst h2;simp only[Rows.uptoBulk,Rows.uptoBulkAll] at hb;obtain⟨s,e0,_⟩:=Rq (N:=N) w0 (by omega);obtain⟨l2,e2,b2,_⟩:=Rt (N:=N) w2 (by omega);obtain⟨l3,e3,b3,_⟩:=Rt (N:=N) w3 (by omega);obtain⟨l4,e4,b4,_⟩:=Rt (N:=N) w4 (by omega);obtain⟨l6,e6,b6,_⟩:=Ju (f:=Wq) (Q:=fun _=>True) (sz:=fun _=>0) (N:=N) (fun d h hb=>adh h hb) w6 (by omega);obtain⟨l7,e7,b7⟩:=qF (N:=N) w7 (by omega);obtain⟨l8,e8,b8⟩:=qF (N:=N) w8 (by omega);obtain⟨l9,e9,b9,c9,q9⟩:=Ju (f:=ML) (Q:=vK) (sz:=fun r=>r.guards.length) (N:=N) (fun d h hb=>aff h hb hN) w9 (by omega);refine⟨⟨s,a1,l2,l3,l4,a5,l6,l7,l8,l9⟩,?_,⟨by show l2.length<_; omega,by show l3.length<_; omega,by show l4.length<_; omega,by show l6.length<_; omega,by show l7.length<_; omega,by show l8.length<_; omega,by show l9.length<_; omega,fun i=>?_,?_⟩⟩
 ·simp only[Jv,Sh.aH,Sh.Hu] at e0 e2 e3 e4 e6 e7 e8 e9 ⊢;simp only[e0,e2,e3,e4,e6,e7,e8,e9]; rfl
 ·show vK (l9.getD i default);rw[aR];cases hg:l9[i]? with
  |none=>exact NQ
  |some x=>exact q9 x (ce hg)
 ·show(l9.flatMap Rule.guards).length<_;rw[List.length_flatMap]
  have:(l9.map fun a=>a.guards.length).sum<=Rows.uptoBulk d9:=c9
  omega
end
section
variable {H:Type}
def Vd:Sh:=.st [.sl 0 .int,.int]
def Jw:Sh:=.st [.str,.int,.sl 0 .int,.sl 3 Vd,.sl 0 .int,.sl 0 .int]
theorem ag4{d:DataW H}{N:Nat}(h:Vd.wf d)(hb:Rows.uptoBulk d<=N): ∃ x:Cnt,Vd.aH d=Ws x/\x.states.length<N/\0<=Rows.uptoBulk d/\1<=Rows.uptoBulk d:=by
 obtain⟨ds,rfl,d0,r0,rfl,w0,d1,r1,rfl,⟨a1,rfl,_⟩,h2⟩:=h;simp only[Sh.Yb] at h2; subst h2;simp only[Rows.uptoBulk,Rows.uptoBulkAll] at hb ⊢;obtain⟨l,e0,b0⟩:=qF (N:=N) w0 (by omega);refine⟨⟨l,a1⟩,?_,b0,by omega,by omega⟩;simp only[Vd,Sh.aH,Sh.Hu] at e0 ⊢;simp only[e0]; rfl
theorem afh{d:DataW H}{N:Nat}(h:Jw.wf d)(hb:Rows.uptoBulk d<=N)(hN:N<=2^20): ∃ x:Prop',Jw.aH d=afy x/\jm x:=by
 obtain⟨ds,rfl,d0,r0,rfl,w0,d1,r1,rfl,⟨a1,rfl,_⟩,d2,r2,rfl,w2,d3,r3,rfl,w3,d4,r4,rfl,w4,d5,r5,rfl,w5,h2⟩:=h;simp only[Sh.Yb] at h2; subst h2;simp only[Rows.uptoBulk,Rows.uptoBulkAll] at hb;obtain⟨s,e0,_⟩:=Rq (N:=N) w0 (by omega);obtain⟨l2,e2,b2⟩:=qF (N:=N) w2 (by omega);obtain⟨l3,e3,b3,_,q3⟩:=Ju (f:=Ws) (Q:=fun x=>x.states.length<N) (sz:=fun _=>0) (N:=N) (fun d h hb=>ag4 h hb) w3 (by omega);obtain⟨l4,e4,b4⟩:=qF (N:=N) w4 (by omega);obtain⟨l5,e5,b5⟩:=qF (N:=N) w5 (by omega);refine⟨⟨s,a1,l2,l3,l4,l5⟩,?_,⟨by show l2.length<_; omega,by show l3.length<_; omega,by show l4.length<_; omega,by show l5.length<_; omega,fun i=>?_⟩⟩
 ·simp only[Jw,Vd,Sh.aH,Sh.Hu] at e0 e2 e3 e4 e5 ⊢;simp only[e0,e2,e3,e4,e5]; rfl
 ·show(l3.getD i default).states.length<_;rw[aR];cases hg:l3[i]? with
  |none=>show([]:List Int).length<2^30; decide
  |some x=>have:=q3 x (ce hg); show x.states.length<2^30; omega
theorem ag5{d:DataW H}(h:Sh.int.wf d): ∃ n:Int,Sh.int.aH d=T.int n/\(-9223372036854775808<=n/\n<9223372036854775808):=by
 obtain⟨n,rfl,h⟩:=h;have h':(decide (-9223372036854775808<=n)&&decide (n<=9223372036854775807))=true:=h;rw[aD,ag,ag] at h';exact⟨n,rfl,by omega,by omega⟩
end
section
variable {H:Type}
end
end Go.Proofs.YtbdbmfccbpfeoabGreatDoor
