/-
 Arguments of the statements as plain data: what a reading of bounded bulk gives. No condition.
-/
import Derived.Test.YtdloaandiobgdaaGreatDoorCards
import Derived.Test.YtdloaandiobgdaaGreatDoorTie
import Derived.Test.YtdloaandiobgdaaGreatDoorVa
import Derived.Test.YtdloaandiobgdaaGreatDoorLg
import Derived.Test.YtdloaandiobgdaaGreatDoorFa
namespace Go.Proofs.YtdloaandiobgdaaGreatDoor
open Go.Ab Go.Proofs
set_option maxRecDepth 100000
section
variable {H:Type}
theorem ai9{s:Sh}{α:Type}{f:α->T}{Q:α->Prop}{sz:α->Nat}{N:Nat}(hs: ∀ d:DataW H,s.wf d->Rows.uptoBulk d<=N-> ∃ a,s.aI d=f a/\Q a/\sz a<=Rows.uptoBulk d/\1<=Rows.uptoBulk d) :
  ∀ {es:List (DataW H)},(∀ x∈es,s.wf x)->Rows.uptoBulkAll es<=N-> ∃ l:List α,es.map s.aI=l.map f/\l.length<=Rows.uptoBulkAll es/\(l.map sz).sum<=Rows.uptoBulkAll es/\ ∀ a∈l,Q a:=by
 intro es;induction es with
 |nil=>intro _ _; exact⟨[],rfl,ao _,ao _,fun a h=>by cases h⟩
 |cons d r ih =>
  intro h hb;simp only[Rows.uptoBulkAll] at hb ⊢;obtain⟨l,h1,h2,h3,h4⟩:=ih (fun x hx=>h x (by simp[hx])) (by omega);obtain⟨a,g1,g2,g3,g4⟩:=hs d (h d (by simp)) (by omega);refine⟨a::l,by simp[h1,g1],by simp only[bX]; omega,by simp only[bl,eJ]; omega,fun x hx=>?_⟩;rcases bv.1 hx with rfl|hx
  ·exact g2
  ·exact h4 x hx
theorem IE{s:Sh}{k:Nat}{α:Type}{f:α->T}{Q:α->Prop}{sz:α->Nat}{N:Nat}(hs: ∀ d:DataW H,s.wf d->Rows.uptoBulk d<=N-> ∃ a,s.aI d=f a/\Q a/\sz a<=Rows.uptoBulk d/\1<=Rows.uptoBulk d)
  {d:DataW H} (h:(Sh.sl k s).wf d) (hb:Rows.uptoBulk d<=N): ∃ l:List α,(Sh.sl k s).aI d= .sl k false (l.map f)/\l.length+1<=Rows.uptoBulk d/\(l.map sz).sum<=Rows.uptoBulk d/\ ∀ a∈l,Q a:=by
 rcases h with rfl|⟨es,sp,rfl,h⟩
 ·exact⟨[],rfl,by simp[Rows.uptoBulk],ao _,fun a h=>by cases h⟩
 ·simp only[Rows.uptoBulk] at hb ⊢;obtain⟨l,h1,h2,h3,h4⟩:=ai9 hs h (by omega);refine⟨l,?_,by omega,by omega,h4⟩;show T.sl k false (es.map s.aI)=_;rw[h1]
theorem als{d:DataW H}{N:Nat}(h:Sh.int.wf d)(_:Rows.uptoBulk d<=N): ∃ n:Int,Sh.int.aI d=T.int n/\True/\0<=Rows.uptoBulk d/\1<=Rows.uptoBulk d:=by
 obtain⟨n,rfl,_⟩:=h;exact⟨n,rfl,trivial,ao _,ba _⟩
theorem U5{d:DataW H}{N:Nat}(h:Sh.str.wf d)(_:Rows.uptoBulk d<=N): ∃ s:Str,Sh.str.aI d=eS s/\s.length+1<=Rows.uptoBulk d/\0<=Rows.uptoBulk d/\1<=Rows.uptoBulk d:=by
 obtain⟨l,rfl⟩:=h;exact⟨l,rfl,ba _,ao _,Nat.succ_le_succ (ao _)⟩
theorem aja{d:DataW H}{N:Nat}(h:Sh.str.wf d)(hb:Rows.uptoBulk d<=N): ∃ s:Str,Sh.str.aI d=eS s/\s.length<N/\0<=Rows.uptoBulk d/\1<=Rows.uptoBulk d:=by
 obtain⟨s,h1,h2,h3,h4⟩:=U5 h hb;exact⟨s,h1,by omega,h3,h4⟩
theorem rC{d:DataW H}{N:Nat}(h:(Sh.sl 0 .int).wf d)(hb:Rows.uptoBulk d<=N): ∃ l:List Int,(Sh.sl 0 .int).aI d=Go.Ab.ints l/\l.length<N:=by
 obtain⟨l,h1,h2,_⟩:=IE (f:=T.int) (Q:=fun _=>True) (sz:=fun _=>0) (fun d h hb=>als h hb) h hb;exact⟨l,h1,by omega⟩
theorem U6{d:DataW H}{N:Nat}(h:(Sh.sl 0 .str).wf d)(hb:Rows.uptoBulk d<=N): ∃ l:List Str,(Sh.sl 0 .str).aI d=strs l/\l.length<N/\ ∀ s∈l,s.length<N:=by
 obtain⟨l,h1,h2,_,h4⟩:=IE (f:=eS) (Q:=fun s=>s.length<N) (sz:=fun _=>0) (fun d h hb=>aja h hb) h hb;exact⟨l,h1,by omega,h4⟩
def U7:Sh:=.st [.int,.sl 0 .int]
def J8:Sh:=.sl 3 U7
def aaZ:Sh:=.st [.int,.int,.int,.int]
def aa0:Sh:=.st [.int,.int,aaZ]
def U8:Sh:=.st [.str,.int,.int,.int,.int,.int,.sl 0 .int,.sl 7 aa0,.sl 0 .int,.sl 0 .int,.int,.int,.sl 0 .int,.int,.sl 0 .int,.sl 0 .int,.sl 0 .int,.int]
def LX:Sh:=.st [.str,.int,.sl 0 .str,.sl 0 .str,.sl 0 .str,.int,.sl 5 aaZ,.sl 0 .int,.sl 0 .int,.sl 19 U8]
theorem ajb{d:DataW H}{N:Nat}(h:U7.wf d)(hb:Rows.uptoBulk d<=N): ∃ e:Elem,U7.aI d=jK e/\e.counts.length<N/\0<=Rows.uptoBulk d/\1<=Rows.uptoBulk d:=by
 obtain⟨ds,rfl,d0,r0,rfl,⟨n,rfl,_⟩,d1,r1,rfl,h1,h2⟩:=h;simp only[Sh.Y6] at h2; subst h2;simp only[Rows.uptoBulk,Rows.uptoBulkAll] at hb ⊢;obtain⟨l,a,b⟩:=rC (N:=N) h1 (by omega);refine⟨⟨n,l⟩,?_,b,by omega,by omega⟩;simp only[U7,Sh.aI,Sh.Io,T.cells,a,jK]; rfl
theorem agB{d:DataW H}{N:Nat}(h:aaZ.wf d)(_:Rows.uptoBulk d<=N): ∃ x:Lin,aaZ.aI d=QI x/\True/\0<=Rows.uptoBulk d/\1<=Rows.uptoBulk d:=by
 obtain⟨ds,rfl,d0,r0,rfl,⟨a,rfl,_⟩,d1,r1,rfl,⟨b,rfl,_⟩,d2,r2,rfl,⟨c,rfl,_⟩,d3,r3,rfl,⟨e,rfl,_⟩,h2⟩:=h;simp only[Sh.Y6] at h2; subst h2;exact⟨⟨a,b,c,e⟩,rfl,trivial,ao _,by simp[Rows.uptoBulk]⟩
theorem alu{d:DataW H}{N:Nat}(h:aa0.wf d)(hb:Rows.uptoBulk d<=N): ∃ x:DR,aa0.aI d=QJ x/\True/\0<=Rows.uptoBulk d/\1<=Rows.uptoBulk d:=by
 obtain⟨ds,rfl,d0,r0,rfl,⟨a,rfl,_⟩,d1,r1,rfl,⟨b,rfl,_⟩,d2,r2,rfl,h3,h2⟩:=h;simp only[Sh.Y6] at h2; subst h2;simp only[Rows.uptoBulk,Rows.uptoBulkAll] at hb ⊢;obtain⟨x,hx,_⟩:=agB (N:=N) h3 (by omega);refine⟨⟨a,b,x⟩,?_,trivial,by omega,by omega⟩;simp only[aa0,Sh.aI,Sh.Io,hx]; rfl
theorem ajc{d:DataW H}{N:Nat}(h:U8.wf d)(hb:Rows.uptoBulk d<=N)(hN:N<=2^20): ∃ x:Rule,U8.aI d=Jw x/\wS x/\x.guards.length<=Rows.uptoBulk d/\1<=Rows.uptoBulk d:=by
 obtain⟨ds,rfl,d0,r0,rfl,w0,d1,r1,rfl,⟨a1,rfl,_⟩,d2,r2,rfl,⟨a2,rfl,_⟩,d3,r3,rfl,⟨a3,rfl,_⟩,d4,r4,rfl,⟨a4,rfl,_⟩,d5,r5,rfl,⟨a5,rfl,_⟩,d6,r6,rfl,w6,d7,r7,rfl,w7,d8,r8,rfl,w8,d9,r9,rfl,w9,d10,r10,rfl,⟨a10,rfl,_⟩,d11,r11,rfl,⟨a11,rfl,_⟩,d12,r12,rfl,w12,d13,r13,rfl,⟨a13,rfl,_⟩,d14,r14,rfl,w14,d15,r15,rfl,w15,d16,r16,rfl,w16,d17,r17,rfl,⟨a17,rfl,_⟩,h2⟩:=h;simp only[Sh.Y6] at h2; subst h2;simp only[Rows.uptoBulk,Rows.uptoBulkAll] at hb ⊢;obtain⟨s,e0,_⟩:=U5 (N:=N) w0 (by omega);obtain⟨l6,e6,b6⟩:=rC (N:=N) w6 (by omega);obtain⟨l7,e7,b7,_⟩:=IE (f:=QJ) (Q:=fun _=>True) (sz:=fun _=>0) (N:=N) (fun d h hb=>alu h hb) w7 (by omega);obtain⟨l8,e8,b8⟩:=rC (N:=N) w8 (by omega);obtain⟨l9,e9,b9⟩:=rC (N:=N) w9 (by omega);obtain⟨l12,e12,b12⟩:=rC (N:=N) w12 (by omega);obtain⟨l14,e14,b14⟩:=rC (N:=N) w14 (by omega);obtain⟨l15,e15,b15⟩:=rC (N:=N) w15 (by omega);obtain⟨l16,e16,b16⟩:=rC (N:=N) w16 (by omega);refine⟨⟨s,a1,a2,a3,a4,a5,l6,l7,l8,l9,a10,a11,l12,a13,l14,l15,l16,a17⟩,?_,⟨by show l6.length<_; omega,by show l7.length<_; omega,by show l8.length<_; omega,by show l9.length<_; omega,by show l12.length<_; omega,by show l14.length<_; omega,by show l15.length<_; omega,by show l16.length<_; omega⟩,by show l7.length<=_; omega,by omega⟩;simp only[U8,Sh.aI,Sh.Io] at e0 e6 e7 e8 e9 e12 e14 e15 e16 ⊢;simp only[e0,e6,e7,e8,e9,e12,e14,e15,e16]; rfl
theorem Qq:wS default:=⟨by decide,by decide,by decide,by decide,by decide,by decide,by decide,by decide⟩
theorem ajd{d:DataW H}{N:Nat}(h:LX.wf d)(hb:Rows.uptoBulk d<=N)(hN:N<=2^20): ∃ x:aF,LX.aI d=Z5 x/\dW x:=by
 obtain⟨ds,rfl,d0,r0,rfl,w0,d1,r1,rfl,⟨a1,rfl,_⟩,d2,r2,rfl,w2,d3,r3,rfl,w3,d4,r4,rfl,w4,d5,r5,rfl,⟨a5,rfl,_⟩,d6,r6,rfl,w6,d7,r7,rfl,w7,d8,r8,rfl,w8,d9,r9,rfl,w9,h2⟩:=h;simp only[Sh.Y6] at h2; subst h2;simp only[Rows.uptoBulk,Rows.uptoBulkAll] at hb;obtain⟨s,e0,_⟩:=U5 (N:=N) w0 (by omega);obtain⟨l2,e2,b2,_⟩:=U6 (N:=N) w2 (by omega);obtain⟨l3,e3,b3,_⟩:=U6 (N:=N) w3 (by omega);obtain⟨l4,e4,b4,_⟩:=U6 (N:=N) w4 (by omega);obtain⟨l6,e6,b6,_⟩:=IE (f:=QI) (Q:=fun _=>True) (sz:=fun _=>0) (N:=N) (fun d h hb=>agB h hb) w6 (by omega);obtain⟨l7,e7,b7⟩:=rC (N:=N) w7 (by omega);obtain⟨l8,e8,b8⟩:=rC (N:=N) w8 (by omega);obtain⟨l9,e9,b9,c9,q9⟩:=IE (f:=Jw) (Q:=wS) (sz:=fun r=>r.guards.length) (N:=N) (fun d h hb=>ajc h hb hN) w9 (by omega);refine⟨⟨s,a1,l2,l3,l4,a5,l6,l7,l8,l9⟩,?_,⟨by show l2.length<_; omega,by show l3.length<_; omega,by show l4.length<_; omega,by show l6.length<_; omega,by show l7.length<_; omega,by show l8.length<_; omega,by show l9.length<_; omega,fun i=>?_,?_⟩⟩
 ·simp only[LX,Sh.aI,Sh.Io] at e0 e2 e3 e4 e6 e7 e8 e9 ⊢;simp only[e0,e2,e3,e4,e6,e7,e8,e9]; rfl
 ·show wS (l9.getD i default);rw[ab];cases hg:l9[i]? with
  |none=>exact Qq
  |some x=>exact q9 x (cx hg)
 ·show(l9.flatMap Rule.guards).length<_;rw[List.length_flatMap]
  have:(l9.map fun a=>a.guards.length).sum<=Rows.uptoBulk d9:=c9
  omega
end
section
variable {H:Type}
def XK:Sh:=.st [.sl 0 .int,.int]
def LY:Sh:=.st [.str,.int,.sl 0 .int,.sl 3 XK,.sl 0 .int,.sl 0 .int]
theorem alv{d:DataW H}{N:Nat}(h:XK.wf d)(hb:Rows.uptoBulk d<=N): ∃ x:Cnt,XK.aI d=QK x/\x.states.length<N/\0<=Rows.uptoBulk d/\1<=Rows.uptoBulk d:=by
 obtain⟨ds,rfl,d0,r0,rfl,w0,d1,r1,rfl,⟨a1,rfl,_⟩,h2⟩:=h;simp only[Sh.Y6] at h2; subst h2;simp only[Rows.uptoBulk,Rows.uptoBulkAll] at hb ⊢;obtain⟨l,e0,b0⟩:=rC (N:=N) w0 (by omega);refine⟨⟨l,a1⟩,?_,b0,by omega,by omega⟩;simp only[XK,Sh.aI,Sh.Io] at e0 ⊢;simp only[e0]; rfl
theorem aje{d:DataW H}{N:Nat}(h:LY.wf d)(hb:Rows.uptoBulk d<=N)(hN:N<=2^20): ∃ x:Prop',LY.aI d=aeo x/\lg x:=by
 obtain⟨ds,rfl,d0,r0,rfl,w0,d1,r1,rfl,⟨a1,rfl,_⟩,d2,r2,rfl,w2,d3,r3,rfl,w3,d4,r4,rfl,w4,d5,r5,rfl,w5,h2⟩:=h;simp only[Sh.Y6] at h2; subst h2;simp only[Rows.uptoBulk,Rows.uptoBulkAll] at hb;obtain⟨s,e0,_⟩:=U5 (N:=N) w0 (by omega);obtain⟨l2,e2,b2⟩:=rC (N:=N) w2 (by omega);obtain⟨l3,e3,b3,_,q3⟩:=IE (f:=QK) (Q:=fun x=>x.states.length<N) (sz:=fun _=>0) (N:=N) (fun d h hb=>alv h hb) w3 (by omega);obtain⟨l4,e4,b4⟩:=rC (N:=N) w4 (by omega);obtain⟨l5,e5,b5⟩:=rC (N:=N) w5 (by omega);refine⟨⟨s,a1,l2,l3,l4,l5⟩,?_,⟨by show l2.length<_; omega,by show l3.length<_; omega,by show l4.length<_; omega,by show l5.length<_; omega,fun i=>?_⟩⟩
 ·simp only[LY,XK,Sh.aI,Sh.Io] at e0 e2 e3 e4 e5 ⊢;simp only[e0,e2,e3,e4,e5]; rfl
 ·show(l3.getD i default).states.length<_;rw[ab];cases hg:l3[i]? with
  |none=>show([]:List Int).length<2^30; decide
  |some x=>have:=q3 x (cx hg); show x.states.length<2^30; omega
theorem aoa{d:DataW H}(h:Sh.int.wf d): ∃ n:Int,Sh.int.aI d=T.int n/\(-9223372036854775808<=n/\n<9223372036854775808):=by
 obtain⟨n,rfl,h⟩:=h;have h':(decide (-9223372036854775808<=n)&&decide (n<=9223372036854775807))=true:=h;rw[aD,aq,aq] at h';exact⟨n,rfl,by omega,by omega⟩
theorem agC{d:DataW H}{N:Nat}(h:J8.wf d)(hb:Rows.uptoBulk d<=N): ∃ l:List Elem,J8.aI d= .sl 3 false (l.map jK)/\l.length<N/\ ∀ e∈l,e.counts.length<N:=by
 obtain⟨l,e,b,_,q⟩:=IE (f:=jK) (Q:=fun x=>x.counts.length<N) (sz:=fun _=>0) (N:=N) (fun d h hb=>ajb h hb) h hb;exact⟨l,e,by omega,q⟩
end
section
variable {H:Type}
end
end Go.Proofs.YtdloaandiobgdaaGreatDoor
