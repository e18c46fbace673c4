/-
 Arguments of the statements as plain data: what a reading of bounded bulk gives. No condition.
-/
import Derived.Test.YtdhobgbagphngaaGreatDoorCards
import Derived.Test.YtdhobgbagphngaaGreatDoorTie
import Derived.Test.YtdhobgbagphngaaGreatDoorVa
import Derived.Test.YtdhobgbagphngaaGreatDoorLg
import Derived.Test.YtdhobgbagphngaaGreatDoorFa
import Derived.Test.YtdhobgbagphngaaGreatDoorQf
namespace Go.Proofs.YtdhobgbagphngaaGreatDoor
open Go.Ab Go.Proofs
set_option maxRecDepth 100000
section
variable {H:Type}
theorem ac3{s:Sh}{α:Type}{f:α->T}{Q:α->Prop}{sz:α->Nat}{N:Nat}(hs: ∀ d:DataW H,s.wf d->Rows.uptoBulk d<=N-> ∃ a,s.aG d=f a/\Q a/\sz a<=Rows.uptoBulk d/\1<=Rows.uptoBulk d) :
  ∀ {es:List (DataW H)},(∀ x∈es,s.wf x)->Rows.uptoBulkAll es<=N-> ∃ l:List α,es.map s.aG=l.map f/\l.length<=Rows.uptoBulkAll es/\(l.map sz).sum<=Rows.uptoBulkAll es/\ ∀ a∈l,Q a:=by
 intro es;induction es with
 |nil=>intro _ _; exact⟨[],rfl,Nat.zero_le _,Nat.zero_le _,fun a h=>by cases h⟩
 |cons d r ih =>
  intro h hb;simp only[Rows.uptoBulkAll] at hb ⊢;obtain⟨l,h1,h2,h3,h4⟩:=ih (fun x hx=>h x (by simp[hx])) (by omega);obtain⟨a,g1,g2,g3,g4⟩:=hs d (h d (by simp)) (by omega);refine⟨a::l,by simp[h1,g1],by simp only[List.length_cons]; omega,by simp only[List.map_cons,List.sum_cons]; omega,fun x hx=>?_⟩;rcases List.mem_cons.1 hx with rfl|hx
  ·exact g2
  ·exact h4 x hx
theorem H8{s:Sh}{k:Nat}{α:Type}{f:α->T}{Q:α->Prop}{sz:α->Nat}{N:Nat}(hs: ∀ d:DataW H,s.wf d->Rows.uptoBulk d<=N-> ∃ a,s.aG d=f a/\Q a/\sz a<=Rows.uptoBulk d/\1<=Rows.uptoBulk d)
  {d:DataW H} (h:(Sh.sl k s).wf d) (hb:Rows.uptoBulk d<=N): ∃ l:List α,(Sh.sl k s).aG d= .sl k false (l.map f)/\l.length+1<=Rows.uptoBulk d/\(l.map sz).sum<=Rows.uptoBulk d/\ ∀ a∈l,Q a:=by
 rcases h with rfl|⟨es,sp,rfl,h⟩
 ·exact⟨[],rfl,by simp[Rows.uptoBulk],Nat.zero_le _,fun a h=>by cases h⟩
 ·simp only[Rows.uptoBulk] at hb ⊢;obtain⟨l,h1,h2,h3,h4⟩:=ac3 hs h (by omega);refine⟨l,?_,by omega,by omega,h4⟩;show T.sl k false (es.map s.aG)=_;rw[h1]
theorem ae3{d:DataW H}{N:Nat}(h:Sh.int.wf d)(_:Rows.uptoBulk d<=N): ∃ n:Int,Sh.int.aG d=T.int n/\True/\0<=Rows.uptoBulk d/\1<=Rows.uptoBulk d:=by
 obtain⟨n,rfl,_⟩:=h;exact⟨n,rfl,trivial,Nat.zero_le _,Nat.le_refl _⟩
theorem PS{d:DataW H}{N:Nat}(h:Sh.str.wf d)(_:Rows.uptoBulk d<=N): ∃ s:Str,Sh.str.aG d=eS s/\s.length+1<=Rows.uptoBulk d/\0<=Rows.uptoBulk d/\1<=Rows.uptoBulk d:=by
 obtain⟨l,rfl⟩:=h;exact⟨l,rfl,Nat.le_refl _,Nat.zero_le _,Nat.succ_le_succ (Nat.zero_le _)⟩
theorem ac4{d:DataW H}{N:Nat}(h:Sh.str.wf d)(hb:Rows.uptoBulk d<=N): ∃ s:Str,Sh.str.aG d=eS s/\s.length<N/\0<=Rows.uptoBulk d/\1<=Rows.uptoBulk d:=by
 obtain⟨s,h1,h2,h3,h4⟩:=PS h hb;exact⟨s,h1,by omega,h3,h4⟩
theorem jV{d:DataW H}{N:Nat}(h:(Sh.sl 0 .int).wf d)(hb:Rows.uptoBulk d<=N): ∃ l:List Int,(Sh.sl 0 .int).aG d=Go.Ab.ints l/\l.length<N:=by
 obtain⟨l,h1,h2,_⟩:=H8 (f:=T.int) (Q:=fun _=>True) (sz:=fun _=>0) (fun d h hb=>ae3 h hb) h hb;exact⟨l,h1,by omega⟩
theorem PU{d:DataW H}{N:Nat}(h:(Sh.sl 0 .str).wf d)(hb:Rows.uptoBulk d<=N): ∃ l:List Str,(Sh.sl 0 .str).aG d=strs l/\l.length<N/\ ∀ s∈l,s.length<N:=by
 obtain⟨l,h1,h2,_,h4⟩:=H8 (f:=eS) (Q:=fun s=>s.length<N) (sz:=fun _=>0) (fun d h hb=>ac4 h hb) h hb;exact⟨l,h1,by omega,h4⟩
def H9:Sh:=.st [.int,.sl 0 .int]
def Wn:Sh:=.st [.int,.int,.int,.int]
def Wp:Sh:=.st [.int,.int,Wn]
def PV:Sh:=.st [.str,.int,.int,.int,.int,.int,.sl 0 .int,.sl 7 Wp,.sl 0 .int,.sl 0 .int,.int,.int,.sl 0 .int,.int,.sl 0 .int,.sl 0 .int,.sl 0 .int,.int]
def Ia:Sh:=.st [.str,.int,.sl 0 .str,.sl 0 .str,.sl 0 .str,.int,.sl 5 Wn,.sl 0 .int,.sl 0 .int,.sl 19 PV]
theorem ac5{d:DataW H}{N:Nat}(h:H9.wf d)(hb:Rows.uptoBulk d<=N): ∃ e:Elem,H9.aG d=iE e/\e.counts.length<N/\0<=Rows.uptoBulk d/\1<=Rows.uptoBulk d:=by
 obtain⟨ds,rfl,d0,r0,rfl,⟨n,rfl,_⟩,d1,r1,rfl,h1,h2⟩:=h;simp only[Sh.Tz] at h2; subst h2;simp only[Rows.uptoBulk,Rows.uptoBulkAll] at hb ⊢;obtain⟨l,a,b⟩:=jV (N:=N) h1 (by omega);refine⟨⟨n,l⟩,?_,b,by omega,by omega⟩;simp only[H9,Sh.aG,Sh.Dn,T.cells,a,iE]; rfl
theorem aaY{d:DataW H}{N:Nat}(h:Wn.wf d)(_:Rows.uptoBulk d<=N): ∃ x:Lin,Wn.aG d=Uy x/\True/\0<=Rows.uptoBulk d/\1<=Rows.uptoBulk d:=by
 obtain⟨ds,rfl,d0,r0,rfl,⟨a,rfl,_⟩,d1,r1,rfl,⟨b,rfl,_⟩,d2,r2,rfl,⟨c,rfl,_⟩,d3,r3,rfl,⟨e,rfl,_⟩,h2⟩:=h;simp only[Sh.Tz] at h2; subst h2;exact⟨⟨a,b,c,e⟩,rfl,trivial,Nat.zero_le _,by simp[Rows.uptoBulk]⟩
theorem ae4{d:DataW H}{N:Nat}(h:Wp.wf d)(hb:Rows.uptoBulk d<=N): ∃ x:Ar,Wp.aG d=QT x/\True/\0<=Rows.uptoBulk d/\1<=Rows.uptoBulk d:=by
 obtain⟨ds,rfl,d0,r0,rfl,⟨a,rfl,_⟩,d1,r1,rfl,⟨b,rfl,_⟩,d2,r2,rfl,h3,h2⟩:=h;simp only[Sh.Tz] at h2; subst h2;simp only[Rows.uptoBulk,Rows.uptoBulkAll] at hb ⊢;obtain⟨x,hx,_⟩:=aaY (N:=N) h3 (by omega);refine⟨⟨a,b,x⟩,?_,trivial,by omega,by omega⟩;simp only[Wp,Sh.aG,Sh.Dn,hx]; rfl
theorem ac6{d:DataW H}{N:Nat}(h:PV.wf d)(hb:Rows.uptoBulk d<=N)(hN:N<=2^20): ∃ x:Rule,PV.aG d=Kw x/\uV x/\x.guards.length<=Rows.uptoBulk d/\1<=Rows.uptoBulk d:=by
 obtain⟨ds,rfl,d0,r0,rfl,w0,d1,r1,rfl,⟨a1,rfl,_⟩,d2,r2,rfl,⟨a2,rfl,_⟩,d3,r3,rfl,⟨a3,rfl,_⟩,d4,r4,rfl,⟨a4,rfl,_⟩,d5,r5,rfl,⟨a5,rfl,_⟩,d6,r6,rfl,w6,d7,r7,rfl,w7,d8,r8,rfl,w8,d9,r9,rfl,w9,d10,r10,rfl,⟨a10,rfl,_⟩,d11,r11,rfl,⟨a11,rfl,_⟩,d12,r12,rfl,w12,d13,r13,rfl,⟨a13,rfl,_⟩,d14,r14,rfl,w14,d15,r15,rfl,w15,d16,r16,rfl,w16,d17,r17,rfl,⟨a17,rfl,_⟩,h2⟩:=h;simp only[Sh.Tz] at h2; subst h2;simp only[Rows.uptoBulk,Rows.uptoBulkAll] at hb ⊢;obtain⟨s,e0,_⟩:=PS (N:=N) w0 (by omega);obtain⟨l6,e6,b6⟩:=jV (N:=N) w6 (by omega);obtain⟨l7,e7,b7,_⟩:=H8 (f:=QT) (Q:=fun _=>True) (sz:=fun _=>0) (N:=N) (fun d h hb=>ae4 h hb) w7 (by omega);obtain⟨l8,e8,b8⟩:=jV (N:=N) w8 (by omega);obtain⟨l9,e9,b9⟩:=jV (N:=N) w9 (by omega);obtain⟨l12,e12,b12⟩:=jV (N:=N) w12 (by omega);obtain⟨l14,e14,b14⟩:=jV (N:=N) w14 (by omega);obtain⟨l15,e15,b15⟩:=jV (N:=N) w15 (by omega);obtain⟨l16,e16,b16⟩:=jV (N:=N) w16 (by omega);refine⟨⟨s,a1,a2,a3,a4,a5,l6,l7,l8,l9,a10,a11,l12,a13,l14,l15,l16,a17⟩,?_,⟨by show l6.length<_; omega,by show l7.length<_; omega,by show l8.length<_; omega,by show l9.length<_; omega,by show l12.length<_; omega,by show l14.length<_; omega,by show l15.length<_; omega,by show l16.length<_; omega⟩,by show l7.length<=_; omega,by omega⟩;simp only[PV,Sh.aG,Sh.Dn] at e0 e6 e7 e8 e9 e12 e14 e15 e16 ⊢;simp only[e0,e6,e7,e8,e9,e12,e14,e15,e16]; rfl
theorem LK:uV default:=⟨by decide,by decide,by decide,by decide,by decide,by decide,by decide,by decide⟩
theorem ac7{d:DataW H}{N:Nat}(h:Ia.wf d)(hb:Rows.uptoBulk d<=N)(hN:N<=2^20): ∃ x:aH,Ia.aG d=ZA x/\dG x:=by
 obtain⟨ds,rfl,d0,r0,rfl,w0,d1,r1,rfl,⟨a1,rfl,_⟩,d2,r2,rfl,w2,d3,r3,rfl,w3,d4,r4,rfl,w4,d5,r5,rfl,⟨a5,rfl,_⟩,d6,r6,rfl,w6,d7,r7,rfl,w7,d8,r8,rfl,w8,d9,r9,rfl,w9,h2⟩:=h;simp only[Sh.Tz] at h2; subst h2;simp only[Rows.uptoBulk,Rows.uptoBulkAll] at hb;obtain⟨s,e0,_⟩:=PS (N:=N) w0 (by omega);obtain⟨l2,e2,b2,_⟩:=PU (N:=N) w2 (by omega);obtain⟨l3,e3,b3,_⟩:=PU (N:=N) w3 (by omega);obtain⟨l4,e4,b4,_⟩:=PU (N:=N) w4 (by omega);obtain⟨l6,e6,b6,_⟩:=H8 (f:=Uy) (Q:=fun _=>True) (sz:=fun _=>0) (N:=N) (fun d h hb=>aaY h hb) w6 (by omega);obtain⟨l7,e7,b7⟩:=jV (N:=N) w7 (by omega);obtain⟨l8,e8,b8⟩:=jV (N:=N) w8 (by omega);obtain⟨l9,e9,b9,c9,q9⟩:=H8 (f:=Kw) (Q:=uV) (sz:=fun r=>r.guards.length) (N:=N) (fun d h hb=>ac6 h hb hN) w9 (by omega);refine⟨⟨s,a1,l2,l3,l4,a5,l6,l7,l8,l9⟩,?_,⟨by show l2.length<_; omega,by show l3.length<_; omega,by show l4.length<_; omega,by show l6.length<_; omega,by show l7.length<_; omega,by show l8.length<_; omega,by show l9.length<_; omega,fun i=>?_,?_⟩⟩
 ·simp only[Ia,Sh.aG,Sh.Dn] at e0 e2 e3 e4 e6 e7 e8 e9 ⊢;simp only[e0,e2,e3,e4,e6,e7,e8,e9]; rfl
 ·show uV (l9.getD i default);rw[List.getD_eq_getElem?_getD];cases hg:l9[i]? with
  |none=>exact LK
  |some x=>exact q9 x (List.mem_of_getElem? hg)
 ·show(l9.flatMap Rule.guards).length<_;rw[List.length_flatMap]
  have:(l9.map fun a=>a.guards.length).sum<=Rows.uptoBulk d9:=c9
  omega
end
section
variable {H:Type}
def S9:Sh:=.st [.sl 0 .int,.int]
def Vf:Sh:=.st [.str,.int,.sl 0 .int,.sl 3 S9,.sl 0 .int,.sl 0 .int]
theorem ae5{d:DataW H}{N:Nat}(h:S9.wf d)(hb:Rows.uptoBulk d<=N): ∃ x:Cnt,S9.aG d=Uz x/\x.states.length<N/\0<=Rows.uptoBulk d/\1<=Rows.uptoBulk d:=by
 obtain⟨ds,rfl,d0,r0,rfl,w0,d1,r1,rfl,⟨a1,rfl,_⟩,h2⟩:=h;simp only[Sh.Tz] at h2; subst h2;simp only[Rows.uptoBulk,Rows.uptoBulkAll] at hb ⊢;obtain⟨l,e0,b0⟩:=jV (N:=N) w0 (by omega);refine⟨⟨l,a1⟩,?_,b0,by omega,by omega⟩;simp only[S9,Sh.aG,Sh.Dn] at e0 ⊢;simp only[e0]; rfl
theorem agp{d:DataW H}{N:Nat}(h:Vf.wf d)(hb:Rows.uptoBulk d<=N)(hN:N<=2^20): ∃ x:Prop',Vf.aG d=adq x/\tJ x:=by
 obtain⟨ds,rfl,d0,r0,rfl,w0,d1,r1,rfl,⟨a1,rfl,_⟩,d2,r2,rfl,w2,d3,r3,rfl,w3,d4,r4,rfl,w4,d5,r5,rfl,w5,h2⟩:=h;simp only[Sh.Tz] at h2; subst h2;simp only[Rows.uptoBulk,Rows.uptoBulkAll] at hb;obtain⟨s,e0,_⟩:=PS (N:=N) w0 (by omega);obtain⟨l2,e2,b2⟩:=jV (N:=N) w2 (by omega);obtain⟨l3,e3,b3,_,q3⟩:=H8 (f:=Uz) (Q:=fun x=>x.states.length<N) (sz:=fun _=>0) (N:=N) (fun d h hb=>ae5 h hb) w3 (by omega);obtain⟨l4,e4,b4⟩:=jV (N:=N) w4 (by omega);obtain⟨l5,e5,b5⟩:=jV (N:=N) w5 (by omega);refine⟨⟨s,a1,l2,l3,l4,l5⟩,?_,⟨by show l2.length<_; omega,by show l3.length<_; omega,by show l4.length<_; omega,by show l5.length<_; omega,fun i=>?_⟩⟩
 ·simp only[Vf,S9,Sh.aG,Sh.Dn] at e0 e2 e3 e4 e5 ⊢;simp only[e0,e2,e3,e4,e5]; rfl
 ·show(l3.getD i default).states.length<_;rw[List.getD_eq_getElem?_getD];cases hg:l3[i]? with
  |none=>show([]:List Int).length<2^30; decide
  |some x=>have:=q3 x (List.mem_of_getElem? hg); show x.states.length<2^30; omega
theorem ag3{d:DataW H}(h:Sh.int.wf d): ∃ n:Int,Sh.int.aG d=T.int n/\(-9223372036854775808<=n/\n<9223372036854775808):=by
 obtain⟨n,rfl,h⟩:=h;have h':(decide (-9223372036854775808<=n)&&decide (n<=9223372036854775807))=true:=h;rw[Bool.and_eq_true,decide_eq_true_eq,decide_eq_true_eq] at h';exact⟨n,rfl,by omega,by omega⟩
end
section
variable {H:Type}
end
section
variable {H:Type}
def N8:Sh:=.st [.sl 0 .int,.sl 0 .int,.int,.sl 0 .int,.sl 0 .int,.int]
theorem ae6{d:DataW H}{N:Nat}(h:N8.wf d)(hb:Rows.uptoBulk d<=N)(hN:N<=2^20): ∃ c:MC,N8.aG d=(BX c).aG/\vF c:=by
 obtain⟨ds,rfl,d0,r0,rfl,w0,d1,r1,rfl,w1,d2,r2,rfl,⟨a2,rfl,_⟩,d3,r3,rfl,w3,d4,r4,rfl,w4,d5,r5,rfl,⟨a5,rfl,_⟩,h2⟩:=h;simp only[Sh.Tz] at h2; subst h2;simp only[Rows.uptoBulk,Rows.uptoBulkAll] at hb;obtain⟨l0,e0,b0⟩:=jV (N:=N) w0 (by omega);obtain⟨l1,e1,b1⟩:=jV (N:=N) w1 (by omega);obtain⟨l3,e3,b3⟩:=jV (N:=N) w3 (by omega);obtain⟨l4,e4,b4⟩:=jV (N:=N) w4 (by omega);refine⟨⟨l0,l1,a2,l3,l4,a5⟩,?_,⟨by show l0.length<_; omega,by show l1.length<_; omega,by show l3.length<_; omega,by show l4.length<_; omega⟩⟩;simp only[N8,Sh.aG,Sh.Dn] at e0 e1 e3 e4 ⊢;simp only[e0,e1,e3,e4]; rfl
end
end Go.Proofs.YtdhobgbagphngaaGreatDoor
