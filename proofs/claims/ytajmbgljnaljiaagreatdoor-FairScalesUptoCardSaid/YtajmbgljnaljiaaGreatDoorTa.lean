/-
 Arguments of the statements as plain data: what a reading of bounded bulk gives. No condition.
-/
import Derived.Test.YtajmbgljnaljiaaGreatDoorCards
import Derived.Test.YtajmbgljnaljiaaGreatDoorTie
import Derived.Test.YtajmbgljnaljiaaGreatDoorVa
import Derived.Test.YtajmbgljnaljiaaGreatDoorLg
import Derived.Test.YtajmbgljnaljiaaGreatDoorFa
namespace Go.Proofs.YtajmbgljnaljiaaGreatDoor
open Go.Ab Go.Proofs
set_option maxRecDepth 100000
section
variable {H:Type}
theorem aed{s:Sh}{α:Type}{f:α->T}{Q:α->Prop}{sz:α->Nat}{N:Nat}(hs: ∀ d:DataW H,s.wf d->Rows.uptoBulk d<=N-> ∃ a,s.aI d=f a/\Q a/\sz a<=Rows.uptoBulk d/\1<=Rows.uptoBulk d) :
  ∀ {es:List (DataW H)},(∀ x∈es,s.wf x)->Rows.uptoBulkAll es<=N-> ∃ l:List α,es.map s.aI=l.map f/\l.length<=Rows.uptoBulkAll es/\(l.map sz).sum<=Rows.uptoBulkAll es/\ ∀ a∈l,Q a:=by
 intro es
 induction es with
 |nil=>intro _ _; exact⟨[],rfl,Nat.zero_le _,Nat.zero_le _,fun a h=>by cases h⟩
 |cons d r ih =>
  intro h hb
  simp only[Rows.uptoBulkAll] at hb ⊢
  obtain⟨l,h1,h2,h3,h4⟩:=ih (fun x hx=>h x (by simp[hx])) (by omega)
  obtain⟨a,g1,g2,g3,g4⟩:=hs d (h d (by simp)) (by omega)
  refine⟨a::l,by simp[h1,g1],by simp only[List.length_cons]; omega,by simp only[List.map_cons,List.sum_cons]; omega,fun x hx=>?_⟩
  rcases List.mem_cons.1 hx with rfl|hx
  ·exact g2
  ·exact h4 x hx
theorem Ic{s:Sh}{k:Nat}{α:Type}{f:α->T}{Q:α->Prop}{sz:α->Nat}{N:Nat}(hs: ∀ d:DataW H,s.wf d->Rows.uptoBulk d<=N-> ∃ a,s.aI d=f a/\Q a/\sz a<=Rows.uptoBulk d/\1<=Rows.uptoBulk d)
  {d:DataW H} (h:(Sh.sl k s).wf d) (hb:Rows.uptoBulk d<=N): ∃ l:List α,(Sh.sl k s).aI d= .sl k false (l.map f)/\l.length+1<=Rows.uptoBulk d/\(l.map sz).sum<=Rows.uptoBulk d/\ ∀ a∈l,Q a:=by
 rcases h with rfl|⟨es,sp,rfl,h⟩
 ·exact⟨[],rfl,by simp[Rows.uptoBulk],Nat.zero_le _,fun a h=>by cases h⟩
 ·simp only[Rows.uptoBulk] at hb ⊢
  obtain⟨l,h1,h2,h3,h4⟩:=aed hs h (by omega)
  refine⟨l,?_,by omega,by omega,h4⟩
  show T.sl k false (es.map s.aI)=_
  rw[h1]
theorem agl{d:DataW H}{N:Nat}(h:Sh.int.wf d)(_:Rows.uptoBulk d<=N): ∃ n:Int,Sh.int.aI d=T.int n/\True/\0<=Rows.uptoBulk d/\1<=Rows.uptoBulk d:=by
 obtain⟨n,rfl,_⟩:=h
 exact⟨n,rfl,trivial,Nat.zero_le _,Nat.le_refl _⟩
theorem Qi{d:DataW H}{N:Nat}(h:Sh.str.wf d)(_:Rows.uptoBulk d<=N): ∃ s:Str,Sh.str.aI d=eS s/\s.length+1<=Rows.uptoBulk d/\0<=Rows.uptoBulk d/\1<=Rows.uptoBulk d:=by
 obtain⟨l,rfl⟩:=h
 exact⟨l,rfl,Nat.le_refl _,Nat.zero_le _,Nat.succ_le_succ (Nat.zero_le _)⟩
theorem aee{d:DataW H}{N:Nat}(h:Sh.str.wf d)(hb:Rows.uptoBulk d<=N): ∃ s:Str,Sh.str.aI d=eS s/\s.length<N/\0<=Rows.uptoBulk d/\1<=Rows.uptoBulk d:=by
 obtain⟨s,h1,h2,h3,h4⟩:=Qi h hb
 exact⟨s,h1,by omega,h3,h4⟩
theorem lX{d:DataW H}{N:Nat}(h:(Sh.sl 0 .int).wf d)(hb:Rows.uptoBulk d<=N): ∃ l:List Int,(Sh.sl 0 .int).aI d=Go.Ab.ints l/\l.length<N:=by
 obtain⟨l,h1,h2,_⟩:=Ic (f:=T.int) (Q:=fun _=>True) (sz:=fun _=>0) (fun d h hb=>agl h hb) h hb
 exact⟨l,h1,by omega⟩
theorem Qj{d:DataW H}{N:Nat}(h:(Sh.sl 0 .str).wf d)(hb:Rows.uptoBulk d<=N): ∃ l:List Str,(Sh.sl 0 .str).aI d=strs l/\l.length<N/\ ∀ s∈l,s.length<N:=by
 obtain⟨l,h1,h2,_,h4⟩:=Ic (f:=eS) (Q:=fun s=>s.length<N) (sz:=fun _=>0) (fun d h hb=>aee h hb) h hb
 exact⟨l,h1,by omega,h4⟩
def Wi:Sh:=.st [.int,.sl 0 .int]
def XH:Sh:=.st [.int,.int,.int,.int]
def XI:Sh:=.st [.int,.int,XH]
def Qk:Sh:=.st [.str,.int,.int,.int,.int,.int,.sl 0 .int,.sl 7 XI,.sl 0 .int,.sl 0 .int,.int,.int,.sl 0 .int,.int,.sl 0 .int,.sl 0 .int,.sl 0 .int,.int]
def AO:Sh:=.st [.str,.int,.sl 0 .str,.sl 0 .str,.sl 0 .str,.int,.sl 5 XH,.sl 0 .int,.sl 0 .int,.sl 19 Qk]
theorem ahF{d:DataW H}{N:Nat}(h:Wi.wf d)(hb:Rows.uptoBulk d<=N): ∃ e:Elem,Wi.aI d=fD e/\e.counts.length<N/\0<=Rows.uptoBulk d/\1<=Rows.uptoBulk d:=by
 obtain⟨ds,rfl,d0,r0,rfl,⟨n,rfl,_⟩,d1,r1,rfl,h1,h2⟩:=h
 simp only[Sh.TB] at h2; subst h2
 simp only[Rows.uptoBulk,Rows.uptoBulkAll] at hb ⊢
 obtain⟨l,a,b⟩:=lX (N:=N) h1 (by omega)
 refine⟨⟨n,l⟩,?_,b,by omega,by omega⟩
 simp only[Wi,Sh.aI,Sh.EP,T.cells,a,fD]; rfl
theorem acu{d:DataW H}{N:Nat}(h:XH.wf d)(_:Rows.uptoBulk d<=N): ∃ x:Lin,XH.aI d=VH x/\True/\0<=Rows.uptoBulk d/\1<=Rows.uptoBulk d:=by
 obtain⟨ds,rfl,d0,r0,rfl,⟨a,rfl,_⟩,d1,r1,rfl,⟨b,rfl,_⟩,d2,r2,rfl,⟨c,rfl,_⟩,d3,r3,rfl,⟨e,rfl,_⟩,h2⟩:=h
 simp only[Sh.TB] at h2; subst h2
 exact⟨⟨a,b,c,e⟩,rfl,trivial,Nat.zero_le _,by simp[Rows.uptoBulk]⟩
theorem agm{d:DataW H}{N:Nat}(h:XI.wf d)(hb:Rows.uptoBulk d<=N): ∃ x:Bf,XI.aI d=Tc x/\True/\0<=Rows.uptoBulk d/\1<=Rows.uptoBulk d:=by
 obtain⟨ds,rfl,d0,r0,rfl,⟨a,rfl,_⟩,d1,r1,rfl,⟨b,rfl,_⟩,d2,r2,rfl,h3,h2⟩:=h
 simp only[Sh.TB] at h2; subst h2
 simp only[Rows.uptoBulk,Rows.uptoBulkAll] at hb ⊢
 obtain⟨x,hx,_⟩:=acu (N:=N) h3 (by omega)
 refine⟨⟨a,b,x⟩,?_,trivial,by omega,by omega⟩
 simp only[XI,Sh.aI,Sh.EP,hx]; rfl
theorem aef{d:DataW H}{N:Nat}(h:Qk.wf d)(hb:Rows.uptoBulk d<=N)(hN:N<=2^20): ∃ x:Rule,Qk.aI d=Ld x/\yw x/\x.guards.length<=Rows.uptoBulk d/\1<=Rows.uptoBulk d:=by
 obtain⟨ds,rfl,d0,r0,rfl,w0,d1,r1,rfl,⟨a1,rfl,_⟩,d2,r2,rfl,⟨a2,rfl,_⟩,d3,r3,rfl,⟨a3,rfl,_⟩,d4,r4,rfl,⟨a4,rfl,_⟩,d5,r5,rfl,⟨a5,rfl,_⟩,d6,r6,rfl,w6,d7,r7,rfl,w7,d8,r8,rfl,w8,d9,r9,rfl,w9,d10,r10,rfl,⟨a10,rfl,_⟩,d11,r11,rfl,⟨a11,rfl,_⟩,d12,r12,rfl,w12,d13,r13,rfl,⟨a13,rfl,_⟩,d14,r14,rfl,w14,d15,r15,rfl,w15,d16,r16,rfl,w16,d17,r17,rfl,⟨a17,rfl,_⟩,h2⟩:=h
 simp only[Sh.TB] at h2; subst h2
 simp only[Rows.uptoBulk,Rows.uptoBulkAll] at hb ⊢
 obtain⟨s,e0,_⟩:=Qi (N:=N) w0 (by omega)
 obtain⟨l6,e6,b6⟩:=lX (N:=N) w6 (by omega)
 obtain⟨l7,e7,b7,_⟩:=Ic (f:=Tc) (Q:=fun _=>True) (sz:=fun _=>0) (N:=N) (fun d h hb=>agm h hb) w7 (by omega)
 obtain⟨l8,e8,b8⟩:=lX (N:=N) w8 (by omega)
 obtain⟨l9,e9,b9⟩:=lX (N:=N) w9 (by omega)
 obtain⟨l12,e12,b12⟩:=lX (N:=N) w12 (by omega)
 obtain⟨l14,e14,b14⟩:=lX (N:=N) w14 (by omega)
 obtain⟨l15,e15,b15⟩:=lX (N:=N) w15 (by omega)
 obtain⟨l16,e16,b16⟩:=lX (N:=N) w16 (by omega)
 refine⟨⟨s,a1,a2,a3,a4,a5,l6,l7,l8,l9,a10,a11,l12,a13,l14,l15,l16,a17⟩,?_,⟨by show l6.length<_; omega,by show l7.length<_; omega,by show l8.length<_; omega,by show l9.length<_; omega,by show l12.length<_; omega,by show l14.length<_; omega,by show l15.length<_; omega,by show l16.length<_; omega⟩,by show l7.length<=_; omega,by omega⟩
 simp only[Qk,Sh.aI,Sh.EP] at e0 e6 e7 e8 e9 e12 e14 e15 e16 ⊢
 simp only[e0,e6,e7,e8,e9,e12,e14,e15,e16]; rfl
theorem LJ:yw default:=⟨by decide,by decide,by decide,by decide,by decide,by decide,by decide,by decide⟩
theorem XJ{d:DataW H}{N:Nat}(h:AO.wf d)(hb:Rows.uptoBulk d<=N)(hN:N<=2^20): ∃ x:aC,AO.aI d=abE x/\dL x:=by
 obtain⟨ds,rfl,d0,r0,rfl,w0,d1,r1,rfl,⟨a1,rfl,_⟩,d2,r2,rfl,w2,d3,r3,rfl,w3,d4,r4,rfl,w4,d5,r5,rfl,⟨a5,rfl,_⟩,d6,r6,rfl,w6,d7,r7,rfl,w7,d8,r8,rfl,w8,d9,r9,rfl,w9,h2⟩:=h
 simp only[Sh.TB] at h2; subst h2
 simp only[Rows.uptoBulk,Rows.uptoBulkAll] at hb
 obtain⟨s,e0,_⟩:=Qi (N:=N) w0 (by omega)
 obtain⟨l2,e2,b2,_⟩:=Qj (N:=N) w2 (by omega)
 obtain⟨l3,e3,b3,_⟩:=Qj (N:=N) w3 (by omega)
 obtain⟨l4,e4,b4,_⟩:=Qj (N:=N) w4 (by omega)
 obtain⟨l6,e6,b6,_⟩:=Ic (f:=VH) (Q:=fun _=>True) (sz:=fun _=>0) (N:=N) (fun d h hb=>acu h hb) w6 (by omega)
 obtain⟨l7,e7,b7⟩:=lX (N:=N) w7 (by omega)
 obtain⟨l8,e8,b8⟩:=lX (N:=N) w8 (by omega)
 obtain⟨l9,e9,b9,c9,q9⟩:=Ic (f:=Ld) (Q:=yw) (sz:=fun r=>r.guards.length) (N:=N) (fun d h hb=>aef h hb hN) w9 (by omega)
 refine⟨⟨s,a1,l2,l3,l4,a5,l6,l7,l8,l9⟩,?_,⟨by show l2.length<_; omega,by show l3.length<_; omega,by show l4.length<_; omega,by show l6.length<_; omega,by show l7.length<_; omega,by show l8.length<_; omega,by show l9.length<_; omega,fun i=>?_,?_⟩⟩
 ·simp only[AO,Sh.aI,Sh.EP] at e0 e2 e3 e4 e6 e7 e8 e9 ⊢
  simp only[e0,e2,e3,e4,e6,e7,e8,e9]; rfl
 ·show yw (l9.getD i default)
  rw[List.getD_eq_getElem?_getD]
  cases hg:l9[i]? with
  |none=>exact LJ
  |some x=>exact q9 x (List.mem_of_getElem? hg)
 ·show(l9.flatMap Rule.guards).length<_
  rw[List.length_flatMap]
  have:(l9.map fun a=>a.guards.length).sum<=Rows.uptoBulk d9:=c9
  omega
end
section
variable {H:Type}
def Uc:Sh:=.st [.sl 0 .int,.int]
def AP:Sh:=.st [.str,.int,.sl 0 .int,.sl 3 Uc,.sl 0 .int,.sl 0 .int]
theorem agn{d:DataW H}{N:Nat}(h:Uc.wf d)(hb:Rows.uptoBulk d<=N): ∃ x:Cnt,Uc.aI d=VI x/\x.states.length<N/\0<=Rows.uptoBulk d/\1<=Rows.uptoBulk d:=by
 obtain⟨ds,rfl,d0,r0,rfl,w0,d1,r1,rfl,⟨a1,rfl,_⟩,h2⟩:=h
 simp only[Sh.TB] at h2; subst h2
 simp only[Rows.uptoBulk,Rows.uptoBulkAll] at hb ⊢
 obtain⟨l,e0,b0⟩:=lX (N:=N) w0 (by omega)
 refine⟨⟨l,a1⟩,?_,b0,by omega,by omega⟩
 simp only[Uc,Sh.aI,Sh.EP] at e0 ⊢
 simp only[e0]; rfl
theorem XK{d:DataW H}{N:Nat}(h:AP.wf d)(hb:Rows.uptoBulk d<=N)(hN:N<=2^20): ∃ x:Prop',AP.aI d=aeE x/\iF x:=by
 obtain⟨ds,rfl,d0,r0,rfl,w0,d1,r1,rfl,⟨a1,rfl,_⟩,d2,r2,rfl,w2,d3,r3,rfl,w3,d4,r4,rfl,w4,d5,r5,rfl,w5,h2⟩:=h
 simp only[Sh.TB] at h2; subst h2
 simp only[Rows.uptoBulk,Rows.uptoBulkAll] at hb
 obtain⟨s,e0,_⟩:=Qi (N:=N) w0 (by omega)
 obtain⟨l2,e2,b2⟩:=lX (N:=N) w2 (by omega)
 obtain⟨l3,e3,b3,_,q3⟩:=Ic (f:=VI) (Q:=fun x=>x.states.length<N) (sz:=fun _=>0) (N:=N) (fun d h hb=>agn h hb) w3 (by omega)
 obtain⟨l4,e4,b4⟩:=lX (N:=N) w4 (by omega)
 obtain⟨l5,e5,b5⟩:=lX (N:=N) w5 (by omega)
 refine⟨⟨s,a1,l2,l3,l4,l5⟩,?_,⟨by show l2.length<_; omega,by show l3.length<_; omega,by show l4.length<_; omega,by show l5.length<_; omega,fun i=>?_⟩⟩
 ·simp only[AP,Uc,Sh.aI,Sh.EP] at e0 e2 e3 e4 e5 ⊢
  simp only[e0,e2,e3,e4,e5]; rfl
 ·show(l3.getD i default).states.length<_
  rw[List.getD_eq_getElem?_getD]
  cases hg:l3[i]? with
  |none=>show([]:List Int).length<2^30; decide
  |some x=>have:=q3 x (List.mem_of_getElem? hg); show x.states.length<2^30; omega
theorem agp{d:DataW H}(h:Sh.int.wf d): ∃ n:Int,Sh.int.aI d=T.int n/\(-9223372036854775808<=n/\n<9223372036854775808):=by
 obtain⟨n,rfl,h⟩:=h
 have h':(decide (-9223372036854775808<=n)&&decide (n<=9223372036854775807))=true:=h
 rw[Bool.and_eq_true,decide_eq_true_eq,decide_eq_true_eq] at h'
 exact⟨n,rfl,by omega,by omega⟩
end
section
variable {H:Type}
end
end Go.Proofs.YtajmbgljnaljiaaGreatDoor
