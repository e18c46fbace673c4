/-
 Arguments of the statements as plain data: what a reading of bounded bulk gives. No condition.
-/
import Derived.Test.YtiakcepnlcpanaaGreatDoorCards
import Derived.Test.YtiakcepnlcpanaaGreatDoorTie
import Derived.Test.YtiakcepnlcpanaaGreatDoorVa
import Derived.Test.YtiakcepnlcpanaaGreatDoorLf
import Derived.Test.YtiakcepnlcpanaaGreatDoorFa
import Derived.Test.YtiakcepnlcpanaaGreatDoorIa
namespace Go.Proofs.YtiakcepnlcpanaaGreatDoor
open Go.Ab Go.Proofs
set_option maxRecDepth 100000
section
variable {H:Type}
theorem Y4{s:Sh}{α:Type}{f:α->T}{Q:α->Prop}{sz:α->Nat}{N:Nat}(hs: ∀ d:DataW H,s.wf d->Rows.uptoBulk d<=N-> ∃ a,s.aH d=f a/\Q a/\sz a<=Rows.uptoBulk d/\1<=Rows.uptoBulk d) :
  ∀ {es:List (DataW H)},(∀ x∈es,s.wf x)->Rows.uptoBulkAll es<=N-> ∃ l:List α,es.map s.aH=l.map f/\l.length<=Rows.uptoBulkAll es/\(l.map sz).sum<=Rows.uptoBulkAll es/\ ∀ a∈l,Q a:=by
 intro es
 induction es with
 |nil=>intro _ _; exact⟨[],rfl,Nat.zero_le _,Nat.zero_le _,fun a h=>by cases h⟩
 |cons d r ih =>
  intro h hb
  simp only[Rows.uptoBulkAll] at hb ⊢
  obtain⟨l,h1,h2,h3,h4⟩:=ih (fun x hx=>h x (by simp[hx])) (by omega)
  obtain⟨a,g1,g2,g3,g4⟩:=hs d (h d (by simp)) (by omega)
  refine⟨a::l,by simp[h1,g1],by simp only[List.length_cons]; omega,by simp only[List.map_cons,List.sum_cons]; omega,fun x hx=>?_⟩
  rcases List.mem_cons.1 hx with rfl|hx
  ·exact g2
  ·exact h4 x hx
theorem yU{s:Sh}{k:Nat}{α:Type}{f:α->T}{Q:α->Prop}{sz:α->Nat}{N:Nat}(hs: ∀ d:DataW H,s.wf d->Rows.uptoBulk d<=N-> ∃ a,s.aH d=f a/\Q a/\sz a<=Rows.uptoBulk d/\1<=Rows.uptoBulk d)
  {d:DataW H} (h:(Sh.sl k s).wf d) (hb:Rows.uptoBulk d<=N): ∃ l:List α,(Sh.sl k s).aH d= .sl k false (l.map f)/\l.length+1<=Rows.uptoBulk d/\(l.map sz).sum<=Rows.uptoBulk d/\ ∀ a∈l,Q a:=by
 rcases h with rfl|⟨es,sp,rfl,h⟩
 ·exact⟨[],rfl,by simp[Rows.uptoBulk],Nat.zero_le _,fun a h=>by cases h⟩
 ·simp only[Rows.uptoBulk] at hb ⊢
  obtain⟨l,h1,h2,h3,h4⟩:=Y4 hs h (by omega)
  refine⟨l,?_,by omega,by omega,h4⟩
  show T.sl k false (es.map s.aH)=_
  rw[h1]
theorem abq{d:DataW H}{N:Nat}(h:Sh.int.wf d)(_:Rows.uptoBulk d<=N): ∃ n:Int,Sh.int.aH d=T.int n/\True/\0<=Rows.uptoBulk d/\1<=Rows.uptoBulk d:=by
 obtain⟨n,rfl,_⟩:=h
 exact⟨n,rfl,trivial,Nat.zero_le _,Nat.le_refl _⟩
theorem KZ{d:DataW H}{N:Nat}(h:Sh.str.wf d)(_:Rows.uptoBulk d<=N): ∃ s:Str,Sh.str.aH d=eS s/\s.length+1<=Rows.uptoBulk d/\0<=Rows.uptoBulk d/\1<=Rows.uptoBulk d:=by
 obtain⟨l,rfl⟩:=h
 exact⟨l,rfl,Nat.le_refl _,Nat.zero_le _,Nat.succ_le_succ (Nat.zero_le _)⟩
theorem Y5{d:DataW H}{N:Nat}(h:Sh.str.wf d)(hb:Rows.uptoBulk d<=N): ∃ s:Str,Sh.str.aH d=eS s/\s.length<N/\0<=Rows.uptoBulk d/\1<=Rows.uptoBulk d:=by
 obtain⟨s,h1,h2,h3,h4⟩:=KZ h hb
 exact⟨s,h1,by omega,h3,h4⟩
theorem jR{d:DataW H}{N:Nat}(h:(Sh.sl 0 .int).wf d)(hb:Rows.uptoBulk d<=N): ∃ l:List Int,(Sh.sl 0 .int).aH d=Go.Ab.ints l/\l.length<N:=by
 obtain⟨l,h1,h2,_⟩:=yU (f:=T.int) (Q:=fun _=>True) (sz:=fun _=>0) (fun d h hb=>abq h hb) h hb
 exact⟨l,h1,by omega⟩
theorem La{d:DataW H}{N:Nat}(h:(Sh.sl 0 .str).wf d)(hb:Rows.uptoBulk d<=N): ∃ l:List Str,(Sh.sl 0 .str).aH d=strs l/\l.length<N/\ ∀ s∈l,s.length<N:=by
 obtain⟨l,h1,h2,_,h4⟩:=yU (f:=eS) (Q:=fun s=>s.length<N) (sz:=fun _=>0) (fun d h hb=>Y5 h hb) h hb
 exact⟨l,h1,by omega,h4⟩
def Lc:Sh:=.st [.int,.sl 0 .int]
def Rk:Sh:=.st [.int,.int,.int,.int]
def Rl:Sh:=.st [.int,.int,Rk]
def Ld:Sh:=.st [.str,.int,.int,.int,.int,.int,.sl 0 .int,.sl 7 Rl,.sl 0 .int,.sl 0 .int,.int,.int,.sl 0 .int,.int,.sl 0 .int,.sl 0 .int,.sl 0 .int,.int]
def Le:Sh:=.st [.str,.int,.sl 0 .str,.sl 0 .str,.sl 0 .str,.int,.sl 5 Rk,.sl 0 .int,.sl 0 .int,.sl 19 Ld]
theorem Y6{d:DataW H}{N:Nat}(h:Lc.wf d)(hb:Rows.uptoBulk d<=N): ∃ e:Elem,Lc.aH d=fU e/\e.counts.length<N/\0<=Rows.uptoBulk d/\1<=Rows.uptoBulk d:=by
 obtain⟨ds,rfl,d0,r0,rfl,⟨n,rfl,_⟩,d1,r1,rfl,h1,h2⟩:=h
 simp only[Sh.Lr] at h2; subst h2
 simp only[Rows.uptoBulk,Rows.uptoBulkAll] at hb ⊢
 obtain⟨l,a,b⟩:=jR (N:=N) h1 (by omega)
 refine⟨⟨n,l⟩,?_,b,by omega,by omega⟩
 simp only[Lc,Sh.aH,Sh.xW,T.cells,a,fU]; rfl
theorem Xe{d:DataW H}{N:Nat}(h:Rk.wf d)(_:Rows.uptoBulk d<=N): ∃ x:Zx,Rk.aH d=PS x/\True/\0<=Rows.uptoBulk d/\1<=Rows.uptoBulk d:=by
 obtain⟨ds,rfl,d0,r0,rfl,⟨a,rfl,_⟩,d1,r1,rfl,⟨b,rfl,_⟩,d2,r2,rfl,⟨c,rfl,_⟩,d3,r3,rfl,⟨e,rfl,_⟩,h2⟩:=h
 simp only[Sh.Lr] at h2; subst h2
 exact⟨⟨a,b,c,e⟩,rfl,trivial,Nat.zero_le _,by simp[Rows.uptoBulk]⟩
theorem abr{d:DataW H}{N:Nat}(h:Rl.wf d)(hb:Rows.uptoBulk d<=N): ∃ x:Ci,Rl.aH d=NH x/\True/\0<=Rows.uptoBulk d/\1<=Rows.uptoBulk d:=by
 obtain⟨ds,rfl,d0,r0,rfl,⟨a,rfl,_⟩,d1,r1,rfl,⟨b,rfl,_⟩,d2,r2,rfl,h3,h2⟩:=h
 simp only[Sh.Lr] at h2; subst h2
 simp only[Rows.uptoBulk,Rows.uptoBulkAll] at hb ⊢
 obtain⟨x,hx,_⟩:=Xe (N:=N) h3 (by omega)
 refine⟨⟨a,b,x⟩,?_,trivial,by omega,by omega⟩
 simp only[Rl,Sh.aH,Sh.xW,hx]; rfl
theorem Y7{d:DataW H}{N:Nat}(h:Ld.wf d)(hb:Rows.uptoBulk d<=N)(hN:N<=2^20): ∃ x:Rule,Ld.aH d=FH x/\ru x/\x.guards.length<=Rows.uptoBulk d/\1<=Rows.uptoBulk d:=by
 obtain⟨ds,rfl,d0,r0,rfl,w0,d1,r1,rfl,⟨a1,rfl,_⟩,d2,r2,rfl,⟨a2,rfl,_⟩,d3,r3,rfl,⟨a3,rfl,_⟩,d4,r4,rfl,⟨a4,rfl,_⟩,d5,r5,rfl,⟨a5,rfl,_⟩,d6,r6,rfl,w6,d7,r7,rfl,w7,d8,r8,rfl,w8,d9,r9,rfl,w9,d10,r10,rfl,⟨a10,rfl,_⟩,d11,r11,rfl,⟨a11,rfl,_⟩,d12,r12,rfl,w12,d13,r13,rfl,⟨a13,rfl,_⟩,d14,r14,rfl,w14,d15,r15,rfl,w15,d16,r16,rfl,w16,d17,r17,rfl,⟨a17,rfl,_⟩,h2⟩:=h
 simp only[Sh.Lr] at h2; subst h2
 simp only[Rows.uptoBulk,Rows.uptoBulkAll] at hb ⊢
 obtain⟨s,e0,_⟩:=KZ (N:=N) w0 (by omega)
 obtain⟨l6,e6,b6⟩:=jR (N:=N) w6 (by omega)
 obtain⟨l7,e7,b7,_⟩:=yU (f:=NH) (Q:=fun _=>True) (sz:=fun _=>0) (N:=N) (fun d h hb=>abr h hb) w7 (by omega)
 obtain⟨l8,e8,b8⟩:=jR (N:=N) w8 (by omega)
 obtain⟨l9,e9,b9⟩:=jR (N:=N) w9 (by omega)
 obtain⟨l12,e12,b12⟩:=jR (N:=N) w12 (by omega)
 obtain⟨l14,e14,b14⟩:=jR (N:=N) w14 (by omega)
 obtain⟨l15,e15,b15⟩:=jR (N:=N) w15 (by omega)
 obtain⟨l16,e16,b16⟩:=jR (N:=N) w16 (by omega)
 refine⟨⟨s,a1,a2,a3,a4,a5,l6,l7,l8,l9,a10,a11,l12,a13,l14,l15,l16,a17⟩,?_,⟨by show l6.length<_; omega,by show l7.length<_; omega,by show l8.length<_; omega,by show l9.length<_; omega,by show l12.length<_; omega,by show l14.length<_; omega,by show l15.length<_; omega,by show l16.length<_; omega⟩,by show l7.length<=_; omega,by omega⟩
 simp only[Ld,Sh.aH,Sh.xW] at e0 e6 e7 e8 e9 e12 e14 e15 e16 ⊢
 simp only[e0,e6,e7,e8,e9,e12,e14,e15,e16]; rfl
theorem Ig:ru default:=⟨by decide,by decide,by decide,by decide,by decide,by decide,by decide,by decide⟩
theorem Y8{d:DataW H}{N:Nat}(h:Le.wf d)(hb:Rows.uptoBulk d<=N)(hN:N<=2^20): ∃ x:aW,Le.aH d=Qm x/\dI x:=by
 obtain⟨ds,rfl,d0,r0,rfl,w0,d1,r1,rfl,⟨a1,rfl,_⟩,d2,r2,rfl,w2,d3,r3,rfl,w3,d4,r4,rfl,w4,d5,r5,rfl,⟨a5,rfl,_⟩,d6,r6,rfl,w6,d7,r7,rfl,w7,d8,r8,rfl,w8,d9,r9,rfl,w9,h2⟩:=h
 simp only[Sh.Lr] at h2; subst h2
 simp only[Rows.uptoBulk,Rows.uptoBulkAll] at hb
 obtain⟨s,e0,_⟩:=KZ (N:=N) w0 (by omega)
 obtain⟨l2,e2,b2,_⟩:=La (N:=N) w2 (by omega)
 obtain⟨l3,e3,b3,_⟩:=La (N:=N) w3 (by omega)
 obtain⟨l4,e4,b4,_⟩:=La (N:=N) w4 (by omega)
 obtain⟨l6,e6,b6,_⟩:=yU (f:=PS) (Q:=fun _=>True) (sz:=fun _=>0) (N:=N) (fun d h hb=>Xe h hb) w6 (by omega)
 obtain⟨l7,e7,b7⟩:=jR (N:=N) w7 (by omega)
 obtain⟨l8,e8,b8⟩:=jR (N:=N) w8 (by omega)
 obtain⟨l9,e9,b9,c9,q9⟩:=yU (f:=FH) (Q:=ru) (sz:=fun r=>r.guards.length) (N:=N) (fun d h hb=>Y7 h hb hN) w9 (by omega)
 refine⟨⟨s,a1,l2,l3,l4,a5,l6,l7,l8,l9⟩,?_,⟨by show l2.length<_; omega,by show l3.length<_; omega,by show l4.length<_; omega,by show l6.length<_; omega,by show l7.length<_; omega,by show l8.length<_; omega,by show l9.length<_; omega,fun i=>?_,?_⟩⟩
 ·simp only[Le,Sh.aH,Sh.xW] at e0 e2 e3 e4 e6 e7 e8 e9 ⊢
  simp only[e0,e2,e3,e4,e6,e7,e8,e9]; rfl
 ·show ru (l9.getD i default)
  rw[List.getD_eq_getElem?_getD]
  cases hg:l9[i]? with
  |none=>exact Ig
  |some x=>exact q9 x (List.mem_of_getElem? hg)
 ·show(l9.flatMap Rule.guards).length<_
  rw[List.length_flatMap]
  have:(l9.map fun a=>a.guards.length).sum<=Rows.uptoBulk d9:=c9
  omega
end
section
variable {H:Type}
def Oc:Sh:=.st [.sl 0 .int,.int]
def Lh:Sh:=.st [.str,.int,.sl 0 .int,.sl 3 Oc,.sl 0 .int,.sl 0 .int]
theorem abt{d:DataW H}{N:Nat}(h:Oc.wf d)(hb:Rows.uptoBulk d<=N): ∃ x:Cnt,Oc.aH d=PU x/\x.states.length<N/\0<=Rows.uptoBulk d/\1<=Rows.uptoBulk d:=by
 obtain⟨ds,rfl,d0,r0,rfl,w0,d1,r1,rfl,⟨a1,rfl,_⟩,h2⟩:=h
 simp only[Sh.Lr] at h2; subst h2
 simp only[Rows.uptoBulk,Rows.uptoBulkAll] at hb ⊢
 obtain⟨l,e0,b0⟩:=jR (N:=N) w0 (by omega)
 refine⟨⟨l,a1⟩,?_,b0,by omega,by omega⟩
 simp only[Oc,Sh.aH,Sh.xW] at e0 ⊢
 simp only[e0]; rfl
theorem Y9{d:DataW H}{N:Nat}(h:Lh.wf d)(hb:Rows.uptoBulk d<=N)(hN:N<=2^20): ∃ x:Prop',Lh.aH d=Wn x/\oO x:=by
 obtain⟨ds,rfl,d0,r0,rfl,w0,d1,r1,rfl,⟨a1,rfl,_⟩,d2,r2,rfl,w2,d3,r3,rfl,w3,d4,r4,rfl,w4,d5,r5,rfl,w5,h2⟩:=h
 simp only[Sh.Lr] at h2; subst h2
 simp only[Rows.uptoBulk,Rows.uptoBulkAll] at hb
 obtain⟨s,e0,_⟩:=KZ (N:=N) w0 (by omega)
 obtain⟨l2,e2,b2⟩:=jR (N:=N) w2 (by omega)
 obtain⟨l3,e3,b3,_,q3⟩:=yU (f:=PU) (Q:=fun x=>x.states.length<N) (sz:=fun _=>0) (N:=N) (fun d h hb=>abt h hb) w3 (by omega)
 obtain⟨l4,e4,b4⟩:=jR (N:=N) w4 (by omega)
 obtain⟨l5,e5,b5⟩:=jR (N:=N) w5 (by omega)
 refine⟨⟨s,a1,l2,l3,l4,l5⟩,?_,⟨by show l2.length<_; omega,by show l3.length<_; omega,by show l4.length<_; omega,by show l5.length<_; omega,fun i=>?_⟩⟩
 ·simp only[Lh,Oc,Sh.aH,Sh.xW] at e0 e2 e3 e4 e5 ⊢
  simp only[e0,e2,e3,e4,e5]; rfl
 ·show(l3.getD i default).states.length<_
  rw[List.getD_eq_getElem?_getD]
  cases hg:l3[i]? with
  |none=>show([]:List Int).length<2^30; decide
  |some x=>have:=q3 x (List.mem_of_getElem? hg); show x.states.length<2^30; omega
end
section
variable {H:Type}
def yV:Sh:=.st [.sl 0 (.sl 0 .int),.sl 0 .int,.sl 0 .int]
def wL:Sh:=.sl 4 yV
def Ed:Sh:=.st [Le,Lh]
theorem Oe{d:DataW H}:1<=Rows.uptoBulk d:=by
 unfold Rows.uptoBulk
 split<;>omega
theorem JM{d:DataW H}{N:Nat}(h:yV.wf d)(hb:Rows.uptoBulk d<=N)(hN:N<=2^20): ∃ x:Clause,yV.aH d=kT x/\qY x/\0<=Rows.uptoBulk d/\1<=Rows.uptoBulk d:=by
 have hp:=Oe (d:=d)
 obtain⟨ds,rfl,d0,r0,rfl,w0,d1,r1,rfl,w1,d2,r2,rfl,w2,h2⟩:=h
 simp only[Sh.Lr] at h2; subst h2
 simp only[Rows.uptoBulk,Rows.uptoBulkAll] at hb
 obtain⟨l0,e0,b0,_,q0⟩:=yU (f:=Go.Ab.ints) (Q:=fun x=>x.length<N) (sz:=fun _=>0) (N:=N) (fun d h hb=>(jR h hb).elim fun l hl=>⟨l,hl.1,hl.2,Nat.zero_le _,Oe⟩) w0 (by omega)
 obtain⟨l1,e1,b1⟩:=jR (N:=N) w1 (by omega)
 obtain⟨l2,e2,b2⟩:=jR (N:=N) w2 (by omega)
 refine⟨⟨l0,l1,l2⟩,?_,⟨by show l0.length<_; omega,fun i=>?_,by show l1.length<_; omega,by show l2.length<_; omega⟩,Nat.zero_le _,hp⟩
 ·simp only[yV,Sh.aH,Sh.xW] at e0 e1 e2 ⊢
  simp only[e0,e1,e2]; rfl
 ·show(l0.getD i []).length<_
  rw[List.getD_eq_getElem?_getD]
  cases hg:l0[i]? with
  |none=>show([]:List Int).length<2^30; decide
  |some x=>have:=q0 x (List.mem_of_getElem? hg); show x.length<2^30; omega
theorem Qi{d:DataW H}{N:Nat}(h:wL.wf d)(hb:Rows.uptoBulk d<=N)(hN:N<=2^20): ∃ l:List Clause,wL.aH d= .sl 4 false (l.map kT)/\SmallK l:=by
 obtain⟨l,e,b,_,q⟩:=yU (f:=kT) (Q:=qY) (sz:=fun _=>0) (N:=N) (fun d h hb=>JM h hb hN) h hb
 refine⟨l,e,by omega,fun i=>?_⟩
 rw[List.getD_eq_getElem?_getD]
 cases hg:l[i]? with
 |none=>exact⟨by decide,fun i=>by show(([]:List (List Int)).getD i []).length<2^30; rw[List.getD_nil]; decide,by decide,by decide⟩
 |some x=>exact q x (List.mem_of_getElem? hg)
theorem Za{d:DataW H}{N:Nat}(h:Ed.wf d)(hb:Rows.uptoBulk d<=N)(hN:N<=2^20): ∃ (p:aW) (q:Prop'),Ed.aH d= .agg ((Qm p).cells++(Wn q).cells)/\dI p/\oO q:=by
 obtain⟨ds,rfl,d0,r0,rfl,w0,d1,r1,rfl,w1,h2⟩:=h
 simp only[Sh.Lr] at h2; subst h2
 simp only[Rows.uptoBulk,Rows.uptoBulkAll] at hb
 obtain⟨p,e0,b0⟩:=Y8 (N:=N) w0 (by omega) hN
 obtain⟨q,e1,b1⟩:=Y9 (N:=N) w1 (by omega) hN
 refine⟨p,q,?_,b0,b1⟩
 simp only[Ed,Sh.aH,Sh.xW]; rw[e0,e1]; rfl
end
section
variable {H:Type}
def Ee:Sh:=.st [yV,Lc]
theorem Zb{d:DataW H}{N:Nat}(h:Ee.wf d)(hb:Rows.uptoBulk d<=N)(hN:N<=2^20): ∃ (c:Clause) (e:Elem),Ee.aH d= .agg ((kT c).cells++(fU e).cells)/\qY c/\e.counts.length<2^30:=by
 obtain⟨ds,rfl,d0,r0,rfl,w0,d1,r1,rfl,w1,h2⟩:=h
 simp only[Sh.Lr] at h2; subst h2
 simp only[Rows.uptoBulk,Rows.uptoBulkAll] at hb
 obtain⟨c,e0,b0,_⟩:=JM (N:=N) w0 (by omega) hN
 obtain⟨e,e1,b1,_⟩:=Y6 (N:=N) w1 (by omega)
 refine⟨c,e,?_,b0,by omega⟩
 simp only[Ee,Sh.aH,Sh.xW]; rw[e0,e1]; rfl
end
end Go.Proofs.YtiakcepnlcpanaaGreatDoor
