/-
 Arguments of the statements as plain data: what a reading of bounded bulk gives. No condition.
-/
import Derived.Test.YtbfhebmdcpmfaaaGreatDoorCards
import Derived.Test.YtbfhebmdcpmfaaaGreatDoorTie
import Derived.Test.YtbfhebmdcpmfaaaGreatDoorVa
import Derived.Test.YtbfhebmdcpmfaaaGreatDoorLf
import Derived.Test.YtbfhebmdcpmfaaaGreatDoorFa
import Derived.Test.YtbfhebmdcpmfaaaGreatDoorIa
namespace Go.Proofs.YtbfhebmdcpmfaaaGreatDoor
open Go.Ab Go.Proofs
set_option maxRecDepth 100000
section
variable {H:Type}
theorem ZL{s:Sh}{α:Type}{f:α->T}{Q:α->Prop}{sz:α->Nat}{N:Nat}(hs: ∀ d:DataW H,s.wf d->Rows.uptoBulk d<=N-> ∃ a,s.aG d=f a/\Q a/\sz a<=Rows.uptoBulk d/\1<=Rows.uptoBulk d) :
  ∀ {es:List (DataW H)},(∀ x∈es,s.wf x)->Rows.uptoBulkAll es<=N-> ∃ l:List α,es.map s.aG=l.map f/\l.length<=Rows.uptoBulkAll es/\(l.map sz).sum<=Rows.uptoBulkAll es/\ ∀ a∈l,Q a:=by
 intro es
 induction es with
 |nil=>intro _ _; exact⟨[],rfl,Nat.zero_le _,Nat.zero_le _,fun a h=>by cases h⟩
 |cons d r ih =>
  intro h hb
  simp only[Rows.uptoBulkAll] at hb ⊢
  obtain⟨l,h1,h2,h3,h4⟩:=ih (fun x hx=>h x (by simp[hx])) (by omega)
  obtain⟨a,g1,g2,g3,g4⟩:=hs d (h d (by simp)) (by omega)
  refine⟨a::l,by simp[h1,g1],by simp only[List.length_cons]; omega,by simp only[List.map_cons,List.sum_cons]; omega,fun x hx=>?_⟩
  rcases List.mem_cons.1 hx with rfl|hx
  ·exact g2
  ·exact h4 x hx
theorem Cj{s:Sh}{k:Nat}{α:Type}{f:α->T}{Q:α->Prop}{sz:α->Nat}{N:Nat}(hs: ∀ d:DataW H,s.wf d->Rows.uptoBulk d<=N-> ∃ a,s.aG d=f a/\Q a/\sz a<=Rows.uptoBulk d/\1<=Rows.uptoBulk d)
  {d:DataW H} (h:(Sh.sl k s).wf d) (hb:Rows.uptoBulk d<=N): ∃ l:List α,(Sh.sl k s).aG d= .sl k false (l.map f)/\l.length+1<=Rows.uptoBulk d/\(l.map sz).sum<=Rows.uptoBulk d/\ ∀ a∈l,Q a:=by
 rcases h with rfl|⟨es,sp,rfl,h⟩
 ·exact⟨[],rfl,by simp[Rows.uptoBulk],Nat.zero_le _,fun a h=>by cases h⟩
 ·simp only[Rows.uptoBulk] at hb ⊢
  obtain⟨l,h1,h2,h3,h4⟩:=ZL hs h (by omega)
  refine⟨l,?_,by omega,by omega,h4⟩
  show T.sl k false (es.map s.aG)=_
  rw[h1]
theorem abZ{d:DataW H}{N:Nat}(h:Sh.int.wf d)(_:Rows.uptoBulk d<=N): ∃ n:Int,Sh.int.aG d=T.int n/\True/\0<=Rows.uptoBulk d/\1<=Rows.uptoBulk d:=by
 obtain⟨n,rfl,_⟩:=h
 exact⟨n,rfl,trivial,Nat.zero_le _,Nat.le_refl _⟩
theorem QI{d:DataW H}{N:Nat}(h:Sh.str.wf d)(_:Rows.uptoBulk d<=N): ∃ s:Str,Sh.str.aG d=eS s/\s.length+1<=Rows.uptoBulk d/\0<=Rows.uptoBulk d/\1<=Rows.uptoBulk d:=by
 obtain⟨l,rfl⟩:=h
 exact⟨l,rfl,Nat.le_refl _,Nat.zero_le _,Nat.succ_le_succ (Nat.zero_le _)⟩
theorem ZM{d:DataW H}{N:Nat}(h:Sh.str.wf d)(hb:Rows.uptoBulk d<=N): ∃ s:Str,Sh.str.aG d=eS s/\s.length<N/\0<=Rows.uptoBulk d/\1<=Rows.uptoBulk d:=by
 obtain⟨s,h1,h2,h3,h4⟩:=QI h hb
 exact⟨s,h1,by omega,h3,h4⟩
theorem og{d:DataW H}{N:Nat}(h:(Sh.sl 0 .int).wf d)(hb:Rows.uptoBulk d<=N): ∃ l:List Int,(Sh.sl 0 .int).aG d=Go.Ab.ints l/\l.length<N:=by
 obtain⟨l,h1,h2,_⟩:=Cj (f:=T.int) (Q:=fun _=>True) (sz:=fun _=>0) (fun d h hb=>abZ h hb) h hb
 exact⟨l,h1,by omega⟩
theorem LV{d:DataW H}{N:Nat}(h:(Sh.sl 0 .str).wf d)(hb:Rows.uptoBulk d<=N): ∃ l:List Str,(Sh.sl 0 .str).aG d=strs l/\l.length<N/\ ∀ s∈l,s.length<N:=by
 obtain⟨l,h1,h2,_,h4⟩:=Cj (f:=eS) (Q:=fun s=>s.length<N) (sz:=fun _=>0) (fun d h hb=>ZM h hb) h hb
 exact⟨l,h1,by omega,h4⟩
def RX:Sh:=.st [.int,.int,.int,.int]
def RY:Sh:=.st [.int,.int,RX]
def LW:Sh:=.st [.str,.int,.int,.int,.int,.int,.sl 0 .int,.sl 7 RY,.sl 0 .int,.sl 0 .int,.int,.int,.sl 0 .int,.int,.sl 0 .int,.sl 0 .int,.sl 0 .int,.int]
def EW:Sh:=.st [.str,.int,.sl 0 .str,.sl 0 .str,.sl 0 .str,.int,.sl 5 RX,.sl 0 .int,.sl 0 .int,.sl 19 LW]
theorem XW{d:DataW H}{N:Nat}(h:RX.wf d)(_:Rows.uptoBulk d<=N): ∃ x:Ze,RX.aG d=Qn x/\True/\0<=Rows.uptoBulk d/\1<=Rows.uptoBulk d:=by
 obtain⟨ds,rfl,d0,r0,rfl,⟨a,rfl,_⟩,d1,r1,rfl,⟨b,rfl,_⟩,d2,r2,rfl,⟨c,rfl,_⟩,d3,r3,rfl,⟨e,rfl,_⟩,h2⟩:=h
 simp only[Sh.UO] at h2; subst h2
 exact⟨⟨a,b,c,e⟩,rfl,trivial,Nat.zero_le _,by simp[Rows.uptoBulk]⟩
theorem ab1{d:DataW H}{N:Nat}(h:RY.wf d)(hb:Rows.uptoBulk d<=N): ∃ x:yM,RY.aG d=NZ x/\True/\0<=Rows.uptoBulk d/\1<=Rows.uptoBulk d:=by
 obtain⟨ds,rfl,d0,r0,rfl,⟨a,rfl,_⟩,d1,r1,rfl,⟨b,rfl,_⟩,d2,r2,rfl,h3,h2⟩:=h
 simp only[Sh.UO] at h2; subst h2
 simp only[Rows.uptoBulk,Rows.uptoBulkAll] at hb ⊢
 obtain⟨x,hx,_⟩:=XW (N:=N) h3 (by omega)
 refine⟨⟨a,b,x⟩,?_,trivial,by omega,by omega⟩
 simp only[RY,Sh.aG,Sh.ET,hx]; rfl
theorem ZN{d:DataW H}{N:Nat}(h:LW.wf d)(hb:Rows.uptoBulk d<=N)(hN:N<=2^20): ∃ x:Rule,LW.aG d=Gj x/\vN x/\x.guards.length<=Rows.uptoBulk d/\1<=Rows.uptoBulk d:=by
 obtain⟨ds,rfl,d0,r0,rfl,w0,d1,r1,rfl,⟨a1,rfl,_⟩,d2,r2,rfl,⟨a2,rfl,_⟩,d3,r3,rfl,⟨a3,rfl,_⟩,d4,r4,rfl,⟨a4,rfl,_⟩,d5,r5,rfl,⟨a5,rfl,_⟩,d6,r6,rfl,w6,d7,r7,rfl,w7,d8,r8,rfl,w8,d9,r9,rfl,w9,d10,r10,rfl,⟨a10,rfl,_⟩,d11,r11,rfl,⟨a11,rfl,_⟩,d12,r12,rfl,w12,d13,r13,rfl,⟨a13,rfl,_⟩,d14,r14,rfl,w14,d15,r15,rfl,w15,d16,r16,rfl,w16,d17,r17,rfl,⟨a17,rfl,_⟩,h2⟩:=h
 simp only[Sh.UO] at h2; subst h2
 simp only[Rows.uptoBulk,Rows.uptoBulkAll] at hb ⊢
 obtain⟨s,e0,_⟩:=QI (N:=N) w0 (by omega)
 obtain⟨l6,e6,b6⟩:=og (N:=N) w6 (by omega)
 obtain⟨l7,e7,b7,_⟩:=Cj (f:=NZ) (Q:=fun _=>True) (sz:=fun _=>0) (N:=N) (fun d h hb=>ab1 h hb) w7 (by omega)
 obtain⟨l8,e8,b8⟩:=og (N:=N) w8 (by omega)
 obtain⟨l9,e9,b9⟩:=og (N:=N) w9 (by omega)
 obtain⟨l12,e12,b12⟩:=og (N:=N) w12 (by omega)
 obtain⟨l14,e14,b14⟩:=og (N:=N) w14 (by omega)
 obtain⟨l15,e15,b15⟩:=og (N:=N) w15 (by omega)
 obtain⟨l16,e16,b16⟩:=og (N:=N) w16 (by omega)
 refine⟨⟨s,a1,a2,a3,a4,a5,l6,l7,l8,l9,a10,a11,l12,a13,l14,l15,l16,a17⟩,?_,⟨by show l6.length<_; omega,by show l7.length<_; omega,by show l8.length<_; omega,by show l9.length<_; omega,by show l12.length<_; omega,by show l14.length<_; omega,by show l15.length<_; omega,by show l16.length<_; omega⟩,by show l7.length<=_; omega,by omega⟩
 simp only[LW,Sh.aG,Sh.ET] at e0 e6 e7 e8 e9 e12 e14 e15 e16 ⊢
 simp only[e0,e6,e7,e8,e9,e12,e14,e15,e16]; rfl
theorem IL:vN default:=⟨by decide,by decide,by decide,by decide,by decide,by decide,by decide,by decide⟩
theorem ZO{d:DataW H}{N:Nat}(h:EW.wf d)(hb:Rows.uptoBulk d<=N)(hN:N<=2^20): ∃ x:aU,EW.aG d=Vl x/\dh x:=by
 obtain⟨ds,rfl,d0,r0,rfl,w0,d1,r1,rfl,⟨a1,rfl,_⟩,d2,r2,rfl,w2,d3,r3,rfl,w3,d4,r4,rfl,w4,d5,r5,rfl,⟨a5,rfl,_⟩,d6,r6,rfl,w6,d7,r7,rfl,w7,d8,r8,rfl,w8,d9,r9,rfl,w9,h2⟩:=h
 simp only[Sh.UO] at h2; subst h2
 simp only[Rows.uptoBulk,Rows.uptoBulkAll] at hb
 obtain⟨s,e0,_⟩:=QI (N:=N) w0 (by omega)
 obtain⟨l2,e2,b2,_⟩:=LV (N:=N) w2 (by omega)
 obtain⟨l3,e3,b3,_⟩:=LV (N:=N) w3 (by omega)
 obtain⟨l4,e4,b4,_⟩:=LV (N:=N) w4 (by omega)
 obtain⟨l6,e6,b6,_⟩:=Cj (f:=Qn) (Q:=fun _=>True) (sz:=fun _=>0) (N:=N) (fun d h hb=>XW h hb) w6 (by omega)
 obtain⟨l7,e7,b7⟩:=og (N:=N) w7 (by omega)
 obtain⟨l8,e8,b8⟩:=og (N:=N) w8 (by omega)
 obtain⟨l9,e9,b9,c9,q9⟩:=Cj (f:=Gj) (Q:=vN) (sz:=fun r=>r.guards.length) (N:=N) (fun d h hb=>ZN h hb hN) w9 (by omega)
 refine⟨⟨s,a1,l2,l3,l4,a5,l6,l7,l8,l9⟩,?_,⟨by show l2.length<_; omega,by show l3.length<_; omega,by show l4.length<_; omega,by show l6.length<_; omega,by show l7.length<_; omega,by show l8.length<_; omega,by show l9.length<_; omega,fun i=>?_,?_⟩⟩
 ·simp only[EW,Sh.aG,Sh.ET] at e0 e2 e3 e4 e6 e7 e8 e9 ⊢
  simp only[e0,e2,e3,e4,e6,e7,e8,e9]; rfl
 ·show vN (l9.getD i default)
  rw[List.getD_eq_getElem?_getD]
  cases hg:l9[i]? with
  |none=>exact IL
  |some x=>exact q9 x (List.mem_of_getElem? hg)
 ·show(l9.flatMap Rule.guards).length<_
  rw[List.length_flatMap]
  have:(l9.map fun a=>a.guards.length).sum<=Rows.uptoBulk d9:=c9
  omega
end
section
variable {H:Type}
end
section
variable {H:Type}
def DZ:Sh:=.st [.sl 0 (.sl 0 .int),.sl 0 .int,.sl 0 .int]
def xu:Sh:=.sl 4 DZ
theorem OH{d:DataW H}:1<=Rows.uptoBulk d:=by
 unfold Rows.uptoBulk
 split<;>omega
theorem U8{d:DataW H}{N:Nat}(h:DZ.wf d)(hb:Rows.uptoBulk d<=N)(hN:N<=2^20): ∃ x:Clause,DZ.aG d=nX x/\o9 x/\0<=Rows.uptoBulk d/\1<=Rows.uptoBulk d:=by
 have hp:=OH (d:=d)
 obtain⟨ds,rfl,d0,r0,rfl,w0,d1,r1,rfl,w1,d2,r2,rfl,w2,h2⟩:=h
 simp only[Sh.UO] at h2; subst h2
 simp only[Rows.uptoBulk,Rows.uptoBulkAll] at hb
 obtain⟨l0,e0,b0,_,q0⟩:=Cj (f:=Go.Ab.ints) (Q:=fun x=>x.length<N) (sz:=fun _=>0) (N:=N) (fun d h hb=>(og h hb).elim fun l hl=>⟨l,hl.1,hl.2,Nat.zero_le _,OH⟩) w0 (by omega)
 obtain⟨l1,e1,b1⟩:=og (N:=N) w1 (by omega)
 obtain⟨l2,e2,b2⟩:=og (N:=N) w2 (by omega)
 refine⟨⟨l0,l1,l2⟩,?_,⟨by show l0.length<_; omega,fun i=>?_,by show l1.length<_; omega,by show l2.length<_; omega⟩,Nat.zero_le _,hp⟩
 ·simp only[DZ,Sh.aG,Sh.ET] at e0 e1 e2 ⊢
  simp only[e0,e1,e2]; rfl
 ·show(l0.getD i []).length<_
  rw[List.getD_eq_getElem?_getD]
  cases hg:l0[i]? with
  |none=>show([]:List Int).length<2^30; decide
  |some x=>have:=q0 x (List.mem_of_getElem? hg); show x.length<2^30; omega
theorem QJ{d:DataW H}{N:Nat}(h:xu.wf d)(hb:Rows.uptoBulk d<=N)(hN:N<=2^20): ∃ l:List Clause,xu.aG d= .sl 4 false (l.map nX)/\SmallK l:=by
 obtain⟨l,e,b,_,q⟩:=Cj (f:=nX) (Q:=o9) (sz:=fun _=>0) (N:=N) (fun d h hb=>U8 h hb hN) h hb
 refine⟨l,e,by omega,fun i=>?_⟩
 rw[List.getD_eq_getElem?_getD]
 cases hg:l[i]? with
 |none=>exact⟨by decide,fun i=>by show(([]:List (List Int)).getD i []).length<2^30; rw[List.getD_nil]; decide,by decide,by decide⟩
 |some x=>exact q x (List.mem_of_getElem? hg)
end
end Go.Proofs.YtbfhebmdcpmfaaaGreatDoor
