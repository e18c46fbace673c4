/-
 Arguments of the statements as plain data: what a reading of bounded bulk gives. No condition.
-/
import Derived.Test.YtkmldgihhaooaaaGreatDoorCards
import Derived.Test.YtkmldgihhaooaaaGreatDoorTie
import Derived.Test.YtkmldgihhaooaaaGreatDoorVa
import Derived.Test.YtkmldgihhaooaaaGreatDoorLg
import Derived.Test.YtkmldgihhaooaaaGreatDoorFa
namespace Go.Proofs.YtkmldgihhaooaaaGreatDoor
open Go.Ab Go.Proofs
set_option maxRecDepth 100000
section
variable {H:Type}
theorem acB{s:Sh}{α:Type}{f:α->T}{Q:α->Prop}{sz:α->Nat}{N:Nat}(hs: ∀ d:DataW H,s.wf d->Rows.uptoBulk d<=N-> ∃ a,s.aG d=f a/\Q a/\sz a<=Rows.uptoBulk d/\1<=Rows.uptoBulk d) :
  ∀ {es:List (DataW H)},(∀ x∈es,s.wf x)->Rows.uptoBulkAll es<=N-> ∃ l:List α,es.map s.aG=l.map f/\l.length<=Rows.uptoBulkAll es/\(l.map sz).sum<=Rows.uptoBulkAll es/\ ∀ a∈l,Q a:=by
 intro es
 induction es with
 |nil=>intro _ _; exact⟨[],rfl,Nat.zero_le _,Nat.zero_le _,fun a h=>by cases h⟩
 |cons d r ih =>
  intro h hb
  simp only[Rows.uptoBulkAll] at hb ⊢
  obtain⟨l,h1,h2,h3,h4⟩:=ih (fun x hx=>h x (by simp[hx])) (by omega)
  obtain⟨a,g1,g2,g3,g4⟩:=hs d (h d (by simp)) (by omega)
  refine⟨a::l,by simp[h1,g1],by simp only[List.length_cons]; omega,by simp only[List.map_cons,List.sum_cons]; omega,fun x hx=>?_⟩
  rcases List.mem_cons.1 hx with rfl|hx
  ·exact g2
  ·exact h4 x hx
theorem Eb{s:Sh}{k:Nat}{α:Type}{f:α->T}{Q:α->Prop}{sz:α->Nat}{N:Nat}(hs: ∀ d:DataW H,s.wf d->Rows.uptoBulk d<=N-> ∃ a,s.aG d=f a/\Q a/\sz a<=Rows.uptoBulk d/\1<=Rows.uptoBulk d)
  {d:DataW H} (h:(Sh.sl k s).wf d) (hb:Rows.uptoBulk d<=N): ∃ l:List α,(Sh.sl k s).aG d= .sl k false (l.map f)/\l.length+1<=Rows.uptoBulk d/\(l.map sz).sum<=Rows.uptoBulk d/\ ∀ a∈l,Q a:=by
 rcases h with rfl|⟨es,sp,rfl,h⟩
 ·exact⟨[],rfl,by simp[Rows.uptoBulk],Nat.zero_le _,fun a h=>by cases h⟩
 ·simp only[Rows.uptoBulk] at hb ⊢
  obtain⟨l,h1,h2,h3,h4⟩:=acB hs h (by omega)
  refine⟨l,?_,by omega,by omega,h4⟩
  show T.sl k false (es.map s.aG)=_
  rw[h1]
theorem ael{d:DataW H}{N:Nat}(h:Sh.int.wf d)(_:Rows.uptoBulk d<=N): ∃ n:Int,Sh.int.aG d=T.int n/\True/\0<=Rows.uptoBulk d/\1<=Rows.uptoBulk d:=by
 obtain⟨n,rfl,_⟩:=h
 exact⟨n,rfl,trivial,Nat.zero_le _,Nat.le_refl _⟩
theorem O9{d:DataW H}{N:Nat}(h:Sh.str.wf d)(_:Rows.uptoBulk d<=N): ∃ s:Str,Sh.str.aG d=eS s/\s.length+1<=Rows.uptoBulk d/\0<=Rows.uptoBulk d/\1<=Rows.uptoBulk d:=by
 obtain⟨l,rfl⟩:=h
 exact⟨l,rfl,Nat.le_refl _,Nat.zero_le _,Nat.succ_le_succ (Nat.zero_le _)⟩
theorem acC{d:DataW H}{N:Nat}(h:Sh.str.wf d)(hb:Rows.uptoBulk d<=N): ∃ s:Str,Sh.str.aG d=eS s/\s.length<N/\0<=Rows.uptoBulk d/\1<=Rows.uptoBulk d:=by
 obtain⟨s,h1,h2,h3,h4⟩:=O9 h hb
 exact⟨s,h1,by omega,h3,h4⟩
theorem nO{d:DataW H}{N:Nat}(h:(Sh.sl 0 .int).wf d)(hb:Rows.uptoBulk d<=N): ∃ l:List Int,(Sh.sl 0 .int).aG d=Go.Ab.ints l/\l.length<N:=by
 obtain⟨l,h1,h2,_⟩:=Eb (f:=T.int) (Q:=fun _=>True) (sz:=fun _=>0) (fun d h hb=>ael h hb) h hb
 exact⟨l,h1,by omega⟩
theorem Pg{d:DataW H}{N:Nat}(h:(Sh.sl 0 .str).wf d)(hb:Rows.uptoBulk d<=N): ∃ l:List Str,(Sh.sl 0 .str).aG d=strs l/\l.length<N/\ ∀ s∈l,s.length<N:=by
 obtain⟨l,h1,h2,_,h4⟩:=Eb (f:=eS) (Q:=fun s=>s.length<N) (sz:=fun _=>0) (fun d h hb=>acC h hb) h hb
 exact⟨l,h1,by omega,h4⟩
def Ph:Sh:=.st [.int,.sl 0 .int]
def xW:Sh:=.sl 3 Ph
def VR:Sh:=.st [.int,.int,.int,.int]
def VT:Sh:=.st [.int,.int,VR]
def Pj:Sh:=.st [.str,.int,.int,.int,.int,.int,.sl 0 .int,.sl 7 VT,.sl 0 .int,.sl 0 .int,.int,.int,.sl 0 .int,.int,.sl 0 .int,.sl 0 .int,.sl 0 .int,.int]
def Ec:Sh:=.st [.str,.int,.sl 0 .str,.sl 0 .str,.sl 0 .str,.int,.sl 5 VR,.sl 0 .int,.sl 0 .int,.sl 19 Pj]
theorem acD{d:DataW H}{N:Nat}(h:Ph.wf d)(hb:Rows.uptoBulk d<=N): ∃ e:Elem,Ph.aG d=iJ e/\e.counts.length<N/\0<=Rows.uptoBulk d/\1<=Rows.uptoBulk d:=by
 obtain⟨ds,rfl,d0,r0,rfl,⟨n,rfl,_⟩,d1,r1,rfl,h1,h2⟩:=h
 simp only[Sh.Nl] at h2; subst h2
 simp only[Rows.uptoBulk,Rows.uptoBulkAll] at hb ⊢
 obtain⟨l,a,b⟩:=nO (N:=N) h1 (by omega)
 refine⟨⟨n,l⟩,?_,b,by omega,by omega⟩
 simp only[Ph,Sh.aG,Sh.CB,T.cells,a,iJ]; rfl
theorem aaI{d:DataW H}{N:Nat}(h:VR.wf d)(_:Rows.uptoBulk d<=N): ∃ x:Lin,VR.aG d=Ue x/\True/\0<=Rows.uptoBulk d/\1<=Rows.uptoBulk d:=by
 obtain⟨ds,rfl,d0,r0,rfl,⟨a,rfl,_⟩,d1,r1,rfl,⟨b,rfl,_⟩,d2,r2,rfl,⟨c,rfl,_⟩,d3,r3,rfl,⟨e,rfl,_⟩,h2⟩:=h
 simp only[Sh.Nl] at h2; subst h2
 exact⟨⟨a,b,c,e⟩,rfl,trivial,Nat.zero_le _,by simp[Rows.uptoBulk]⟩
theorem aem{d:DataW H}{N:Nat}(h:VT.wf d)(hb:Rows.uptoBulk d<=N): ∃ x:zJ,VT.aG d=QE x/\True/\0<=Rows.uptoBulk d/\1<=Rows.uptoBulk d:=by
 obtain⟨ds,rfl,d0,r0,rfl,⟨a,rfl,_⟩,d1,r1,rfl,⟨b,rfl,_⟩,d2,r2,rfl,h3,h2⟩:=h
 simp only[Sh.Nl] at h2; subst h2
 simp only[Rows.uptoBulk,Rows.uptoBulkAll] at hb ⊢
 obtain⟨x,hx,_⟩:=aaI (N:=N) h3 (by omega)
 refine⟨⟨a,b,x⟩,?_,trivial,by omega,by omega⟩
 simp only[VT,Sh.aG,Sh.CB,hx]; rfl
theorem acE{d:DataW H}{N:Nat}(h:Pj.wf d)(hb:Rows.uptoBulk d<=N)(hN:N<=2^20): ∃ x:Rule,Pj.aG d=Hg x/\sJ x/\x.guards.length<=Rows.uptoBulk d/\1<=Rows.uptoBulk d:=by
 obtain⟨ds,rfl,d0,r0,rfl,w0,d1,r1,rfl,⟨a1,rfl,_⟩,d2,r2,rfl,⟨a2,rfl,_⟩,d3,r3,rfl,⟨a3,rfl,_⟩,d4,r4,rfl,⟨a4,rfl,_⟩,d5,r5,rfl,⟨a5,rfl,_⟩,d6,r6,rfl,w6,d7,r7,rfl,w7,d8,r8,rfl,w8,d9,r9,rfl,w9,d10,r10,rfl,⟨a10,rfl,_⟩,d11,r11,rfl,⟨a11,rfl,_⟩,d12,r12,rfl,w12,d13,r13,rfl,⟨a13,rfl,_⟩,d14,r14,rfl,w14,d15,r15,rfl,w15,d16,r16,rfl,w16,d17,r17,rfl,⟨a17,rfl,_⟩,h2⟩:=h
 simp only[Sh.Nl] at h2; subst h2
 simp only[Rows.uptoBulk,Rows.uptoBulkAll] at hb ⊢
 obtain⟨s,e0,_⟩:=O9 (N:=N) w0 (by omega)
 obtain⟨l6,e6,b6⟩:=nO (N:=N) w6 (by omega)
 obtain⟨l7,e7,b7,_⟩:=Eb (f:=QE) (Q:=fun _=>True) (sz:=fun _=>0) (N:=N) (fun d h hb=>aem h hb) w7 (by omega)
 obtain⟨l8,e8,b8⟩:=nO (N:=N) w8 (by omega)
 obtain⟨l9,e9,b9⟩:=nO (N:=N) w9 (by omega)
 obtain⟨l12,e12,b12⟩:=nO (N:=N) w12 (by omega)
 obtain⟨l14,e14,b14⟩:=nO (N:=N) w14 (by omega)
 obtain⟨l15,e15,b15⟩:=nO (N:=N) w15 (by omega)
 obtain⟨l16,e16,b16⟩:=nO (N:=N) w16 (by omega)
 refine⟨⟨s,a1,a2,a3,a4,a5,l6,l7,l8,l9,a10,a11,l12,a13,l14,l15,l16,a17⟩,?_,⟨by show l6.length<_; omega,by show l7.length<_; omega,by show l8.length<_; omega,by show l9.length<_; omega,by show l12.length<_; omega,by show l14.length<_; omega,by show l15.length<_; omega,by show l16.length<_; omega⟩,by show l7.length<=_; omega,by omega⟩
 simp only[Pj,Sh.aG,Sh.CB] at e0 e6 e7 e8 e9 e12 e14 e15 e16 ⊢
 simp only[e0,e6,e7,e8,e9,e12,e14,e15,e16]; rfl
theorem KN:sJ default:=⟨by decide,by decide,by decide,by decide,by decide,by decide,by decide,by decide⟩
theorem VU{d:DataW H}{N:Nat}(h:Ec.wf d)(hb:Rows.uptoBulk d<=N)(hN:N<=2^20): ∃ x:aI,Ec.aG d=Vo x/\fA x:=by
 obtain⟨ds,rfl,d0,r0,rfl,w0,d1,r1,rfl,⟨a1,rfl,_⟩,d2,r2,rfl,w2,d3,r3,rfl,w3,d4,r4,rfl,w4,d5,r5,rfl,⟨a5,rfl,_⟩,d6,r6,rfl,w6,d7,r7,rfl,w7,d8,r8,rfl,w8,d9,r9,rfl,w9,h2⟩:=h
 simp only[Sh.Nl] at h2; subst h2
 simp only[Rows.uptoBulk,Rows.uptoBulkAll] at hb
 obtain⟨s,e0,_⟩:=O9 (N:=N) w0 (by omega)
 obtain⟨l2,e2,b2,_⟩:=Pg (N:=N) w2 (by omega)
 obtain⟨l3,e3,b3,_⟩:=Pg (N:=N) w3 (by omega)
 obtain⟨l4,e4,b4,_⟩:=Pg (N:=N) w4 (by omega)
 obtain⟨l6,e6,b6,_⟩:=Eb (f:=Ue) (Q:=fun _=>True) (sz:=fun _=>0) (N:=N) (fun d h hb=>aaI h hb) w6 (by omega)
 obtain⟨l7,e7,b7⟩:=nO (N:=N) w7 (by omega)
 obtain⟨l8,e8,b8⟩:=nO (N:=N) w8 (by omega)
 obtain⟨l9,e9,b9,c9,q9⟩:=Eb (f:=Hg) (Q:=sJ) (sz:=fun r=>r.guards.length) (N:=N) (fun d h hb=>acE h hb hN) w9 (by omega)
 refine⟨⟨s,a1,l2,l3,l4,a5,l6,l7,l8,l9⟩,?_,⟨by show l2.length<_; omega,by show l3.length<_; omega,by show l4.length<_; omega,by show l6.length<_; omega,by show l7.length<_; omega,by show l8.length<_; omega,by show l9.length<_; omega,fun i=>?_,?_⟩⟩
 ·simp only[Ec,Sh.aG,Sh.CB] at e0 e2 e3 e4 e6 e7 e8 e9 ⊢
  simp only[e0,e2,e3,e4,e6,e7,e8,e9]; rfl
 ·show sJ (l9.getD i default)
  rw[List.getD_eq_getElem?_getD]
  cases hg:l9[i]? with
  |none=>exact KN
  |some x=>exact q9 x (List.mem_of_getElem? hg)
 ·show(l9.flatMap Rule.guards).length<_
  rw[List.length_flatMap]
  have:(l9.map fun a=>a.guards.length).sum<=Rows.uptoBulk d9:=c9
  omega
end
section
variable {H:Type}
def Si:Sh:=.st [.sl 0 .int,.int]
def Ed:Sh:=.st [.str,.int,.sl 0 .int,.sl 3 Si,.sl 0 .int,.sl 0 .int]
theorem aen{d:DataW H}{N:Nat}(h:Si.wf d)(hb:Rows.uptoBulk d<=N): ∃ x:Cnt,Si.aG d=Uf x/\x.states.length<N/\0<=Rows.uptoBulk d/\1<=Rows.uptoBulk d:=by
 obtain⟨ds,rfl,d0,r0,rfl,w0,d1,r1,rfl,⟨a1,rfl,_⟩,h2⟩:=h
 simp only[Sh.Nl] at h2; subst h2
 simp only[Rows.uptoBulk,Rows.uptoBulkAll] at hb ⊢
 obtain⟨l,e0,b0⟩:=nO (N:=N) w0 (by omega)
 refine⟨⟨l,a1⟩,?_,b0,by omega,by omega⟩
 simp only[Si,Sh.aG,Sh.CB] at e0 ⊢
 simp only[e0]; rfl
theorem VW{d:DataW H}{N:Nat}(h:Ed.wf d)(hb:Rows.uptoBulk d<=N)(hN:N<=2^20): ∃ x:Prop',Ed.aG d=Zm x/\jK x:=by
 obtain⟨ds,rfl,d0,r0,rfl,w0,d1,r1,rfl,⟨a1,rfl,_⟩,d2,r2,rfl,w2,d3,r3,rfl,w3,d4,r4,rfl,w4,d5,r5,rfl,w5,h2⟩:=h
 simp only[Sh.Nl] at h2; subst h2
 simp only[Rows.uptoBulk,Rows.uptoBulkAll] at hb
 obtain⟨s,e0,_⟩:=O9 (N:=N) w0 (by omega)
 obtain⟨l2,e2,b2⟩:=nO (N:=N) w2 (by omega)
 obtain⟨l3,e3,b3,_,q3⟩:=Eb (f:=Uf) (Q:=fun x=>x.states.length<N) (sz:=fun _=>0) (N:=N) (fun d h hb=>aen h hb) w3 (by omega)
 obtain⟨l4,e4,b4⟩:=nO (N:=N) w4 (by omega)
 obtain⟨l5,e5,b5⟩:=nO (N:=N) w5 (by omega)
 refine⟨⟨s,a1,l2,l3,l4,l5⟩,?_,⟨by show l2.length<_; omega,by show l3.length<_; omega,by show l4.length<_; omega,by show l5.length<_; omega,fun i=>?_⟩⟩
 ·simp only[Ed,Si,Sh.aG,Sh.CB] at e0 e2 e3 e4 e5 ⊢
  simp only[e0,e2,e3,e4,e5]; rfl
 ·show(l3.getD i default).states.length<_
  rw[List.getD_eq_getElem?_getD]
  cases hg:l3[i]? with
  |none=>show([]:List Int).length<2^30; decide
  |some x=>have:=q3 x (List.mem_of_getElem? hg); show x.states.length<2^30; omega
theorem UO{d:DataW H}(h:Sh.int.wf d): ∃ n:Int,Sh.int.aG d=T.int n/\(-9223372036854775808<=n/\n<9223372036854775808):=by
 obtain⟨n,rfl,h⟩:=h
 have h':(decide (-9223372036854775808<=n)&&decide (n<=9223372036854775807))=true:=h
 rw[Bool.and_eq_true,decide_eq_true_eq,decide_eq_true_eq] at h'
 exact⟨n,rfl,by omega,by omega⟩
theorem Sj{d:DataW H}{N:Nat}(h:xW.wf d)(hb:Rows.uptoBulk d<=N): ∃ l:List Elem,xW.aG d= .sl 3 false (l.map iJ)/\l.length<N/\ ∀ e∈l,e.counts.length<N:=by
 obtain⟨l,e,b,_,q⟩:=Eb (f:=iJ) (Q:=fun x=>x.counts.length<N) (sz:=fun _=>0) (N:=N) (fun d h hb=>acD h hb) h hb
 exact⟨l,e,by omega,q⟩
end
section
variable {H:Type}
def zI:Sh:=.st [Ec,Ed]
theorem VX{d:DataW H}{N:Nat}(h:zI.wf d)(hb:Rows.uptoBulk d<=N)(hN:N<=2^20): ∃ (p:aI) (q:Prop'),zI.aG d= .agg ((Vo p).cells++(Zm q).cells)/\fA p/\jK q:=by
 obtain⟨ds,rfl,d0,r0,rfl,w0,d1,r1,rfl,w1,h2⟩:=h
 simp only[Sh.Nl] at h2; subst h2
 simp only[Rows.uptoBulk,Rows.uptoBulkAll] at hb
 obtain⟨p,e0,b0⟩:=VU (N:=N) w0 (by omega) hN
 obtain⟨q,e1,b1⟩:=VW (N:=N) w1 (by omega) hN
 refine⟨p,q,?_,b0,b1⟩
 simp only[zI,Sh.aG,Sh.CB]; rw[e0,e1]; rfl
end
end Go.Proofs.YtkmldgihhaooaaaGreatDoor
