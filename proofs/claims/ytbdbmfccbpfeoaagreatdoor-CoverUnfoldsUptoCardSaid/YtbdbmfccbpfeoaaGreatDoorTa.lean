/-
 Arguments of the statements as plain data: what a reading of bounded bulk gives. No condition.
-/
import Derived.Test.YtbdbmfccbpfeoaaGreatDoorCards
import Derived.Test.YtbdbmfccbpfeoaaGreatDoorTie
import Derived.Test.YtbdbmfccbpfeoaaGreatDoorVa
import Derived.Test.YtbdbmfccbpfeoaaGreatDoorLg
import Derived.Test.YtbdbmfccbpfeoaaGreatDoorFa
import Derived.Test.YtbdbmfccbpfeoaaGreatDoorQf
namespace Go.Proofs.YtbdbmfccbpfeoaaGreatDoor
open Go.Ab Go.Proofs
set_option maxRecDepth 100000
section
variable {H:Type}
theorem afP{s:Sh}{α:Type}{f:α->T}{Q:α->Prop}{sz:α->Nat}{N:Nat}(hs: ∀ d:DataW H,s.wf d->Rows.uptoBulk d<=N-> ∃ a,s.aI d=f a/\Q a/\sz a<=Rows.uptoBulk d/\1<=Rows.uptoBulk d) :
  ∀ {es:List (DataW H)},(∀ x∈es,s.wf x)->Rows.uptoBulkAll es<=N-> ∃ l:List α,es.map s.aI=l.map f/\l.length<=Rows.uptoBulkAll es/\(l.map sz).sum<=Rows.uptoBulkAll es/\ ∀ a∈l,Q a:=by
 intro es;induction es with
 |nil=>intro _ _; exact⟨[],rfl,ap _,ap _,fun a h=>by cases h⟩
 |cons d r ih =>
  intro h hb;simp only[Rows.uptoBulkAll] at hb ⊢;obtain⟨l,h1,h2,h3,h4⟩:=ih (fun x hx=>h x (by simp[hx])) (by omega);obtain⟨a,g1,g2,g3,g4⟩:=hs d (h d (by simp)) (by omega);refine⟨a::l,by simp[h1,g1],by simp only[bN]; omega,by simp only[bp,fI]; omega,fun x hx=>?_⟩;rcases bm.1 hx with rfl|hx
  ·exact g2
  ·exact h4 x hx
theorem Jt{s:Sh}{k:Nat}{α:Type}{f:α->T}{Q:α->Prop}{sz:α->Nat}{N:Nat}(hs: ∀ d:DataW H,s.wf d->Rows.uptoBulk d<=N-> ∃ a,s.aI d=f a/\Q a/\sz a<=Rows.uptoBulk d/\1<=Rows.uptoBulk d)
  {d:DataW H} (h:(Sh.sl k s).wf d) (hb:Rows.uptoBulk d<=N): ∃ l:List α,(Sh.sl k s).aI d= .sl k false (l.map f)/\l.length+1<=Rows.uptoBulk d/\(l.map sz).sum<=Rows.uptoBulk d/\ ∀ a∈l,Q a:=by
 rcases h with rfl|⟨es,sp,rfl,h⟩
 ·exact⟨[],rfl,by simp[Rows.uptoBulk],ap _,fun a h=>by cases h⟩
 ·simp only[Rows.uptoBulk] at hb ⊢;obtain⟨l,h1,h2,h3,h4⟩:=afP hs h (by omega);refine⟨l,?_,by omega,by omega,h4⟩;show T.sl k false (es.map s.aI)=_;rw[h1]
theorem ahG{d:DataW H}{N:Nat}(h:Sh.int.wf d)(_:Rows.uptoBulk d<=N): ∃ n:Int,Sh.int.aI d=T.int n/\True/\0<=Rows.uptoBulk d/\1<=Rows.uptoBulk d:=by
 obtain⟨n,rfl,_⟩:=h;exact⟨n,rfl,trivial,ap _,bO _⟩
theorem Ru{d:DataW H}{N:Nat}(h:Sh.str.wf d)(_:Rows.uptoBulk d<=N): ∃ s:Str,Sh.str.aI d=eS s/\s.length+1<=Rows.uptoBulk d/\0<=Rows.uptoBulk d/\1<=Rows.uptoBulk d:=by
 obtain⟨l,rfl⟩:=h;exact⟨l,rfl,bO _,ap _,Nat.succ_le_succ (ap _)⟩
theorem afQ{d:DataW H}{N:Nat}(h:Sh.str.wf d)(hb:Rows.uptoBulk d<=N): ∃ s:Str,Sh.str.aI d=eS s/\s.length<N/\0<=Rows.uptoBulk d/\1<=Rows.uptoBulk d:=by
 obtain⟨s,h1,h2,h3,h4⟩:=Ru h hb;exact⟨s,h1,by omega,h3,h4⟩
theorem kG{d:DataW H}{N:Nat}(h:(Sh.sl 0 .int).wf d)(hb:Rows.uptoBulk d<=N): ∃ l:List Int,(Sh.sl 0 .int).aI d=Go.Ab.ints l/\l.length<N:=by
 obtain⟨l,h1,h2,_⟩:=Jt (f:=T.int) (Q:=fun _=>True) (sz:=fun _=>0) (fun d h hb=>ahG h hb) h hb;exact⟨l,h1,by omega⟩
theorem Rx{d:DataW H}{N:Nat}(h:(Sh.sl 0 .str).wf d)(hb:Rows.uptoBulk d<=N): ∃ l:List Str,(Sh.sl 0 .str).aI d=strs l/\l.length<N/\ ∀ s∈l,s.length<N:=by
 obtain⟨l,h1,h2,_,h4⟩:=Jt (f:=eS) (Q:=fun s=>s.length<N) (sz:=fun _=>0) (fun d h hb=>afQ h hb) h hb;exact⟨l,h1,by omega,h4⟩
def Xp:Sh:=.st [.int,.sl 0 .int]
def YF:Sh:=.st [.int,.int,.int,.int]
def YG:Sh:=.st [.int,.int,YF]
def Ry:Sh:=.st [.str,.int,.int,.int,.int,.int,.sl 0 .int,.sl 7 YG,.sl 0 .int,.sl 0 .int,.int,.int,.sl 0 .int,.int,.sl 0 .int,.sl 0 .int,.sl 0 .int,.int]
def Ju:Sh:=.st [.str,.int,.sl 0 .str,.sl 0 .str,.sl 0 .str,.int,.sl 5 YF,.sl 0 .int,.sl 0 .int,.sl 19 Ry]
theorem ai3{d:DataW H}{N:Nat}(h:Xp.wf d)(hb:Rows.uptoBulk d<=N): ∃ e:Elem,Xp.aI d=fG e/\e.counts.length<N/\0<=Rows.uptoBulk d/\1<=Rows.uptoBulk d:=by
 obtain⟨ds,rfl,d0,r0,rfl,⟨n,rfl,_⟩,d1,r1,rfl,h1,h2⟩:=h;simp only[Sh.Vm] at h2; subst h2;simp only[Rows.uptoBulk,Rows.uptoBulkAll] at hb ⊢;obtain⟨l,a,b⟩:=kG (N:=N) h1 (by omega);refine⟨⟨n,l⟩,?_,b,by omega,by omega⟩;simp only[Xp,Sh.aI,Sh.EM,T.cells,a,fG]; rfl
theorem adG{d:DataW H}{N:Nat}(h:YF.wf d)(_:Rows.uptoBulk d<=N): ∃ x:Lin,YF.aI d=Om x/\True/\0<=Rows.uptoBulk d/\1<=Rows.uptoBulk d:=by
 obtain⟨ds,rfl,d0,r0,rfl,⟨a,rfl,_⟩,d1,r1,rfl,⟨b,rfl,_⟩,d2,r2,rfl,⟨c,rfl,_⟩,d3,r3,rfl,⟨e,rfl,_⟩,h2⟩:=h;simp only[Sh.Vm] at h2; subst h2;exact⟨⟨a,b,c,e⟩,rfl,trivial,ap _,by simp[Rows.uptoBulk]⟩
theorem ahH{d:DataW H}{N:Nat}(h:YG.wf d)(hb:Rows.uptoBulk d<=N): ∃ x:BA,YG.aI d=Oo x/\True/\0<=Rows.uptoBulk d/\1<=Rows.uptoBulk d:=by
 obtain⟨ds,rfl,d0,r0,rfl,⟨a,rfl,_⟩,d1,r1,rfl,⟨b,rfl,_⟩,d2,r2,rfl,h3,h2⟩:=h;simp only[Sh.Vm] at h2; subst h2;simp only[Rows.uptoBulk,Rows.uptoBulkAll] at hb ⊢;obtain⟨x,hx,_⟩:=adG (N:=N) h3 (by omega);refine⟨⟨a,b,x⟩,?_,trivial,by omega,by omega⟩;simp only[YG,Sh.aI,Sh.EM,hx]; rfl
theorem afR{d:DataW H}{N:Nat}(h:Ry.wf d)(hb:Rows.uptoBulk d<=N)(hN:N<=2^20): ∃ x:Rule,Ry.aI d=Hl x/\sN x/\x.guards.length<=Rows.uptoBulk d/\1<=Rows.uptoBulk d:=by
 obtain⟨ds,rfl,d0,r0,rfl,w0,d1,r1,rfl,⟨a1,rfl,_⟩,d2,r2,rfl,⟨a2,rfl,_⟩,d3,r3,rfl,⟨a3,rfl,_⟩,d4,r4,rfl,⟨a4,rfl,_⟩,d5,r5,rfl,⟨a5,rfl,_⟩,d6,r6,rfl,w6,d7,r7,rfl,w7,d8,r8,rfl,w8,d9,r9,rfl,w9,d10,r10,rfl,⟨a10,rfl,_⟩,d11,r11,rfl,⟨a11,rfl,_⟩,d12,r12,rfl,w12,d13,r13,rfl,⟨a13,rfl,_⟩,d14,r14,rfl,w14,d15,r15,rfl,w15,d16,r16,rfl,w16,d17,r17,rfl,⟨a17,rfl,_⟩,h2⟩:=h;simp only[Sh.Vm] at h2; subst h2;simp only[Rows.uptoBulk,Rows.uptoBulkAll] at hb ⊢;obtain⟨s,e0,_⟩:=Ru (N:=N) w0 (by omega);obtain⟨l6,e6,b6⟩:=kG (N:=N) w6 (by omega);obtain⟨l7,e7,b7,_⟩:=Jt (f:=Oo) (Q:=fun _=>True) (sz:=fun _=>0) (N:=N) (fun d h hb=>ahH h hb) w7 (by omega);obtain⟨l8,e8,b8⟩:=kG (N:=N) w8 (by omega);obtain⟨l9,e9,b9⟩:=kG (N:=N) w9 (by omega);obtain⟨l12,e12,b12⟩:=kG (N:=N) w12 (by omega);obtain⟨l14,e14,b14⟩:=kG (N:=N) w14 (by omega);obtain⟨l15,e15,b15⟩:=kG (N:=N) w15 (by omega);obtain⟨l16,e16,b16⟩:=kG (N:=N) w16 (by omega);refine⟨⟨s,a1,a2,a3,a4,a5,l6,l7,l8,l9,a10,a11,l12,a13,l14,l15,l16,a17⟩,?_,⟨by show l6.length<_; omega,by show l7.length<_; omega,by show l8.length<_; omega,by show l9.length<_; omega,by show l12.length<_; omega,by show l14.length<_; omega,by show l15.length<_; omega,by show l16.length<_; omega⟩,by show l7.length<=_; omega,by omega⟩;simp only[Ry,Sh.aI,Sh.EM] at e0 e6 e7 e8 e9 e12 e14 e15 e16 ⊢;simp only[e0,e6,e7,e8,e9,e12,e14,e15,e16]; rfl
theorem N8:sN default:=⟨by decide,by decide,by decide,by decide,by decide,by decide,by decide,by decide⟩
theorem afS{d:DataW H}{N:Nat}(h:Ju.wf d)(hb:Rows.uptoBulk d<=N)(hN:N<=2^20): ∃ x:aB,Ju.aI d=XM x/\dJ x:=by
 obtain⟨ds,rfl,d0,r0,rfl,w0,d1,r1,rfl,⟨a1,rfl,_⟩,d2,r2,rfl,w2,d3,r3,rfl,w3,d4,r4,rfl,w4,d5,r5,rfl,⟨a5,rfl,_⟩,d6,r6,rfl,w6,d7,r7,rfl,w7,d8,r8,rfl,w8,d9,r9,rfl,w9,h2⟩:=h;simp only[Sh.Vm] at h2; subst h2;simp only[Rows.uptoBulk,Rows.uptoBulkAll] at hb;obtain⟨s,e0,_⟩:=Ru (N:=N) w0 (by omega);obtain⟨l2,e2,b2,_⟩:=Rx (N:=N) w2 (by omega);obtain⟨l3,e3,b3,_⟩:=Rx (N:=N) w3 (by omega);obtain⟨l4,e4,b4,_⟩:=Rx (N:=N) w4 (by omega);obtain⟨l6,e6,b6,_⟩:=Jt (f:=Om) (Q:=fun _=>True) (sz:=fun _=>0) (N:=N) (fun d h hb=>adG h hb) w6 (by omega);obtain⟨l7,e7,b7⟩:=kG (N:=N) w7 (by omega);obtain⟨l8,e8,b8⟩:=kG (N:=N) w8 (by omega);obtain⟨l9,e9,b9,c9,q9⟩:=Jt (f:=Hl) (Q:=sN) (sz:=fun r=>r.guards.length) (N:=N) (fun d h hb=>afR h hb hN) w9 (by omega);refine⟨⟨s,a1,l2,l3,l4,a5,l6,l7,l8,l9⟩,?_,⟨by show l2.length<_; omega,by show l3.length<_; omega,by show l4.length<_; omega,by show l6.length<_; omega,by show l7.length<_; omega,by show l8.length<_; omega,by show l9.length<_; omega,fun i=>?_,?_⟩⟩
 ·simp only[Ju,Sh.aI,Sh.EM] at e0 e2 e3 e4 e6 e7 e8 e9 ⊢;simp only[e0,e2,e3,e4,e6,e7,e8,e9]; rfl
 ·show sN (l9.getD i default);rw[ag];cases hg:l9[i]? with
  |none=>exact N8
  |some x=>exact q9 x (cm hg)
 ·show(l9.flatMap Rule.guards).length<_;rw[List.length_flatMap]
  have:(l9.map fun a=>a.guards.length).sum<=Rows.uptoBulk d9:=c9
  omega
end
section
variable {H:Type}
def U8:Sh:=.st [.sl 0 .int,.int]
def Xq:Sh:=.st [.str,.int,.sl 0 .int,.sl 3 U8,.sl 0 .int,.sl 0 .int]
theorem ahI{d:DataW H}{N:Nat}(h:U8.wf d)(hb:Rows.uptoBulk d<=N): ∃ x:Cnt,U8.aI d=Oq x/\x.states.length<N/\0<=Rows.uptoBulk d/\1<=Rows.uptoBulk d:=by
 obtain⟨ds,rfl,d0,r0,rfl,w0,d1,r1,rfl,⟨a1,rfl,_⟩,h2⟩:=h;simp only[Sh.Vm] at h2; subst h2;simp only[Rows.uptoBulk,Rows.uptoBulkAll] at hb ⊢;obtain⟨l,e0,b0⟩:=kG (N:=N) w0 (by omega);refine⟨⟨l,a1⟩,?_,b0,by omega,by omega⟩;simp only[U8,Sh.aI,Sh.EM] at e0 ⊢;simp only[e0]; rfl
theorem ai4{d:DataW H}{N:Nat}(h:Xq.wf d)(hb:Rows.uptoBulk d<=N)(hN:N<=2^20): ∃ x:Prop',Xq.aI d=abL x/\uN x:=by
 obtain⟨ds,rfl,d0,r0,rfl,w0,d1,r1,rfl,⟨a1,rfl,_⟩,d2,r2,rfl,w2,d3,r3,rfl,w3,d4,r4,rfl,w4,d5,r5,rfl,w5,h2⟩:=h;simp only[Sh.Vm] at h2; subst h2;simp only[Rows.uptoBulk,Rows.uptoBulkAll] at hb;obtain⟨s,e0,_⟩:=Ru (N:=N) w0 (by omega);obtain⟨l2,e2,b2⟩:=kG (N:=N) w2 (by omega);obtain⟨l3,e3,b3,_,q3⟩:=Jt (f:=Oq) (Q:=fun x=>x.states.length<N) (sz:=fun _=>0) (N:=N) (fun d h hb=>ahI h hb) w3 (by omega);obtain⟨l4,e4,b4⟩:=kG (N:=N) w4 (by omega);obtain⟨l5,e5,b5⟩:=kG (N:=N) w5 (by omega);refine⟨⟨s,a1,l2,l3,l4,l5⟩,?_,⟨by show l2.length<_; omega,by show l3.length<_; omega,by show l4.length<_; omega,by show l5.length<_; omega,fun i=>?_⟩⟩
 ·simp only[Xq,U8,Sh.aI,Sh.EM] at e0 e2 e3 e4 e5 ⊢;simp only[e0,e2,e3,e4,e5]; rfl
 ·show(l3.getD i default).states.length<_;rw[ag];cases hg:l3[i]? with
  |none=>show([]:List Int).length<2^30; decide
  |some x=>have:=q3 x (cm hg); show x.states.length<2^30; omega
theorem ajI{d:DataW H}(h:Sh.int.wf d): ∃ n:Int,Sh.int.aI d=T.int n/\(-9223372036854775808<=n/\n<9223372036854775808):=by
 obtain⟨n,rfl,h⟩:=h;have h':(decide (-9223372036854775808<=n)&&decide (n<=9223372036854775807))=true:=h;rw[aD,ab,ab] at h';exact⟨n,rfl,by omega,by omega⟩
end
section
variable {H:Type}
end
section
variable {H:Type}
def Qc:Sh:=.st [.sl 0 .int,.sl 0 .int,.int,.sl 0 .int,.sl 0 .int,.int]
theorem ahJ{d:DataW H}{N:Nat}(h:Qc.wf d)(hb:Rows.uptoBulk d<=N)(hN:N<=2^20): ∃ c:nD,Qc.aI d=(AB c).aI/\nV c:=by
 obtain⟨ds,rfl,d0,r0,rfl,w0,d1,r1,rfl,w1,d2,r2,rfl,⟨a2,rfl,_⟩,d3,r3,rfl,w3,d4,r4,rfl,w4,d5,r5,rfl,⟨a5,rfl,_⟩,h2⟩:=h;simp only[Sh.Vm] at h2; subst h2;simp only[Rows.uptoBulk,Rows.uptoBulkAll] at hb;obtain⟨l0,e0,b0⟩:=kG (N:=N) w0 (by omega);obtain⟨l1,e1,b1⟩:=kG (N:=N) w1 (by omega);obtain⟨l3,e3,b3⟩:=kG (N:=N) w3 (by omega);obtain⟨l4,e4,b4⟩:=kG (N:=N) w4 (by omega);refine⟨⟨l0,l1,a2,l3,l4,a5⟩,?_,⟨by show l0.length<_; omega,by show l1.length<_; omega,by show l3.length<_; omega,by show l4.length<_; omega⟩⟩;simp only[Qc,Sh.aI,Sh.EM] at e0 e1 e3 e4 ⊢;simp only[e0,e1,e3,e4]; rfl
end
end Go.Proofs.YtbdbmfccbpfeoaaGreatDoor
