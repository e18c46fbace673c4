/-
 What the evaluator knows without running: contracts of small functions. No condition.
-/
import Derived.KernelRfl
import Derived.Test.YtkomllaebngbfaaGreatDoorKa
import Derived.Test.YtkomllaebngbfaaGreatDoorNb
import Derived.Test.YtkomllaebngbfaaGreatDoorSc
import Derived.Test.YtkomllaebngbfaaGreatDoorLg
namespace Go.Ab
section
variable {P:Program}
theorem abL{l:List T}(h:T.aY l=true)(M:Nat->Prop):T.aI M l:=T.ay (fun _ h=>h.elim) _ (dw h)
theorem rC.at{f:FuncId}{ts ts':List T}{t:Nat->T}{o:Option Ob}(H:rC P f ts t o)(hs:T.dJ (fun _=>False) no ts ts')(hf:T.aY ts'=true):rC P f ts' t o :=
 ⟨hf,H.ids,H.ob,H.nm,fun n=>(H.call n).sub hs (fun M _=>abL H.free M)⟩
def intsOf:List T->Option (List Int)
 |[]=>some []
 | .lit (.int .i64 n)::r=>match intsOf r with|some l=>some (n::l)|none=>none
 |_=>none
def eOf:T->Option Elem
 | .agg [.lit (.int .i64 v),.sl 0 _ l]=>match intsOf l with|some c=>bif Nat.blt c.length 536870912 then some ⟨v,c⟩ else none|none=>none
 |_=>none
def agi:List T->Option (List Elem)
 |[]=>some []
 |t::r=>match eOf t,agi r with|some e,some l=>some (e::l)|_,_=>none
theorem Xf: ∀ {l:List T} {c:List Int},intsOf l=some c->l=c.map T.int:=by
 intro l
 induction l with
 |nil=>intro c h; cases h; rfl
 |cons t r ih =>
  intro c h
  unfold intsOf at h
  split at h
  ·rename_i e; cases e
  ·rename_i n r' e
   cases e
   split at h
   ·rename_i l' hl
    cases h
    rw[ih hl]; rfl
   ·cases h
  ·cases h
theorem J8{t:T}{e:Elem}(h:eOf t=some e):(∃ f,t= .agg [.int e.value,.sl 0 f (e.counts.map T.int)])/\e.counts.length<2^29:=by
 unfold eOf at h
 split at h
 ·rename_i v f l
  split at h
  ·rename_i c hc
   cases hb:Nat.blt c.length 536870912 with
   |false=>rw[hb] at h; cases h
   |true =>
    rw[hb] at h; cases h
    exact⟨⟨f,by rw[Xf hc]⟩,Nat.blt_eq.mp hb⟩
  ·cases h
 ·cases h
theorem J9{t:T}{e:Elem}(h:eOf t=some e):t.free=true:=by
 obtain⟨⟨f,rfl⟩,_⟩:=J8 h; rfl
theorem OA{t:T}{e:Elem}(h:eOf t=some e)(Z:Nat->Prop)(hp:Hp):T.sub Z hp (fH e) t:=by
 obtain⟨⟨f,rfl⟩,_⟩:=J8 h
 simp only[fH,Go.Ab.ints,T.sub,T.dJ]
 exact⟨trivial,⟨.inl trivial,.inl trivial,fun h=>by cases h⟩,trivial⟩
end
end Go.Ab
namespace Go.Proofs.YtkomllaebngbfaaGreatDoor
open Go.Ab Go.Proofs
set_option maxRecDepth 100000
def Uc:List T->Option T
 |[t]=>match eOf t with|some e=>some (.int (oN e))|none=>none
 |_=>none
def ad7:List T->Option T
 |[s,t]=>match eOf s,eOf t with|some a,some b=>some (.int (jh a b))|_,_=>none
 |_=>none
def ZP:List T->Option T
 |[.lit (.string b)]=>some (.bool (nmB b&& !(o7.any fun x=>b.data.toList==x)))
 |_=>none
def ZQ(n:Nat):List T->Option (T×Option Ob)
 |[.sl 0 true [],.lit (.int .i64 (.ofNat m))]=>bif Nat.blt 0 m&&Nat.blt m 1000000 then some (.own n,some ⟨9,0,[]⟩) else none
 |_=>none
def QV:Option T->Option (T×Option Ob)
 |some t=>some (t,none)
 |none=>none
def Ud(n:Nat)(f:FuncId)(ts:List T):Option (T×Option Ob) :=
 bif Nat.beq f 97 then QV (Uc ts) else
 bif Nat.beq f 100 then QV (ad7 ts) else
 bif Nat.beq f 149 then QV (ZP ts) else
 bif Nat.beq f 202 then ZQ n ts else none
def OB(f:FuncId)(g:List T->Option T):Prop:= ∀ ts t,g ts=some t->t.free=true/\oH Tryz.prog f ts t
theorem Xg:OB 97 Uc:=by
 intro ts t h
 unfold Uc at h
 split at h
 ·rename_i u
  split at h
  ·rename_i e he
   cases h
   exact⟨rfl,(S.jP e (by have:=(J8 he).2; omega)).at (And.intro (OA he _ _) trivial) (by simp[T.aY,J9 he])⟩
  ·cases h
 ·cases h
theorem abM:OB 100 ad7:=by
 intro ts t h
 unfold ad7 at h
 split at h
 ·split at h
  ·rename_i a b ha hb
   cases h
   exact⟨rfl,(S.gy a b (by have:=(J8 ha).2; omega) (by have:=(J8 hb).2; omega)).at (And.intro (OA ha _ _) (And.intro (OA hb _ _) trivial)) (by simp[T.aY,J9 ha,J9 hb])⟩
  ·cases h
 ·cases h
theorem ZR:OB 149 ZP:=by
 intro ts t h
 unfold ZP at h
 split at h
 ·rename_i b
  cases h
  refine⟨rfl,?_⟩
  exact S.J7 b _ (S.eU b.data.toList)
 ·cases h
theorem ZT{n:Nat}{ts:List T}{t:T}{o:Option Ob}(h:ZQ n ts=some (t,o)): ∃ tf,tf n=t/\rC Tryz.prog 202 ts tf o/\(o=none->t.free=true):=by
 unfold ZQ at h
 split at h
 ·rename_i m
  cases hb:(Nat.blt 0 m&&Nat.blt m 1000000) with
  |false=>rw[hb] at h; cases h
  |true =>
   rw[hb] at h; cases h
   rw[Bool.and_eq_true] at hb
   refine⟨fun n=>.own n,rfl,S.Grow m (Nat.blt_eq.mp hb.1) (by have:=Nat.blt_eq.mp hb.2; omega),fun h=>by cases h⟩
 ·cases h
theorem EZ:U2 Tryz.prog Ud:=by
 intro n f ts t o h
 have pure: ∀ {k:FuncId} {g:List T->Option T},OB k g->f=k->QV (g ts)=some (t,o)-> ∃ tf:Nat->T,tf n=t/\rC Tryz.prog f ts tf o/\(o=none->t.free=true):=by
  intro k g hg e h
  subst e
  unfold QV at h
  split at h
  ·rename_i u hu
   cases h
   obtain⟨a,b⟩:=hg ts t hu
   exact⟨fun _=>t,rfl,b,fun _=>a⟩
  ·cases h
 unfold Ud at h
 cases h1:Nat.beq f 97 with
 |true=>rw[h1] at h; exact pure Xg (Nat.eq_of_beq_eq_true h1) h
 |false =>
 rw[h1] at h
 cases h3:Nat.beq f 100 with
 |true=>rw[h3] at h; exact pure abM (Nat.eq_of_beq_eq_true h3) h
 |false =>
 rw[h3] at h
 cases h5:Nat.beq f 149 with
 |true=>rw[h5] at h; exact pure ZR (Nat.eq_of_beq_eq_true h5) h
 |false =>
 rw[h5] at h
 cases h6:Nat.beq f 202 with
 |true =>
  rw[h6] at h
  have:=Nat.eq_of_beq_eq_true h6; subst this
  exact ZT h
 |false=>rw[h6] at h; cases h
def wrs(f:Nat):Bool:=xJ f [119,160,161,176,192,127,129,128,164,131]
def K5:Know:=⟨Xh,Ud,fun _ _ _ _=>none,wrs,10000⟩
theorem E5:KOk Tryz.prog K5:=⟨E8,EZ,fun n f ts h t h' e=>by cases e⟩
end Go.Proofs.YtkomllaebngbfaaGreatDoor
namespace Go.Ab
def ad8(a b:ByteArray):Bool:=a.data.toList==b.data.toList
mutual
def T.eqv:T->T->Bool
 | .lit (.int .i64 a),.lit (.int .i64 b)=>iEq a b
 | .lit (.bool a),.lit (.bool b)=>a==b
 | .lit (.string a),.lit (.string b)=>ad8 a b
 | .agg a,.agg b=>T.OC a b
 | .sl k f a,.sl k' f' b=>Nat.beq k k'&&(f==f')&&T.OC a b
 |_,_=>false
def T.OC:List T->List T->Bool
 |[],[]=>true
 |a::l,b::r=>T.eqv a b&&T.OC l r
 |_,_=>false
end
theorem abN{a b:ByteArray}(h:ad8 a b=true):a=b:=by
 have:a.data.toList=b.data.toList:=by simpa [ad8] using h
 exact ByteArray.ext (Array.ext' this)
theorem ad9{a b:Int}(h:iEq a b=true):a=b:=by
 cases a<;>cases b<;>simp[iEq] at h<;>rw[h]
mutual
theorem T.aea:(a b:T)->T.eqv a b=true->a=b:=fun a b h=>by
 unfold T.eqv at h
 split at h
 ·rw[ad9 h]
 ·rw[show _=_ from eq_of_beq h]
 ·rw[abN h]
 ·rename_i l r; rw[T.Iu l r h]
 ·rename_i k f l k' f' r
  simp only[Bool.and_eq_true] at h
  rw[Nat.eq_of_beq_eq_true h.1.1,eq_of_beq h.1.2,T.Iu l r h.2]
 ·cases h
theorem T.Iu:(a b:List T)->T.OC a b=true->a=b
 |[],[],_=>rfl
 |a::l,b::r,h=>by
  simp only[T.OC,Bool.and_eq_true] at h
  rw[T.aea a b h.1,T.Iu l r h.2]
 |[],_::_,h=>by simp[T.OC] at h
 |_::_,[],h=>by simp[T.OC] at h
end
structure Mm where
 f:FuncId
 ts:List T
 t:T
 o:Option (TypeId×Nat×List T)
def Mm.tf(e:Mm)(n:Nat):T:=match e.o with|none=>e.t|some _=>.own n
def Mm.ob(e:Mm):Option Ob:=match e.o with|none=>none|some (a,k,l)=>some ⟨a,k,l⟩
def abO:List Mm->Nat->FuncId->List T->Option (T×Option Ob)
 |[],_,_,_=>none
 |e::r,n,f,ts=>bif Nat.beq f e.f&&T.OC ts e.ts then some (e.tf n,e.ob) else abO r n f ts
def MV(l:List Mm)(UW:Nat->FuncId->List T->Option (T×Option Ob))(n:Nat)(f:FuncId)(ts:List T):Option (T×Option Ob) :=
 match abO l n f ts with
 |some r=>some r
 |none=>UW n f ts
def Mm.ok(P:Program)(e:Mm):Prop:=rC P e.f e.ts e.tf e.ob/\(e.ob=none->e.t.free=true)
theorem E9{P:Program}{l:List Mm}{UW:Nat->FuncId->List T->Option (T×Option Ob)}(O:U2 P UW)(H: ∀ e∈l,Mm.ok P e):U2 P (MV l UW):=by
 intro n f ts t o h
 unfold MV at h
 cases hm:abO l n f ts with
 |none=>rw[hm] at h; exact O n f ts t o h
 |some r =>
  rw[hm] at h; cases h
  induction l with
  |nil=>cases hm
  |cons e r ih =>
   simp only[abO] at hm
   cases hb:(Nat.beq f e.f&&T.OC ts e.ts) with
   |false=>rw[hb] at hm; exact ih (fun e he=>H e (by simp[he])) hm
   |true =>
    rw[hb] at hm; cases hm
    rw[Bool.and_eq_true] at hb
    have h1:=Nat.eq_of_beq_eq_true hb.1
    have h2:=T.Iu _ _ hb.2
    subst h1 h2
    obtain⟨a,b⟩:=H e (by simp)
    refine⟨e.tf,rfl,a,fun ho=>?_⟩
    have:=b ho
    unfold Mm.ob at ho
    unfold Mm.tf
    cases he:e.o with
    |none=>exact this
    |some p=>rw[he] at ho; cases ho
theorem oH.afr{P:Program}{f:FuncId}{ts:List T}{tf:Nat->T}{n:Nat}{t:T}(H:rC P f ts tf none)(e:tf n=t)(ht:t.free=true):oH P f ts t:=by
 refine⟨H.free,fun _=>T.aZ (fun _ h=>h.elim) _ (eu ht),(fun _ h=>by cases h),(fun _ h=>by cases h),fun k=>?_⟩
 obtain⟨_,hcl,hcall⟩:=H.call n
 refine⟨⟨_,_,rfl,rfl⟩,hcl,fun F M E vs hk he hts hid hm hn=>(hcall F (fun _=>False) E vs hk he hts (dw H.free) (tY _) (fun h=>h)).mono ?_⟩
 rintro e' w' ⟨v,t'',E',rfl,rfl,⟨rfl,hh⟩,hv,hk',hext,hS,_,_⟩
 subst e
 have hno:E'.h=no:=hh
 refine⟨v,tf n,E',rfl,rfl,⟨rfl,hh⟩,hv,hk',hext,fun i _ hi=>?_,T.aZ (fun _ h=>h.elim) _ (eu ht),?_⟩
 ·rw[hno] at hi; cases hi
 ·rw[hno]; exact tY _
theorem Mm.of{P:Program}{K:Know}(KO:KOk P K){d:Nat}{e:Mm}(hts:T.aY e.ts=true)(h: ∀ n,yP K (yf K d) false n e.f e.ts=some (e.tf n,e.ob)):Mm.ok P e:=by
 have key: ∀ n,∃ tf,tf n=e.tf n/\rC P e.f e.ts tf e.ob/\(e.ob=none->(e.tf n).free=true)/\(false=true->e.ob=none):=fun n=>by
  have:=h n
  rw[ZL,acy] at this
  exact Ij KO (acr KO d) hts this
 have A: ∀ n,rC P e.f e.ts (key n).choose e.ob:=fun n=>(key n).choose_spec.2.1
 have E: ∀ n,(key n).choose n=e.tf n:=fun n=>(key n).choose_spec.1
 refine⟨⟨hts,fun n=>?_,(A 0).ob,(A 0).nm,fun n=>?_⟩,fun ho=>?_⟩
 ·rw[<- E n]; exact(A n).ids n
 ·have:=(A n).call n
  rw[E n] at this; exact this
 ·have:=(key 0).choose_spec.2.2.1 ho
  unfold Mm.ob at ho
  unfold Mm.tf at this
  cases he:e.o with
  |none=>rw[he] at this; exact this
  |some p=>rw[he] at ho; cases ho
end Go.Ab
namespace Go.Proofs.YtkomllaebngbfaaGreatDoor
open Go.Ab Go.Proofs
set_option maxRecDepth 100000
def Ue:T:=.agg [.lit (.string ⟨#[103,111]⟩),.int 1,.int 0,.int 1,.int 0,.int 0,.sl 0 true [],.sl 0 true [],.sl 0 true [],.sl 0 true [],.int (-1),.int (-1),.sl 0 true [],.int 0,.sl 0 true [],.sl 0 true [],.sl 0 true [],.int 0]
def flT:T:=.agg [.lit (.string ⟨#[102,97,108,108]⟩),.int 1,.sl 0 true [.lit (.string ⟨#[97]⟩),.lit (.string ⟨#[98]⟩)],.sl 0 true [],.sl 0 true [],.int 0,.sl 0 true [],.sl 0 true [.int 0],.sl 0 true [],.sl 19 false [Ue]]
def fnT:T:=.agg [.lit (.string ⟨#[100,111,110,101]⟩),.int 2,.sl 0 true [],.sl 0 true [],.sl 0 true [],.sl 0 true [.int 1]]
def DU(a b:Int):T:=.agg [.int 0,.sl 0 false [.int a,.int b]]
def G6(a b:Int)(l:List T):Mm:=⟨82,[Ue,DU a b],.sl 3 false l,none⟩
def OD(a b:Int)(l:List T):Mm:=⟨82,[Ue,DU a b],.any,some (50,3,l)⟩
def L1:List Mm:=[⟨50,[flT,fnT],.int 0,none⟩,⟨95,[flT],.int 0,none⟩,⟨75,[flT,fnT],.any,some (50,3,[DU 1 0,DU 2 0])⟩,
 OD 1 0 [DU 0 1],OD 1 1 [DU 0 2],G6 1 2 [DU 0 2],G6 2 0 [DU 1 1,DU 2 1],G6 2 1 [DU 1 2,DU 2 2],G6 2 2 [DU 1 2,DU 2 2]]
theorem r1:Mm.ok Tryz.prog ⟨50,[flT,fnT],.int 0,none⟩:=Mm.of (d:=38) E5 (by kernel_rfl) fun n=>by kernel_rfl
theorem r2:Mm.ok Tryz.prog ⟨95,[flT],.int 0,none⟩:=Mm.of (d:=38) E5 (by kernel_rfl) fun n=>by kernel_rfl
theorem r3:Mm.ok Tryz.prog ⟨75,[flT,fnT],.any,some (50,3,[DU 1 0,DU 2 0])⟩:=Mm.of (d:=38) E5 (by kernel_rfl) fun n=>by kernel_rfl
theorem p10:Mm.ok Tryz.prog (OD 1 0 [DU 0 1]):=Mm.of (d:=38) E5 (by kernel_rfl) fun n=>by kernel_rfl
theorem p11:Mm.ok Tryz.prog (OD 1 1 [DU 0 2]):=Mm.of (d:=38) E5 (by kernel_rfl) fun n=>by kernel_rfl
theorem p12:Mm.ok Tryz.prog (G6 1 2 [DU 0 2]):=Mm.of (d:=38) E5 (by kernel_rfl) fun n=>by kernel_rfl
theorem p20:Mm.ok Tryz.prog (G6 2 0 [DU 1 1,DU 2 1]):=Mm.of (d:=38) E5 (by kernel_rfl) fun n=>by kernel_rfl
theorem p21:Mm.ok Tryz.prog (G6 2 1 [DU 1 2,DU 2 2]):=Mm.of (d:=38) E5 (by kernel_rfl) fun n=>by kernel_rfl
theorem p22:Mm.ok Tryz.prog (G6 2 2 [DU 1 2,DU 2 2]):=Mm.of (d:=38) E5 (by kernel_rfl) fun n=>by kernel_rfl
theorem acz: ∀ e∈L1,Mm.ok Tryz.prog e:=by
 intro e he
 simp only[L1,List.mem_cons,List.not_mem_nil,or_false] at he
 rcases he with rfl|rfl|rfl|rfl|rfl|rfl|rfl|rfl|rfl
 ·exact r1
 ·exact r2
 ·exact r3
 ·exact p10
 ·exact p11
 ·exact p12
 ·exact p20
 ·exact p21
 ·exact p22
def K6:Know:=⟨Xh,MV L1 Ud,fun _ _ _ _=>none,wrs,10000⟩
theorem afs:KOk Tryz.prog K6:=⟨E8,E9 EZ acz,fun n f ts h t h' e=>by cases e⟩
end Go.Proofs.YtkomllaebngbfaaGreatDoor
