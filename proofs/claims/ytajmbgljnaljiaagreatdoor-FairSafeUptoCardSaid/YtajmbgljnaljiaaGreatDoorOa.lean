/-
 What the evaluator knows without running: contracts of small functions. No condition.
-/
import Derived.KernelRfl
import Derived.Test.YtajmbgljnaljiaaGreatDoorKa
import Derived.Test.YtajmbgljnaljiaaGreatDoorNb
import Derived.Test.YtajmbgljnaljiaaGreatDoorSc
import Derived.Test.YtajmbgljnaljiaaGreatDoorLg
namespace Go.Ab
section
variable {P:Program}
theorem acz{l:List T}(h:T.bC l=true)(M:Nat->Prop):T.aJ M l:=T.aA (fun _ h=>h.elim) _ (dB h)
theorem qY.at{f:FuncId}{ts ts':List T}{t:Nat->T}{o:Option Ob}(H:qY P f ts t o)(hs:T.dM (fun _=>False) no ts ts')(hf:T.bC ts'=true):qY P f ts' t o :=
 ⟨hf,H.ids,H.ob,H.nm,fun n=>(H.call n).sub hs (fun M _=>acz H.free M)⟩
def intsOf:List T->Option (List Int)
 |[]=>some []
 | .lit (.int .i64 n)::r=>match intsOf r with|some l=>some (n::l)|none=>none
 |_=>none
def eOf:T->Option Elem
 | .agg [.lit (.int .i64 v),.sl 0 _ l]=>match intsOf l with|some c=>bif Nat.blt c.length 536870912 then some ⟨v,c⟩ else none|none=>none
 |_=>none
def agY:List T->Option (List Elem)
 |[]=>some []
 |t::r=>match eOf t,agY r with|some e,some l=>some (e::l)|_,_=>none
theorem Xp: ∀ {l:List T} {c:List Int},intsOf l=some c->l=c.map T.int:=by
 intro l
 induction l with
 |nil=>intro c h; cases h; rfl
 |cons t r ih =>
  intro c h
  unfold intsOf at h
  split at h
  ·rename_i e; cases e
  ·rename_i n r' e
   cases e
   split at h
   ·rename_i l' hl
    cases h
    rw[ih hl]; rfl
   ·cases h
  ·cases h
theorem JO{t:T}{e:Elem}(h:eOf t=some e):(∃ f,t= .agg [.int e.value,.sl 0 f (e.counts.map T.int)])/\e.counts.length<2^29:=by
 unfold eOf at h
 split at h
 ·rename_i v f l
  split at h
  ·rename_i c hc
   cases hb:Nat.blt c.length 536870912 with
   |false=>rw[hb] at h; cases h
   |true =>
    rw[hb] at h; cases h
    exact⟨⟨f,by rw[Xp hc]⟩,Nat.blt_eq.mp hb⟩
  ·cases h
 ·cases h
theorem JQ{t:T}{e:Elem}(h:eOf t=some e):t.free=true:=by
 obtain⟨⟨f,rfl⟩,_⟩:=JO h; rfl
theorem Oo{t:T}{e:Elem}(h:eOf t=some e)(Z:Nat->Prop)(hp:Hp):T.sub Z hp (eG e) t:=by
 obtain⟨⟨f,rfl⟩,_⟩:=JO h
 simp only[eG,Go.Ab.ints,T.sub,T.dM]
 exact⟨trivial,⟨.inl trivial,.inl trivial,fun h=>by cases h⟩,trivial⟩
end
end Go.Ab
namespace Go.Proofs.YtajmbgljnaljiaaGreatDoor
open Go.Ab Go.Proofs
set_option maxRecDepth 100000
def TW:List T->Option T
 |[t]=>match eOf t with|some e=>some (.int (zD e))|none=>none
 |_=>none
def aeM:List T->Option T
 |[s,t]=>match eOf s,eOf t with|some a,some b=>some (.int (iK a b))|_,_=>none
 |_=>none
def aan:List T->Option T
 |[.lit (.string b)]=>some (.bool (nmB b&& !(oP.any fun x=>b.data.toList==x)))
 |_=>none
def aao(n:Nat):List T->Option (T×Option Ob)
 |[.sl 0 true [],.lit (.int .i64 (.ofNat m))]=>bif Nat.blt 0 m&&Nat.blt m 1000000 then some (.own n,some ⟨9,0,[]⟩) else none
 |_=>none
def QM:Option T->Option (T×Option Ob)
 |some t=>some (t,none)
 |none=>none
def TY(n:Nat)(f:FuncId)(ts:List T):Option (T×Option Ob) :=
 bif Nat.beq f 90 then QM (TW ts) else
 bif Nat.beq f 45 then QM (aeM ts) else
 bif Nat.beq f 100 then QM (aan ts) else
 bif Nat.beq f 167 then aao n ts else none
def Oq(f:FuncId)(g:List T->Option T):Prop:= ∀ ts t,g ts=some t->t.free=true/\qL Tryz.prog f ts t
theorem Xq:Oq 90 TW:=by
 intro ts t h
 unfold TW at h
 split at h
 ·rename_i u
  split at h
  ·rename_i e he
   cases h
   exact⟨rfl,(S.lF e (by have:=(JO he).2; omega)).at (And.intro (Oo he _ _) trivial) (by simp[T.bC,JQ he])⟩
  ·cases h
 ·cases h
theorem acA:Oq 45 aeM:=by
 intro ts t h
 unfold aeM at h
 split at h
 ·split at h
  ·rename_i a b ha hb
   cases h
   exact⟨rfl,(S.fZ a b (by have:=(JO ha).2; omega) (by have:=(JO hb).2; omega)).at (And.intro (Oo ha _ _) (And.intro (Oo hb _ _) trivial)) (by simp[T.bC,JQ ha,JQ hb])⟩
  ·cases h
 ·cases h
theorem aap:Oq 100 aan:=by
 intro ts t h
 unfold aan at h
 split at h
 ·rename_i b
  cases h
  refine⟨rfl,?_⟩
  exact S.JM b _ (S.eX b.data.toList)
 ·cases h
theorem aaq{n:Nat}{ts:List T}{t:T}{o:Option Ob}(h:aao n ts=some (t,o)): ∃ tf,tf n=t/\qY Tryz.prog 167 ts tf o/\(o=none->t.free=true):=by
 unfold aao at h
 split at h
 ·rename_i m
  cases hb:(Nat.blt 0 m&&Nat.blt m 1000000) with
  |false=>rw[hb] at h; cases h
  |true =>
   rw[hb] at h; cases h
   rw[Bool.and_eq_true] at hb
   refine⟨fun n=>.own n,rfl,S.Grow m (Nat.blt_eq.mp hb.1) (by have:=Nat.blt_eq.mp hb.2; omega),fun h=>by cases h⟩
 ·cases h
theorem EM:UW Tryz.prog TY:=by
 intro n f ts t o h
 have pure: ∀ {k:FuncId} {g:List T->Option T},Oq k g->f=k->QM (g ts)=some (t,o)-> ∃ tf:Nat->T,tf n=t/\qY Tryz.prog f ts tf o/\(o=none->t.free=true):=by
  intro k g hg e h
  subst e
  unfold QM at h
  split at h
  ·rename_i u hu
   cases h
   obtain⟨a,b⟩:=hg ts t hu
   exact⟨fun _=>t,rfl,b,fun _=>a⟩
  ·cases h
 unfold TY at h
 cases h1:Nat.beq f 90 with
 |true=>rw[h1] at h; exact pure Xq (Nat.eq_of_beq_eq_true h1) h
 |false =>
 rw[h1] at h
 cases h3:Nat.beq f 45 with
 |true=>rw[h3] at h; exact pure acA (Nat.eq_of_beq_eq_true h3) h
 |false =>
 rw[h3] at h
 cases h5:Nat.beq f 100 with
 |true=>rw[h5] at h; exact pure aap (Nat.eq_of_beq_eq_true h5) h
 |false =>
 rw[h5] at h
 cases h6:Nat.beq f 167 with
 |true =>
  rw[h6] at h
  have:=Nat.eq_of_beq_eq_true h6; subst this
  exact aaq h
 |false=>rw[h6] at h; cases h
def wrs(f:Nat):Bool:=xA f [49,78,79,109,131,42,44,43,70,60]
def K5:Know:=⟨Xr,TY,fun _ _ _ _=>none,wrs,10000⟩
theorem EN:KOk Tryz.prog K5:=⟨EO,EM,fun n f ts h t h' e=>by cases e⟩
end Go.Proofs.YtajmbgljnaljiaaGreatDoor
namespace Go.Ab
def aeN(a b:ByteArray):Bool:=a.data.toList==b.data.toList
mutual
def T.eqv:T->T->Bool
 | .lit (.int .i64 a),.lit (.int .i64 b)=>iEq a b
 | .lit (.bool a),.lit (.bool b)=>a==b
 | .lit (.string a),.lit (.string b)=>aeN a b
 | .agg a,.agg b=>T.Ot a b
 | .sl k f a,.sl k' f' b=>Nat.beq k k'&&(f==f')&&T.Ot a b
 |_,_=>false
def T.Ot:List T->List T->Bool
 |[],[]=>true
 |a::l,b::r=>T.eqv a b&&T.Ot l r
 |_,_=>false
end
theorem acB{a b:ByteArray}(h:aeN a b=true):a=b:=by
 have:a.data.toList=b.data.toList:=by simpa [aeN] using h
 exact ByteArray.ext (Array.ext' this)
theorem aeO{a b:Int}(h:iEq a b=true):a=b:=by
 cases a<;>cases b<;>simp[iEq] at h<;>rw[h]
mutual
theorem T.aeP:(a b:T)->T.eqv a b=true->a=b:=fun a b h=>by
 unfold T.eqv at h
 split at h
 ·rw[aeO h]
 ·rw[show _=_ from eq_of_beq h]
 ·rw[acB h]
 ·rename_i l r; rw[T.H8 l r h]
 ·rename_i k f l k' f' r
  simp only[Bool.and_eq_true] at h
  rw[Nat.eq_of_beq_eq_true h.1.1,eq_of_beq h.1.2,T.H8 l r h.2]
 ·cases h
theorem T.H8:(a b:List T)->T.Ot a b=true->a=b
 |[],[],_=>rfl
 |a::l,b::r,h=>by
  simp only[T.Ot,Bool.and_eq_true] at h
  rw[T.aeP a b h.1,T.H8 l r h.2]
 |[],_::_,h=>by simp[T.Ot] at h
 |_::_,[],h=>by simp[T.Ot] at h
end
structure Mm where
 f:FuncId
 ts:List T
 t:T
 o:Option (TypeId×Nat×List T)
def Mm.tf(e:Mm)(n:Nat):T:=match e.o with|none=>e.t|some _=>.own n
def Mm.ob(e:Mm):Option Ob:=match e.o with|none=>none|some (a,k,l)=>some ⟨a,k,l⟩
def acC:List Mm->Nat->FuncId->List T->Option (T×Option Ob)
 |[],_,_,_=>none
 |e::r,n,f,ts=>bif Nat.beq f e.f&&T.Ot ts e.ts then some (e.tf n,e.ob) else acC r n f ts
def MK(l:List Mm)(UN:Nat->FuncId->List T->Option (T×Option Ob))(n:Nat)(f:FuncId)(ts:List T):Option (T×Option Ob) :=
 match acC l n f ts with
 |some r=>some r
 |none=>UN n f ts
def Mm.ok(P:Program)(e:Mm):Prop:=qY P e.f e.ts e.tf e.ob/\(e.ob=none->e.t.free=true)
theorem EP{P:Program}{l:List Mm}{UN:Nat->FuncId->List T->Option (T×Option Ob)}(O:UW P UN)(H: ∀ e∈l,Mm.ok P e):UW P (MK l UN):=by
 intro n f ts t o h
 unfold MK at h
 cases hm:acC l n f ts with
 |none=>rw[hm] at h; exact O n f ts t o h
 |some r =>
  rw[hm] at h; cases h
  induction l with
  |nil=>cases hm
  |cons e r ih =>
   simp only[acC] at hm
   cases hb:(Nat.beq f e.f&&T.Ot ts e.ts) with
   |false=>rw[hb] at hm; exact ih (fun e he=>H e (by simp[he])) hm
   |true =>
    rw[hb] at hm; cases hm
    rw[Bool.and_eq_true] at hb
    have h1:=Nat.eq_of_beq_eq_true hb.1
    have h2:=T.H8 _ _ hb.2
    subst h1 h2
    obtain⟨a,b⟩:=H e (by simp)
    refine⟨e.tf,rfl,a,fun ho=>?_⟩
    have:=b ho
    unfold Mm.ob at ho
    unfold Mm.tf
    cases he:e.o with
    |none=>exact this
    |some p=>rw[he] at ho; cases ho
theorem qL.af7{P:Program}{f:FuncId}{ts:List T}{tf:Nat->T}{n:Nat}{t:T}(H:qY P f ts tf none)(e:tf n=t)(ht:t.free=true):qL P f ts t:=by
 refine⟨H.free,fun _=>T.bD (fun _ h=>h.elim) _ (dU ht),(fun _ h=>by cases h),(fun _ h=>by cases h),fun k=>?_⟩
 obtain⟨_,hcl,hcall⟩:=H.call n
 refine⟨⟨_,_,rfl,rfl⟩,hcl,fun F M E vs hk he hts hid hm hn=>(hcall F (fun _=>False) E vs hk he hts (dB H.free) (tY _) (fun h=>h)).mono ?_⟩
 rintro e' w' ⟨v,t'',E',rfl,rfl,⟨rfl,hh⟩,hv,hk',hext,hS,_,_⟩
 subst e
 have hno:E'.h=no:=hh
 refine⟨v,tf n,E',rfl,rfl,⟨rfl,hh⟩,hv,hk',hext,fun i _ hi=>?_,T.bD (fun _ h=>h.elim) _ (dU ht),?_⟩
 ·rw[hno] at hi; cases hi
 ·rw[hno]; exact tY _
theorem Mm.of{P:Program}{K:Know}(KO:KOk P K){d:Nat}{e:Mm}(hts:T.bC e.ts=true)(h: ∀ n,yP K (yf K d) false n e.f e.ts=some (e.tf n,e.ob)):Mm.ok P e:=by
 have key: ∀ n,∃ tf,tf n=e.tf n/\qY P e.f e.ts tf e.ob/\(e.ob=none->(e.tf n).free=true)/\(false=true->e.ob=none):=fun n=>by
  have:=h n
  rw[aaj,ade] at this
  exact Hu KO (ac7 KO d) hts this
 have A: ∀ n,qY P e.f e.ts (key n).choose e.ob:=fun n=>(key n).choose_spec.2.1
 have E: ∀ n,(key n).choose n=e.tf n:=fun n=>(key n).choose_spec.1
 refine⟨⟨hts,fun n=>?_,(A 0).ob,(A 0).nm,fun n=>?_⟩,fun ho=>?_⟩
 ·rw[<- E n]; exact(A n).ids n
 ·have:=(A n).call n
  rw[E n] at this; exact this
 ·have:=(key 0).choose_spec.2.2.1 ho
  unfold Mm.ob at ho
  unfold Mm.tf at this
  cases he:e.o with
  |none=>rw[he] at this; exact this
  |some p=>rw[he] at ho; cases ho
end Go.Ab
namespace Go.Proofs.YtajmbgljnaljiaaGreatDoor
open Go.Ab Go.Proofs
set_option maxRecDepth 100000
def Ua:T:=.agg [.lit (.string ⟨#[103,111]⟩),.int 1,.int 0,.int 1,.int 0,.int 0,.sl 0 true [],.sl 0 true [],.sl 0 true [],.sl 0 true [],.int (-1),.int (-1),.sl 0 true [],.int 0,.sl 0 true [],.sl 0 true [],.sl 0 true [],.int 0]
def flT:T:=.agg [.lit (.string ⟨#[102,97,108,108]⟩),.int 1,.sl 0 true [.lit (.string ⟨#[97]⟩),.lit (.string ⟨#[98]⟩)],.sl 0 true [],.sl 0 true [],.int 0,.sl 0 true [],.sl 0 true [.int 0],.sl 0 true [],.sl 19 false [Ua]]
def fnT:T:=.agg [.lit (.string ⟨#[100,111,110,101]⟩),.int 2,.sl 0 true [],.sl 0 true [],.sl 0 true [],.sl 0 true [.int 1]]
def Dx(a b:Int):T:=.agg [.int 0,.sl 0 false [.int a,.int b]]
def Gy(a b:Int)(l:List T):Mm:=⟨48,[Ua,Dx a b],.sl 3 false l,none⟩
def Ou(a b:Int)(l:List T):Mm:=⟨48,[Ua,Dx a b],.any,some (54,3,l)⟩
def L1:List Mm:=[⟨41,[flT,fnT],.int 0,none⟩,⟨69,[flT],.int 0,none⟩,⟨47,[flT,fnT],.any,some (54,3,[Dx 1 0,Dx 2 0])⟩,
 Ou 1 0 [Dx 0 1],Ou 1 1 [Dx 0 2],Gy 1 2 [Dx 0 2],Gy 2 0 [Dx 1 1,Dx 2 1],Gy 2 1 [Dx 1 2,Dx 2 2],Gy 2 2 [Dx 1 2,Dx 2 2]]
theorem r1:Mm.ok Tryz.prog ⟨41,[flT,fnT],.int 0,none⟩:=Mm.of (d:=38) EN (by kernel_rfl) fun n=>by kernel_rfl
theorem r2:Mm.ok Tryz.prog ⟨69,[flT],.int 0,none⟩:=Mm.of (d:=38) EN (by kernel_rfl) fun n=>by kernel_rfl
theorem r3:Mm.ok Tryz.prog ⟨47,[flT,fnT],.any,some (54,3,[Dx 1 0,Dx 2 0])⟩:=Mm.of (d:=38) EN (by kernel_rfl) fun n=>by kernel_rfl
theorem p10:Mm.ok Tryz.prog (Ou 1 0 [Dx 0 1]):=Mm.of (d:=38) EN (by kernel_rfl) fun n=>by kernel_rfl
theorem p11:Mm.ok Tryz.prog (Ou 1 1 [Dx 0 2]):=Mm.of (d:=38) EN (by kernel_rfl) fun n=>by kernel_rfl
theorem p12:Mm.ok Tryz.prog (Gy 1 2 [Dx 0 2]):=Mm.of (d:=38) EN (by kernel_rfl) fun n=>by kernel_rfl
theorem p20:Mm.ok Tryz.prog (Gy 2 0 [Dx 1 1,Dx 2 1]):=Mm.of (d:=38) EN (by kernel_rfl) fun n=>by kernel_rfl
theorem p21:Mm.ok Tryz.prog (Gy 2 1 [Dx 1 2,Dx 2 2]):=Mm.of (d:=38) EN (by kernel_rfl) fun n=>by kernel_rfl
theorem p22:Mm.ok Tryz.prog (Gy 2 2 [Dx 1 2,Dx 2 2]):=Mm.of (d:=38) EN (by kernel_rfl) fun n=>by kernel_rfl
theorem adf: ∀ e∈L1,Mm.ok Tryz.prog e:=by
 intro e he
 simp only[L1,List.mem_cons,List.not_mem_nil,or_false] at he
 rcases he with rfl|rfl|rfl|rfl|rfl|rfl|rfl|rfl|rfl
 ·exact r1
 ·exact r2
 ·exact r3
 ·exact p10
 ·exact p11
 ·exact p12
 ·exact p20
 ·exact p21
 ·exact p22
def K6:Know:=⟨Xr,MK L1 TY,fun _ _ _ _=>none,wrs,10000⟩
theorem af8:KOk Tryz.prog K6:=⟨EO,EP EM adf,fun n f ts h t h' e=>by cases e⟩
end Go.Proofs.YtajmbgljnaljiaaGreatDoor
