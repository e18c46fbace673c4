/-
 What the evaluator knows without running: contracts of small functions. No condition.
-/
import Derived.KernelRfl
import Derived.Test.YtkomllaebngbfaaGreatDoorKa
import Derived.Test.YtkomllaebngbfaaGreatDoorNb
import Derived.Test.YtkomllaebngbfaaGreatDoorSc
import Derived.Test.YtkomllaebngbfaaGreatDoorLg
namespace Go.Ab
section
variable {P:Program}
theorem acg{l:List T}(h:T.bC l=true)(M:Nat->Prop):T.aJ M l:=T.aA (fun _ h=>h.elim) _ (dD h)
theorem qY.at{f:FuncId}{ts ts':List T}{t:Nat->T}{o:Option Ob}(H:qY P f ts t o)(hs:T.dJ (fun _=>False) no ts ts')(hf:T.bC ts'=true):qY P f ts' t o :=
 ⟨hf,H.ids,H.ob,H.nm,fun n=>(H.call n).sub hs (fun M _=>acg H.free M)⟩
def intsOf:List T->Option (List Int)
 |[]=>some []
 | .lit (.int .i64 n)::r=>match intsOf r with|some l=>some (n::l)|none=>none
 |_=>none
def eOf:T->Option Elem
 | .agg [.lit (.int .i64 v),.sl 0 _ l]=>match intsOf l with|some c=>bif Nat.blt c.length 536870912 then some ⟨v,c⟩ else none|none=>none
 |_=>none
def agR:List T->Option (List Elem)
 |[]=>some []
 |t::r=>match eOf t,agR r with|some e,some l=>some (e::l)|_,_=>none
theorem Xp: ∀ {l:List T} {c:List Int},intsOf l=some c->l=c.map T.int:=by
 intro l
 induction l with
 |nil=>intro c h; cases h; rfl
 |cons t r ih =>
  intro c h
  unfold intsOf at h
  split at h
  ·rename_i e; cases e
  ·rename_i n r' e
   cases e
   split at h
   ·rename_i l' hl
    cases h
    rw[ih hl]; rfl
   ·cases h
  ·cases h
theorem JL{t:T}{e:Elem}(h:eOf t=some e):(∃ f,t= .agg [.int e.value,.sl 0 f (e.counts.map T.int)])/\e.counts.length<2^29:=by
 unfold eOf at h
 split at h
 ·rename_i v f l
  split at h
  ·rename_i c hc
   cases hb:Nat.blt c.length 536870912 with
   |false=>rw[hb] at h; cases h
   |true =>
    rw[hb] at h; cases h
    exact⟨⟨f,by rw[Xp hc]⟩,Nat.blt_eq.mp hb⟩
  ·cases h
 ·cases h
theorem JM{t:T}{e:Elem}(h:eOf t=some e):t.free=true:=by
 obtain⟨⟨f,rfl⟩,_⟩:=JL h; rfl
theorem Ou{t:T}{e:Elem}(h:eOf t=some e)(Z:Nat->Prop)(hp:Hp):T.sub Z hp (dZ e) t:=by
 obtain⟨⟨f,rfl⟩,_⟩:=JL h
 simp only[dZ,Go.Ab.ints,T.sub,T.dJ]
 exact⟨trivial,⟨.inl trivial,.inl trivial,fun h=>by cases h⟩,trivial⟩
end
end Go.Ab
namespace Go.Proofs.YtkomllaebngbfaaGreatDoor
open Go.Ab Go.Proofs
set_option maxRecDepth 100000
def Ud:List T->Option T
 |[t]=>match eOf t with|some e=>some (.int (sS e))|none=>none
 |_=>none
def aeF:List T->Option T
 |[s,t]=>match eOf s,eOf t with|some a,some b=>some (.int (iP a b))|_,_=>none
 |_=>none
def aag:List T->Option T
 |[.lit (.string b)]=>some (.bool (nmB b&& !(oU.any fun x=>b.data.toList==x)))
 |_=>none
def aah(n:Nat):List T->Option (T×Option Ob)
 |[.sl 0 true [],.lit (.int .i64 (.ofNat m))]=>bif Nat.blt 0 m&&Nat.blt m 1000000 then some (.own n,some ⟨9,0,[]⟩) else none
 |_=>none
def QU:Option T->Option (T×Option Ob)
 |some t=>some (t,none)
 |none=>none
def Ue(n:Nat)(f:FuncId)(ts:List T):Option (T×Option Ob) :=
 bif Nat.beq f 97 then QU (Ud ts) else
 bif Nat.beq f 100 then QU (aeF ts) else
 bif Nat.beq f 149 then QU (aag ts) else
 bif Nat.beq f 202 then aah n ts else none
def Ov(f:FuncId)(g:List T->Option T):Prop:= ∀ ts t,g ts=some t->t.free=true/\qL Tryz.prog f ts t
theorem Xq:Ov 97 Ud:=by
 intro ts t h
 unfold Ud at h
 split at h
 ·rename_i u
  split at h
  ·rename_i e he
   cases h
   exact⟨rfl,(S.kL e (by have:=(JL he).2; omega)).at (And.intro (Ou he _ _) trivial) (by simp[T.bC,JM he])⟩
  ·cases h
 ·cases h
theorem ach:Ov 100 aeF:=by
 intro ts t h
 unfold aeF at h
 split at h
 ·split at h
  ·rename_i a b ha hb
   cases h
   exact⟨rfl,(S.gu a b (by have:=(JL ha).2; omega) (by have:=(JL hb).2; omega)).at (And.intro (Ou ha _ _) (And.intro (Ou hb _ _) trivial)) (by simp[T.bC,JM ha,JM hb])⟩
  ·cases h
 ·cases h
theorem aai:Ov 149 aag:=by
 intro ts t h
 unfold aag at h
 split at h
 ·rename_i b
  cases h
  refine⟨rfl,?_⟩
  exact S.JK b _ (S.fA b.data.toList)
 ·cases h
theorem aaj{n:Nat}{ts:List T}{t:T}{o:Option Ob}(h:aah n ts=some (t,o)): ∃ tf,tf n=t/\qY Tryz.prog 202 ts tf o/\(o=none->t.free=true):=by
 unfold aah at h
 split at h
 ·rename_i m
  cases hb:(Nat.blt 0 m&&Nat.blt m 1000000) with
  |false=>rw[hb] at h; cases h
  |true =>
   rw[hb] at h; cases h
   rw[Bool.and_eq_true] at hb
   refine⟨fun n=>.own n,rfl,S.Grow m (Nat.blt_eq.mp hb.1) (by have:=Nat.blt_eq.mp hb.2; omega),fun h=>by cases h⟩
 ·cases h
theorem EN:U1 Tryz.prog Ue:=by
 intro n f ts t o h
 have pure: ∀ {k:FuncId} {g:List T->Option T},Ov k g->f=k->QU (g ts)=some (t,o)-> ∃ tf:Nat->T,tf n=t/\qY Tryz.prog f ts tf o/\(o=none->t.free=true):=by
  intro k g hg e h
  subst e
  unfold QU at h
  split at h
  ·rename_i u hu
   cases h
   obtain⟨a,b⟩:=hg ts t hu
   exact⟨fun _=>t,rfl,b,fun _=>a⟩
  ·cases h
 unfold Ue at h
 cases h1:Nat.beq f 97 with
 |true=>rw[h1] at h; exact pure Xq (Nat.eq_of_beq_eq_true h1) h
 |false =>
 rw[h1] at h
 cases h3:Nat.beq f 100 with
 |true=>rw[h3] at h; exact pure ach (Nat.eq_of_beq_eq_true h3) h
 |false =>
 rw[h3] at h
 cases h5:Nat.beq f 149 with
 |true=>rw[h5] at h; exact pure aai (Nat.eq_of_beq_eq_true h5) h
 |false =>
 rw[h5] at h
 cases h6:Nat.beq f 202 with
 |true =>
  rw[h6] at h
  have:=Nat.eq_of_beq_eq_true h6; subst this
  exact aaj h
 |false=>rw[h6] at h; cases h
def wrs(f:Nat):Bool:=xF f [119,160,161,176,192,127,129,128,164,131]
def K5:Know:=⟨Xr,Ue,fun _ _ _ _=>none,wrs,10000⟩
theorem EO:KOk Tryz.prog K5:=⟨EP,EN,fun n f ts h t h' e=>by cases e⟩
end Go.Proofs.YtkomllaebngbfaaGreatDoor
namespace Go.Ab
def aeG(a b:ByteArray):Bool:=a.data.toList==b.data.toList
mutual
def T.eqv:T->T->Bool
 | .lit (.int .i64 a),.lit (.int .i64 b)=>iEq a b
 | .lit (.bool a),.lit (.bool b)=>a==b
 | .lit (.string a),.lit (.string b)=>aeG a b
 | .agg a,.agg b=>T.Ox a b
 | .sl k f a,.sl k' f' b=>Nat.beq k k'&&(f==f')&&T.Ox a b
 |_,_=>false
def T.Ox:List T->List T->Bool
 |[],[]=>true
 |a::l,b::r=>T.eqv a b&&T.Ox l r
 |_,_=>false
end
theorem aci{a b:ByteArray}(h:aeG a b=true):a=b:=by
 have:a.data.toList=b.data.toList:=by simpa [aeG] using h
 exact ByteArray.ext (Array.ext' this)
theorem aeH{a b:Int}(h:iEq a b=true):a=b:=by
 cases a<;>cases b<;>simp[iEq] at h<;>rw[h]
mutual
theorem T.aeI:(a b:T)->T.eqv a b=true->a=b:=fun a b h=>by
 unfold T.eqv at h
 split at h
 ·rw[aeH h]
 ·rw[show _=_ from eq_of_beq h]
 ·rw[aci h]
 ·rename_i l r; rw[T.HY l r h]
 ·rename_i k f l k' f' r
  simp only[Bool.and_eq_true] at h
  rw[Nat.eq_of_beq_eq_true h.1.1,eq_of_beq h.1.2,T.HY l r h.2]
 ·cases h
theorem T.HY:(a b:List T)->T.Ox a b=true->a=b
 |[],[],_=>rfl
 |a::l,b::r,h=>by
  simp only[T.Ox,Bool.and_eq_true] at h
  rw[T.aeI a b h.1,T.HY l r h.2]
 |[],_::_,h=>by simp[T.Ox] at h
 |_::_,[],h=>by simp[T.Ox] at h
end
structure Mm where
 f:FuncId
 ts:List T
 t:T
 o:Option (TypeId×Nat×List T)
def Mm.tf(e:Mm)(n:Nat):T:=match e.o with|none=>e.t|some _=>.own n
def Mm.ob(e:Mm):Option Ob:=match e.o with|none=>none|some (a,k,l)=>some ⟨a,k,l⟩
def acj:List Mm->Nat->FuncId->List T->Option (T×Option Ob)
 |[],_,_,_=>none
 |e::r,n,f,ts=>bif Nat.beq f e.f&&T.Ox ts e.ts then some (e.tf n,e.ob) else acj r n f ts
def MJ(l:List Mm)(UU:Nat->FuncId->List T->Option (T×Option Ob))(n:Nat)(f:FuncId)(ts:List T):Option (T×Option Ob) :=
 match acj l n f ts with
 |some r=>some r
 |none=>UU n f ts
def Mm.ok(P:Program)(e:Mm):Prop:=qY P e.f e.ts e.tf e.ob/\(e.ob=none->e.t.free=true)
theorem ER{P:Program}{l:List Mm}{UU:Nat->FuncId->List T->Option (T×Option Ob)}(O:U1 P UU)(H: ∀ e∈l,Mm.ok P e):U1 P (MJ l UU):=by
 intro n f ts t o h
 unfold MJ at h
 cases hm:acj l n f ts with
 |none=>rw[hm] at h; exact O n f ts t o h
 |some r =>
  rw[hm] at h; cases h
  induction l with
  |nil=>cases hm
  |cons e r ih =>
   simp only[acj] at hm
   cases hb:(Nat.beq f e.f&&T.Ox ts e.ts) with
   |false=>rw[hb] at hm; exact ih (fun e he=>H e (by simp[he])) hm
   |true =>
    rw[hb] at hm; cases hm
    rw[Bool.and_eq_true] at hb
    have h1:=Nat.eq_of_beq_eq_true hb.1
    have h2:=T.HY _ _ hb.2
    subst h1 h2
    obtain⟨a,b⟩:=H e (by simp)
    refine⟨e.tf,rfl,a,fun ho=>?_⟩
    have:=b ho
    unfold Mm.ob at ho
    unfold Mm.tf
    cases he:e.o with
    |none=>exact this
    |some p=>rw[he] at ho; cases ho
theorem qL.afY{P:Program}{f:FuncId}{ts:List T}{tf:Nat->T}{n:Nat}{t:T}(H:qY P f ts tf none)(e:tf n=t)(ht:t.free=true):qL P f ts t:=by
 refine⟨H.free,fun _=>T.bD (fun _ h=>h.elim) _ (dV ht),(fun _ h=>by cases h),(fun _ h=>by cases h),fun k=>?_⟩
 obtain⟨_,hcl,hcall⟩:=H.call n
 refine⟨⟨_,_,rfl,rfl⟩,hcl,fun F M E vs hk he hts hid hm hn=>(hcall F (fun _=>False) E vs hk he hts (dD H.free) (uf _) (fun h=>h)).mono ?_⟩
 rintro e' w' ⟨v,t'',E',rfl,rfl,⟨rfl,hh⟩,hv,hk',hext,hS,_,_⟩
 subst e
 have hno:E'.h=no:=hh
 refine⟨v,tf n,E',rfl,rfl,⟨rfl,hh⟩,hv,hk',hext,fun i _ hi=>?_,T.bD (fun _ h=>h.elim) _ (dV ht),?_⟩
 ·rw[hno] at hi; cases hi
 ·rw[hno]; exact uf _
theorem Mm.of{P:Program}{K:Know}(KO:KOk P K){d:Nat}{e:Mm}(hts:T.bC e.ts=true)(h: ∀ n,yP K (yf K d) false n e.f e.ts=some (e.tf n,e.ob)):Mm.ok P e:=by
 have key: ∀ n,∃ tf,tf n=e.tf n/\qY P e.f e.ts tf e.ob/\(e.ob=none->(e.tf n).free=true)/\(false=true->e.ob=none):=fun n=>by
  have:=h n
  rw[aac,ac2] at this
  exact Hq KO (acX KO d) hts this
 have A: ∀ n,qY P e.f e.ts (key n).choose e.ob:=fun n=>(key n).choose_spec.2.1
 have E: ∀ n,(key n).choose n=e.tf n:=fun n=>(key n).choose_spec.1
 refine⟨⟨hts,fun n=>?_,(A 0).ob,(A 0).nm,fun n=>?_⟩,fun ho=>?_⟩
 ·rw[<- E n]; exact(A n).ids n
 ·have:=(A n).call n
  rw[E n] at this; exact this
 ·have:=(key 0).choose_spec.2.2.1 ho
  unfold Mm.ob at ho
  unfold Mm.tf at this
  cases he:e.o with
  |none=>rw[he] at this; exact this
  |some p=>rw[he] at ho; cases ho
end Go.Ab
namespace Go.Proofs.YtkomllaebngbfaaGreatDoor
open Go.Ab Go.Proofs
set_option maxRecDepth 100000
def Uf:T:=.agg [.lit (.string ⟨#[103,111]⟩),.int 1,.int 0,.int 1,.int 0,.int 0,.sl 0 true [],.sl 0 true [],.sl 0 true [],.sl 0 true [],.int (-1),.int (-1),.sl 0 true [],.int 0,.sl 0 true [],.sl 0 true [],.sl 0 true [],.int 0]
def flT:T:=.agg [.lit (.string ⟨#[102,97,108,108]⟩),.int 1,.sl 0 true [.lit (.string ⟨#[97]⟩),.lit (.string ⟨#[98]⟩)],.sl 0 true [],.sl 0 true [],.int 0,.sl 0 true [],.sl 0 true [.int 0],.sl 0 true [],.sl 19 false [Uf]]
def fnT:T:=.agg [.lit (.string ⟨#[100,111,110,101]⟩),.int 2,.sl 0 true [],.sl 0 true [],.sl 0 true [],.sl 0 true [.int 1]]
def Dy(a b:Int):T:=.agg [.int 0,.sl 0 false [.int a,.int b]]
def Gx(a b:Int)(l:List T):Mm:=⟨82,[Uf,Dy a b],.sl 3 false l,none⟩
def Oy(a b:Int)(l:List T):Mm:=⟨82,[Uf,Dy a b],.any,some (50,3,l)⟩
def L1:List Mm:=[⟨50,[flT,fnT],.int 0,none⟩,⟨95,[flT],.int 0,none⟩,⟨75,[flT,fnT],.any,some (50,3,[Dy 1 0,Dy 2 0])⟩,
 Oy 1 0 [Dy 0 1],Oy 1 1 [Dy 0 2],Gx 1 2 [Dy 0 2],Gx 2 0 [Dy 1 1,Dy 2 1],Gx 2 1 [Dy 1 2,Dy 2 2],Gx 2 2 [Dy 1 2,Dy 2 2]]
theorem r1:Mm.ok Tryz.prog ⟨50,[flT,fnT],.int 0,none⟩:=Mm.of (d:=38) EO (by kernel_rfl) fun n=>by kernel_rfl
theorem r2:Mm.ok Tryz.prog ⟨95,[flT],.int 0,none⟩:=Mm.of (d:=38) EO (by kernel_rfl) fun n=>by kernel_rfl
theorem r3:Mm.ok Tryz.prog ⟨75,[flT,fnT],.any,some (50,3,[Dy 1 0,Dy 2 0])⟩:=Mm.of (d:=38) EO (by kernel_rfl) fun n=>by kernel_rfl
theorem p10:Mm.ok Tryz.prog (Oy 1 0 [Dy 0 1]):=Mm.of (d:=38) EO (by kernel_rfl) fun n=>by kernel_rfl
theorem p11:Mm.ok Tryz.prog (Oy 1 1 [Dy 0 2]):=Mm.of (d:=38) EO (by kernel_rfl) fun n=>by kernel_rfl
theorem p12:Mm.ok Tryz.prog (Gx 1 2 [Dy 0 2]):=Mm.of (d:=38) EO (by kernel_rfl) fun n=>by kernel_rfl
theorem p20:Mm.ok Tryz.prog (Gx 2 0 [Dy 1 1,Dy 2 1]):=Mm.of (d:=38) EO (by kernel_rfl) fun n=>by kernel_rfl
theorem p21:Mm.ok Tryz.prog (Gx 2 1 [Dy 1 2,Dy 2 2]):=Mm.of (d:=38) EO (by kernel_rfl) fun n=>by kernel_rfl
theorem p22:Mm.ok Tryz.prog (Gx 2 2 [Dy 1 2,Dy 2 2]):=Mm.of (d:=38) EO (by kernel_rfl) fun n=>by kernel_rfl
theorem ac3: ∀ e∈L1,Mm.ok Tryz.prog e:=by
 intro e he
 simp only[L1,List.mem_cons,List.not_mem_nil,or_false] at he
 rcases he with rfl|rfl|rfl|rfl|rfl|rfl|rfl|rfl|rfl
 ·exact r1
 ·exact r2
 ·exact r3
 ·exact p10
 ·exact p11
 ·exact p12
 ·exact p20
 ·exact p21
 ·exact p22
def K6:Know:=⟨Xr,MJ L1 Ue,fun _ _ _ _=>none,wrs,10000⟩
theorem afZ:KOk Tryz.prog K6:=⟨EP,ER EN ac3,fun n f ts h t h' e=>by cases e⟩
end Go.Proofs.YtkomllaebngbfaaGreatDoor
