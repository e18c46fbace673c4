/-
 The abstract layer, part 1: abstract values, an intermediate code, its abstract weakest precondition, and the translation into it.
 No condition; definitions alone.
-/
import Derived.Orders
import Derived.Tactics
import Derived.Laws.AppendOwn
import Derived.Below
import Derived.Lib.LaidTab
import Derived.Lib.Space
import Derived.Laws.CopyRow
import Derived.Laws.StructEq
namespace Go.Ab
inductive T where
 |lit (v:Value)
 |agg (l:List T)
 |sl (k:Nat) (full:Bool) (l:List T)
 |ref (k:Nat) (t:T)
 |own (i:Nat)
 |ptr (i j off:Nat)
 |qE (i lo hi:Nat)
 |fn (f:FuncId) (cap:List T)
 |dW (l:List T)
 |any
 deriving Inhabited
@[reducible] def T.int(n:Int):T:=.lit (.int .i64 n)
@[reducible] def T.bool(b:Bool):T:=.lit (.bool b)
@[reducible] def T.nil:T:=.sl 0 true []
@[reducible] def T.un:T:=.lit (.tuple #[])
def T.cells:T->List T
 | .agg l=>l
 |t=>[t]
def T.kd:T->Nat
 | .agg l=>l.length+1
 |_=>0
def bn:Nat->Nat
 |0=>1
 |m+1=>m
structure Ob where
 ty:TypeId
 k:Nat
 l:List T
abbrev Hp:=Nat->Option Ob
def upd(h:Hp)(i:Nat)(o:Option Ob):Hp:=fun j=>if j=i then o else h j
structure AS where
 fr:List T
 hp:Hp
 nx:Nat
 pin:Nat
inductive X where
 |t (n:Nat)
 |c (v:T)
 deriving Inhabited
def AS.put(s:AS)(d:Option Tmp)(t:T):AS :=
 match d with
 |some i=> {s with fr:=s.fr.set i t}
 |none=>s
def AS.ev(s:AS):X->T
 | .t n=>s.fr.getD n T.un
 | .c v=>v
inductive oQ where
 |mv (x:X)
 |pick (c a b:X)
 |bin (op:BinOp) (x y:X)
 |bb (ne:Bool) (x y:X)
 |not (x:X)
 |conv (k:IntKind) (x:X)
 |fa (off k:Nat) (x:X)
 |ia (k:Nat) (x i:X)
 |ch (x i:X)
 |ld (k:Nat) (x:X)
 |nc (x:X)
 |len (str:Bool) (x:X)
 |mx (x y:X)
 |mk (z:List T) (ps:List (Nat×Nat×X))
 |ms (ty k:Nat) (z:T) (n:Nat) (ps:List (Nat×X))
 |sl (k:Nat) (x:X) (lo hi mx:Option X)
 |ss (x:X) (lo hi:Option X)
 |ex (x:X) (i:Nat)
 |mf (f:FuncId) (cap:List X)
 |box (ty k:Nat) (x:X)
 |al (ty k:Nat) (z:T)
 |make (ty k bytes:Nat) (z:T) (n c:X)
 |st (k:Nat) (x v:X)
 |app (ty k bytes:Nat) (x y:X)
 |call (f:FuncId) (xs:List X)
 |oM (x:X) (xs:List X)
 |AY (x:X)
 |eqs (ne:Bool) (n:Nat) (x y:X)
 |Yr (k:Nat) (x:X) (lo hi mx:Option X)
 |Ve (k:Nat) (z:T) (x:X)
 |Bz (ty k:Nat) (z:T) (n:Nat) (ps:List (Nat×X))
 |mb (f:FuncId) (x:X)
 |bot
 deriving Inhabited
structure aJ where
 d:Option Nat
 op:oQ
 g:Option (Nat×Bool)
 fl:Bool:=false
 ne:List Nat:=[]
 ad:Bool:=false
 ar:Bool:=false
 deriving Inhabited
inductive fJ where
 |skip
 |reg (draw:Bool) (ops:List aJ)
 |seq (a b:fJ)
 |cond (c:X) (a b:fJ)
 |blk (id:Nat) (b:fJ)
 |exit (id:Nat)
 |loop (b:fJ)
 |ret
 deriving Inhabited
def T.part(x:T)(off:Nat):Nat->T
 |0=>x.cells.getD off .any
 |m+1=>.agg ((x.cells.drop off).take m)
def qF(n off k:Nat):Bool:=Nat.ble (off+bn k) n
def kEq:IntKind->IntKind->Bool
 | .i8,.i8=>true| .i16,.i16=>true| .i32,.i32=>true| .i64,.i64=>true
 | .u8,.u8=>true| .u16,.u16=>true| .u32,.u32=>true| .u64,.u64=>true
 |_,_=>false
def fnV(f:FuncId)(cs:Array Value):Value:=bif Nat.blt f 4096 then .func (.func f) #[] cs else .func (.func (f % 4096)) #[.agg cs] #[]
def afm(k:IntKind)(a b:Int):Int:=k.wrap ((BitVec.ofInt k.bits a &&& BitVec.ofInt k.bits b).toNat)
def Ed(op:BinOp):Value->Value->Option Value
 | .int k a,.int k' b =>
  match kEq k k',op with
  |_,.shr=>bif decide (0<=b) then some (.int k (a.fdiv (2 ^ (min b.toNat k.bits)))) else none
  |true,.add=>some (.int k (k.wrap (a+b)))
  |true,.sub=>some (.int k (k.wrap (a-b)))
  |true,.mul=>some (.int k (k.wrap (a*b)))
  |true,.and=>some (.int k (afm k a b))
  |true,.eql=>some (.bool (a==b))
  |true,.neq=>some (.bool (a !=b))
  |true,.lss=>some (.bool (decide (a<b)))
  |true,.leq=>some (.bool (decide (a<=b)))
  |true,.gtr=>some (.bool (decide (b<a)))
  |true,.geq=>some (.bool (decide (b<=a)))
  |true,.rem=>bif decide (b=0) then none else some (.int k (a.tmod b))
  |_,_=>none
 | .string a,.string b =>
  match op with
  | .eql=>some (.bool (a.toList==b.toList))
  | .neq=>some (.bool (!(a.toList==b.toList)))
  | .add=>bif decide (((a.size+b.size:Nat):Int)<=9223372036854775807) then some (.string (a++b)) else none
  |_=>none
 |_,_=>none
def BU(c a b:T):T :=
 match c with
 | .lit (.bool t) =>
  match a,b with
  | .lit (.bool x),.lit (.bool y)=>.lit (.bool (bif t then x else y))
  |a,b=>bif t then a else b
 |_=>.any
def isBool:T->Bool
 | .lit (.bool _)=>true
 |_=>false
def inR(n:Int)(l:Nat):Prop:=0<=n/\n<l
def Jk(z:List T):List (Nat×Nat×T)->List T
 |[]=>z
 |(off,n,t)::r=>Jk (z.take off++t.cells++z.drop (off+n)) r
def Ii(z:List T):List (Nat×Nat×T)->Bool
 |[]=>true
 |(off,n,t)::r=>(t.cells.length==n)&&(Nat.ble (off+n) z.length)&&Ii (z.take off++t.cells++z.drop (off+n)) r
def sO(z:List T):List (Nat×T)->List T
 |[]=>z
 |(i,t)::r=>sO (z.set i t) r
def KX(k n:Nat):List (Nat×T)->Bool
 |[]=>true
 |(i,t)::r=>(t.kd==k)&&Nat.blt i n&&KX k n r
def T.Bl(h:Hp):T->Bool
 | .lit v=>v.oneCell'
 | .own i=>(h i).isSome
 | .ptr i _ _=>(h i).isSome
 | .qE i _ _=>(h i).isSome
 | .sl _ _ _=>true
 | .ref _ _=>true
 | .fn _ _=>true
 |_=>false
def T.lC(h:Hp):T->Bool
 | .agg _=>true
 |t=>t.Bl h
def xu(h:Hp):List T->Bool
 |[]=>true
 |t::ts=>t.lC h&&xu h ts
def Ac(h:Hp):List T->Bool
 |[]=>true
 |t::ts=>t.Bl h&&Ac h ts
mutual
def T.free:T->Bool
 | .own _=>false
 | .ptr _ _ _=>false
 | .qE _ _ _=>false
 | .agg l=>T.bW l
 | .fn _ cap=>T.bW cap
 | .dW l=>T.bW l
 |_=>true
def T.bW:List T->Bool
 |[]=>true
 |t::ts=>T.free t&&T.bW ts
end
def rD:List T->Bool
 |[]=>true
 | .lit (.int .i64 _)::r=>rD r
 |_=>false
def uz:List T->List T->Bool
 |[],[]=>true
 | .lit (.int _ a)::r,.lit (.int _ b)::r'=>(a==b)&&uz r r'
 |_,_=>false
def aeV(n:Int):List T->Option T
 |[]=>none
 | .dW [.lit (.int _ m),u]::r=>bif n==m then some u else aeV n r
 |_::r=>aeV n r
def AZ(i:Nat)(ob:Ob):Option T->Option T->Option T->T
 |some (.lit (.int _ a)),none,none=>.qE i a.toNat ob.l.length
 |none,some (.lit (.int _ b)),none=>.qE i 0 b.toNat
 |some (.lit (.int _ a)),some (.lit (.int _ b)),none=>.qE i a.toNat b.toNat
 |_,_,_=>.any
def Gf(k:Nat)(ob:Ob):Option T->Option T->Option T->Prop
 |some (.lit (.int _ a)),none,none=>ob.k=k/\0<=a/\a<=ob.l.length
 |none,some (.lit (.int _ b)),none=>ob.k=k/\0<=b/\b<=ob.l.length
 |some (.lit (.int _ a)),some (.lit (.int _ b)),none=>ob.k=k/\0<=a/\a<=b/\b<=ob.l.length
 |_,_,_=>False
def Ry(k:Nat)(x:T)(lo hi mx:Option T):T :=
 match x,lo,hi,mx with
 | .sl _ f l,none,none,none=>.sl k f l
 | .sl _ f l,some (.lit (.int _ a)),none,none=>.sl k f (l.drop a.toNat)
 | .sl _ f l,none,some (.lit (.int _ b)),none=>.sl k (f&&decide (b=l.length)) (l.take b.toNat)
 | .sl _ _ l,some (.lit (.int _ a)),some (.lit (.int _ b)),none=>.sl k false ((l.take b.toNat).drop a.toNat)
 | .sl _ _ l,none,some (.lit (.int _ b)),some (.lit (.int _ m))=>.sl k (decide (b=m)) (l.take b.toNat)
 |_,_,_,_=>.any
def slC(k:Nat)(x:T)(lo hi mx:Option T):Prop :=
 match x,lo,hi,mx with
 | .sl k' _ l,none,none,none=>k'=k\/l=[]
 | .sl k' _ l,some (.lit (.int _ a)),none,none=>(k'=k\/l=[])/\0<=a/\a<=l.length
 | .sl k' _ l,none,some (.lit (.int _ b)),none=>(k'=k\/l=[])/\0<=b/\b<=l.length
 | .sl k' _ l,some (.lit (.int _ a)),some (.lit (.int _ b)),none=>(k'=k\/l=[])/\0<=a/\a<=b/\b<=l.length
 | .sl k' _ l,none,some (.lit (.int _ b)),some (.lit (.int _ m))=>(k'=k\/l=[])/\0<=b/\b<=m/\m<=l.length
 |_,_,_,_=>False
def qt(s:AS):oQ->T
 | .mv x=>s.ev x
 | .pick c a b=>BU (s.ev c) (s.ev a) (s.ev b)
 | .bin op x y =>
  match s.ev x,s.ev y with
  | .lit u,.lit v=>match Ed op u v with|some r=>.lit r|none=>.any
  |_,_=>.any
 | .bb ne x y =>
  match s.ev x,s.ev y with
  | .lit (.bool a),.lit (.bool b)=>.lit (.bool (bif ne then !(a==b) else a==b))
  |_,_=>.any
 | .not x=>match s.ev x with| .lit (.bool b)=>.lit (.bool !b)|_=>.any
 | .conv k x=>match s.ev x with| .lit (.int _ n)=>.lit (.int k (k.wrap n))|_=>.any
 | .fa off k x =>
  match s.ev x with
  | .ptr i j o=>.ptr i j (o+off)
  | .ref _ t=>.ref k (t.part off k)
  |_=>.any
 | .ia k x i =>
  match s.ev x,s.ev i with
  | .sl _ _ l,.lit (.int _ n)=>.ref k (l.getD n.toNat .any)
  | .own o,.lit (.int _ n)=>.ptr o n.toNat 0
  | .qE o lo _,.lit (.int _ n)=>.ptr o (lo+n.toNat) 0
  |_,_=>.any
 | .ch x i =>
  match s.ev x,s.ev i with
  | .lit (.string b),.lit (.int _ n)=>.lit (.int .u8 (b.data.getD n.toNat 0).toNat)
  |_,_=>.any
 | .ld k x =>
  match s.ev x with
  | .ref _ t=>t
  | .ptr i j off =>
   match s.hp i with
   |some ob=>bif (off==0&&ob.k==k) then ob.l.getD j .any else(ob.l.getD j .any).part off k
   |none=>.any
  |_=>.any
 | .nc x=>s.ev x
 | .len _ x =>
  match s.ev x with
  | .sl _ _ l=>.lit (.int .i64 l.length)
  | .own o=>match s.hp o with|some ob=>.lit (.int .i64 ob.l.length)|none=>.any
  | .qE _ lo hi=>.lit (.int .i64 ((hi-lo:Nat):Int))
  | .lit (.string b)=>.lit (.int .i64 b.size)
  |_=>.any
 | .mx x y =>
  match s.ev x,s.ev y with
  | .lit (.int k a),.lit (.int _ b)=>.lit (.int k (if a<b then b else a))
  |_,_=>.any
 | .mk z ps=>.agg (Jk z (ps.map fun p=>(p.1,p.2.1,s.ev p.2.2)))
 | .ms _ k z n ps=>.sl k true (sO (List.replicate n z) (ps.map fun p=>(p.1,s.ev p.2)))
 | .sl k x lo hi mx=>Ry k (s.ev x) (lo.map s.ev) (hi.map s.ev) (mx.map s.ev)
 | .Yr k x lo hi mx =>
  match s.ev x with
  | .own i=>match s.hp i with|some ob=>AZ i ob (lo.map s.ev) (hi.map s.ev) (mx.map s.ev)|none=>.any
  |t=>Ry k t (lo.map s.ev) (hi.map s.ev) (mx.map s.ev)
 | .ss x lo hi =>
  match s.ev x,lo.map s.ev,hi.map s.ev with
  | .lit (.string b),none,none=>.lit (.string (b.extract 0 b.size))
  | .lit (.string b),some (.lit (.int _ i)),none=>.lit (.string (b.extract i.toNat b.size))
  | .lit (.string b),none,some (.lit (.int _ j))=>.lit (.string (b.extract 0 j.toNat))
  | .lit (.string b),some (.lit (.int _ i)),some (.lit (.int _ j))=>.lit (.string (b.extract i.toNat j.toNat))
  |_,_,_=>.any
 | .ex x i=>match s.ev x with| .dW l=>l.getD i .any|_=>.any
 | .mf f cap=>.fn f (cap.map s.ev)
 | .mb f x=>match s.ev x with| .agg l=>.fn (f+4096) l|_=>.any
 | .eqs ne _ x y =>
  match s.ev x,s.ev y with
  | .agg l,.agg l'=>.lit (.bool (bif ne then !(uz l l') else uz l l'))
  |_,_=>.any
 |_=>.any
def qc(s:AS):oQ->Prop
 | .mv _=>True
 | .pick c _ _=>isBool (s.ev c)=true
 | .bin op x y =>
  match s.ev x,s.ev y with
  | .lit u,.lit v=>(Ed op u v).isSome=true
  |_,_=>False
 | .bb _ x y=>(isBool (s.ev x)&&isBool (s.ev y))=true
 | .not x=>isBool (s.ev x)=true
 | .conv _ x=>match s.ev x with| .lit (.int _ _)=>True|_=>False
 | .fa off k x =>
  match s.ev x with
  | .ptr i _ _=>(s.hp i).isSome=true
  | .ref kt _=>(!(kt==0)&&qF (bn kt) off k)=true
  |_=>False
 | .ia k x i =>
  match s.ev x,s.ev i with
  | .sl k' _ l,.lit (.int _ n)=>k'=k/\inR n l.length
  | .own o,.lit (.int _ n)=>match s.hp o with|some ob=>ob.k=k/\inR n ob.l.length|none=>False
  | .qE o lo hi,.lit (.int _ n)=>match s.hp o with|some ob=>ob.k=k/\inR n (hi-lo)|none=>False
  |_,_=>False
 | .ch x i =>
  match s.ev x,s.ev i with
  | .lit (.string b),.lit (.int _ n)=>inR n b.size
  |_,_=>False
 | .ld k x =>
  match s.ev x with
  | .ref k' _=>(k'==k&&Nat.blt 0 (bn k))=true
  | .ptr i j off =>
   match s.hp i with
   |some ob=>j<ob.l.length/\((off==0&&ob.k==k)||(!(ob.k==0)&&qF (bn ob.k) off k))=true
   |none=>False
  |_=>False
 | .nc x=>match s.ev x with| .ptr i _ _=>(s.hp i).isSome=true| .ref _ _=>True| .fn _ _=>True|_=>False
 | .len str x =>
  match s.ev x with
  | .sl _ _ _=>str=false
  | .own o=>match s.hp o with|some ob=>str=false/\ob.k≠1000000007|none=>False
  | .qE i _ _=>str=false/\(s.hp i).isSome=true
  | .lit (.string _)=>str=true
  |_=>False
 | .mx x y =>
  match s.ev x,s.ev y with
  | .lit (.int _ _),.lit (.int _ _)=>True
  |_,_=>False
 | .mk z ps=>(Ii z (ps.map fun p=>(p.1,p.2.1,s.ev p.2.2))&&xu s.hp (ps.map fun p=>s.ev p.2.2))=true
 | .ms _ k z n ps=>((z.kd==k)&&z.free&&KX k n (ps.map fun p=>(p.1,s.ev p.2))&&xu s.hp (ps.map fun p=>s.ev p.2)&&T.bW (ps.map fun p=>s.ev p.2)&&Nat.ble (n*bn k) 16777216&&Nat.blt 0 (bn k))=true
 | .sl k x lo hi mx=>slC k (s.ev x) (lo.map s.ev) (hi.map s.ev) (mx.map s.ev)
 | .Yr k x lo hi mx =>
  match s.ev x with
  | .own i=>match s.hp i with|some ob=>Gf k ob (lo.map s.ev) (hi.map s.ev) (mx.map s.ev)|none=>False
  |t=>slC k t (lo.map s.ev) (hi.map s.ev) (mx.map s.ev)
 | .ss x lo hi =>
  match s.ev x,lo.map s.ev,hi.map s.ev with
  | .lit (.string _),none,none=>True
  | .lit (.string b),some (.lit (.int _ i)),none=>0<=i/\i<=b.size
  | .lit (.string b),none,some (.lit (.int _ j))=>0<=j/\j<=b.size
  | .lit (.string b),some (.lit (.int _ i)),some (.lit (.int _ j))=>0<=i/\i<=j/\j<=b.size
  |_,_,_=>False
 | .ex x i=>match s.ev x with| .dW l=>Nat.blt i l.length=true|_=>False
 | .mf f cap=>(Ac s.hp (cap.map s.ev)&&Nat.blt f 4096)=true
 | .mb f x=>match s.ev x with| .agg _=>f<4096|_=>False
 | .eqs _ n x y =>
  match s.ev x,s.ev y with
  | .agg l,.agg l'=>(rD l&&rD l'&&(l.length==n)&&(l'.length==n))=true
  |_,_=>False
 |_=>False
def bG:oQ->Bool
 | .box .. =>false
 | .al .. =>false
 | .make .. =>false
 | .st .. =>false
 | .app .. =>false
 | .call .. =>false
 | .oM .. =>false
 | .AY .. =>false
 | .Ve .. =>false
 | .Bz .. =>false
 | .bot=>false
 |_=>true
inductive sQ where
 |normal
 |exit (id:Nat)
 |ret
structure Env where
 w:World
 S:Nat->Prop
 φ:Nat->Value
 κ:Nat->Nat
 h:Hp
mutual
def T.ids(M:Nat->Prop):T->Prop
 | .lit _=>True
 | .agg l=>T.aS M l
 | .sl _ _ _=>True
 | .ref _ _=>True
 | .own i=>M i
 | .ptr i _ _=>M i
 | .qE i _ _=>M i
 | .fn _ cap=>T.aS M cap
 | .dW l=>T.aS M l
 | .any=>True
def T.aS(M:Nat->Prop):List T->Prop
 |[]=>True
 |t::ts=>T.ids M t/\T.aS M ts
end
mutual
def aO(E:Env):T->List Value->Prop
 | .lit v,vs=>vs=[v]
 | .agg l,vs=>aX E l vs
 | .sl k full l,vs=> ∃ a c,vs=[.slice a l.length c]/\l.length<=c/\(full=true->c=l.length) /\
   (l=[]\/ ∃ b off cur e m,a=some ⟨b,off,none⟩/\E.S b/\E.w.heap[b]? =some (.cells cur e m)/\T.aS (fun _=>False) l/\aG E k l (cur.toList.drop off))
 | .ref k t,vs=> ∃ b off cur e m,vs=[.pointer (some ⟨b,off,none⟩)]/\E.S b/\E.w.heap[b]? =some (.cells cur e m)/\t.kd=k/\t.ids (fun _=>False) /\
   bn k<=(cur.toList.drop off).length/\aO E t ((cur.toList.drop off).take (bn k))
 | .own i,vs=> ∃ u,vs=[u]/\((E.h i).isSome=true->u=E.φ i)
 | .ptr i j off,vs=> ∃ u,vs=[u]/\((E.h i).isSome=true-> ∃ b n c,E.φ i= .slice (some ⟨b,0,none⟩) n c/\u= .pointer (some ⟨b,j*bn (E.κ i)+off,none⟩))
 | .qE i lo hi,vs=> ∃ u,vs=[u]/\((E.h i).isSome=true-> ∃ ad n c,E.φ i= .slice ad n c/\lo<=hi/\hi<=n/\n<=c/\u= .slice (if c=lo then ad else ad.map (·.add (lo*bn (E.κ i)))) (hi-lo) (c-lo))
 | .fn f cap,vs=> ∃ cs:Array Value,vs=[fnV f cs]/\aX E cap cs.toList
 | .dW l,vs=> ∃ cs:Array Value,vs=[.tuple cs]/\bM E l cs.toList
 | .any,_=>True
def aX(E:Env):List T->List Value->Prop
 |[],vs=>vs=[]
 |t::ts,vs=>t.kd=0/\ ∃ v r,vs=v::r/\v.oneCell'=true/\aO E t [v]/\aX E ts r
def bM(E:Env):List T->List Value->Prop
 |[],vs=>vs=[]
 |t::ts,vs=> ∃ v r,vs=v::r/\((t.kd≠0/\ ∃ cs:Array Value,v= .agg cs/\aO E t cs.toList)\/(t.kd=0/\aO E t [v]))/\bM E ts r
def aG(E:Env)(k:Nat):List T->List Value->Prop
 |[],_=>True
 |t::ts,vs=>t.kd=k/\bn k<=vs.length/\(∀ v∈vs.take (bn k),v.oneCell'=true)/\aO E t (vs.take (bn k))/\aG E k ts (vs.drop (bn k))
end
def jQ(E:Env)(t:T)(v:Value):Prop :=
 (t.kd≠0/\ ∃ cs:Array Value,v= .agg cs/\aO E t cs.toList)\/(t.kd=0/\aO E t [v])
theorem dH{E:Env}{t:T}{ts:List T}{vs:List Value}:bM E (t::ts) vs↔ ∃ v r,vs=v::r/\jQ E t v/\bM E ts r:=by
 simp only[bM,jQ]
section mono
variable {E E':Env}
structure Keeps(E E':Env)(M:Nat->Prop):Prop where
 s: ∀ b,E.S b->E'.S b
 w: ∀ b,E.S b->E'.w.heap[b]? =E.w.heap[b]?
 i: ∀ i,M i->(E'.h i).isSome=true->(E.h i).isSome=true/\E'.φ i=E.φ i/\E'.κ i=E.κ i
theorem Keeps.no{M:Nat->Prop}(h:Keeps E E' M):Keeps E E' (fun _=>False):=⟨h.s,h.w,fun _ hf=>hf.elim⟩
mutual
theorem fQ:(t:T)->(M:Nat->Prop)->Keeps E E' M->t.ids M->(vs:List Value)->aO E t vs->aO E' t vs
 | .lit v,_,_,_,vs,h=>by simpa [aO] using h
 | .agg l,M,hK,hm,vs,h=>by
  simp only[aO] at h ⊢;exact Ad l M hK (by simpa [T.ids] using hm) vs h
 | .sl k full l,M,hK,hm,vs,h=>by
  simp only[aO] at h ⊢;obtain⟨a,c,h1,h2,h3,h4⟩:=h;refine⟨a,c,h1,h2,h3,?_⟩;rcases h4 with h4|⟨b,off,cur,e,m,ha,hb,hh,hf,hr⟩
  ·exact .inl h4
  ·exact .inr ⟨b,off,cur,e,m,ha,hK.s b hb,by rw[hK.w b hb]; exact hh,hf,dN l k _ hK.no hf _ hr⟩
 | .ref k t,M,hK,hm,vs,h=>by
  simp only[aO] at h ⊢;obtain⟨b,off,cur,e,m,h1,hb,hh,hk,hf,hl,hr⟩:=h;exact⟨b,off,cur,e,m,h1,hK.s b hb,by rw[hK.w b hb]; exact hh,hk,hf,hl,fQ t _ hK.no hf _ hr⟩
 | .own i,M,hK,hm,vs,h=>by
  simp only[aO] at h ⊢;simp only[T.ids] at hm;obtain⟨u,h1,h2⟩:=h;refine⟨u,h1,fun hd=>?_⟩;obtain⟨g1,g2,g3⟩:=hK.i i hm hd;rw[g2]; exact h2 g1
 | .ptr i j off,M,hK,hm,vs,h=>by
  simp only[aO] at h ⊢;simp only[T.ids] at hm;obtain⟨u,h1,h2⟩:=h;refine⟨u,h1,fun hd=>?_⟩;obtain⟨g1,g2,g3⟩:=hK.i i hm hd;rw[g2,g3]; exact h2 g1
 | .qE i lo hi,M,hK,hm,vs,h=>by
  simp only[aO] at h ⊢;simp only[T.ids] at hm;obtain⟨u,h1,h2⟩:=h;refine⟨u,h1,fun hd=>?_⟩;obtain⟨g1,g2,g3⟩:=hK.i i hm hd;rw[g2,g3]; exact h2 g1
 | .fn f cap,M,hK,hm,vs,h=>by
  simp only[aO] at h ⊢;obtain⟨cs,h1,h2⟩:=h;exact⟨cs,h1,Ad cap M hK (by simpa [T.ids] using hm) _ h2⟩
 | .dW l,M,hK,hm,vs,h=>by
  simp only[aO] at h ⊢;obtain⟨cs,h1,h2⟩:=h;exact⟨cs,h1,jW l M hK (by simpa [T.ids] using hm) _ h2⟩
 | .any,_,_,_,vs,h=>by simp[aO]
theorem Ad:(l:List T)->(M:Nat->Prop)->Keeps E E' M->T.aS M l->(vs:List Value)->aX E l vs->aX E' l vs
 |[],_,_,_,vs,h=>by simpa [aX] using h
 |t::ts,M,hK,hm,vs,h=>by
  simp only[aX] at h ⊢;simp only[T.aS] at hm;obtain⟨hk,v,r,h1,h0,h2,h3⟩:=h;exact⟨hk,v,r,h1,h0,fQ t M hK hm.1 _ h2,Ad ts M hK hm.2 _ h3⟩
theorem jW:(l:List T)->(M:Nat->Prop)->Keeps E E' M->T.aS M l->(vs:List Value)->bM E l vs->bM E' l vs
 |[],_,_,_,vs,h=>by simpa [bM] using h
 |t::ts,M,hK,hm,vs,h=>by
  simp only[bM] at h ⊢;simp only[T.aS] at hm;obtain⟨v,r,h1,h2,h3⟩:=h;refine⟨v,r,h1,?_,jW ts M hK hm.2 _ h3⟩;rcases h2 with ⟨hk,cs,h4,h5⟩|⟨hk,h4⟩
  ·exact .inl ⟨hk,cs,h4,fQ t M hK hm.1 _ h5⟩
  ·exact .inr ⟨hk,fQ t M hK hm.1 _ h4⟩
theorem dN:(l:List T)->(k:Nat)->(M:Nat->Prop)->Keeps E E' M->T.aS M l->(vs:List Value)->aG E k l vs->aG E' k l vs
 |[],_,_,_,_,vs,h=>by simp[aG]
 |t::ts,k,M,hK,hm,vs,h=>by
  simp only[aG] at h ⊢;simp only[T.aS] at hm;obtain⟨hk,h1,h0,h2,h3⟩:=h;exact⟨hk,h1,h0,fQ t M hK hm.1 _ h2,dN ts k M hK hm.2 _ h3⟩
end
theorem Ij{M:Nat->Prop}(hK:Keeps E E' M){t:T}(hm:t.ids M){v:Value}(h:jQ E t v):jQ E' t v:=by
 rcases h with ⟨hk,cs,h4,h5⟩|⟨hk,h4⟩
 ·exact .inl ⟨hk,cs,h4,fQ t M hK hm _ h5⟩
 ·exact .inr ⟨hk,fQ t M hK hm _ h4⟩
end mono
section ids
variable {M M':Nat->Prop}
mutual
theorem T.bg(h: ∀ i,M i->M' i):(t:T)->t.ids M->t.ids M'
 | .lit _,_=>by simp[T.ids]
 | .agg l,hm=>by simp only[T.ids] at hm ⊢; exact T.aB h l hm
 | .sl _ _ _,_=>by simp[T.ids]
 | .ref _ _,_=>by simp[T.ids]
 | .own i,hm=>by simp only[T.ids] at hm ⊢; exact h i hm
 | .ptr i _ _,hm=>by simp only[T.ids] at hm ⊢; exact h i hm
 | .qE i _ _,hm=>by simp only[T.ids] at hm ⊢; exact h i hm
 | .fn _ cap,hm=>by simp only[T.ids] at hm ⊢; exact T.aB h cap hm
 | .dW l,hm=>by simp only[T.ids] at hm ⊢; exact T.aB h l hm
 | .any,_=>by simp[T.ids]
theorem T.aB(h: ∀ i,M i->M' i):(l:List T)->T.aS M l->T.aS M' l
 |[],_=>by simp[T.aS]
 |t::ts,hm=>by simp only[T.aS] at hm ⊢; exact⟨T.bg h t hm.1,T.aB h ts hm.2⟩
end
theorem bP{l:List T}:T.aS M l↔ ∀ t∈l,t.ids M:=by
 induction l with
 |nil=>simp[T.aS]
 |cons t ts ih=>simp[T.aS,ih]
theorem wC{l:List T}(h:T.aS M l){i:Nat}{d:T}(hd:d.ids M):(l.getD i d).ids M:=by
 rw[List.getD_eq_getElem?_getD];cases hg:l[i]? with
 |none=>simpa using hd
 |some t=>simpa using bP.1 h t (List.mem_of_getElem? hg)
theorem xw{l:List T}(h:T.aS M l){i:Nat}{t:T}(ht:t.ids M):T.aS M (l.set i t) :=
 bP.2 fun x hx=>by
  rcases List.mem_or_eq_of_mem_set hx with h'|rfl
  ·exact bP.1 h x h'
  ·exact ht
theorem fK{a b:List T}:T.aS M (a++b)↔T.aS M a/\T.aS M b:=by
 simp only[bP,List.mem_append];exact⟨fun h=>⟨fun t ht=>h t (.inl ht),fun t ht=>h t (.inr ht)⟩,fun h t ht=>ht.elim (h.1 t) (h.2 t)⟩
theorem wE{l:List T}(h:T.aS M l)(n:Nat):T.aS M (l.take n):=bP.2 fun t ht=>bP.1 h t (List.mem_of_mem_take ht)
theorem zl{l:List T}(h:T.aS M l)(n:Nat):T.aS M (l.drop n):=bP.2 fun t ht=>bP.1 h t (List.mem_of_mem_drop ht)
theorem wF{t:T}(h:t.ids M):T.aS M t.cells:=by
 cases t<;>simp_all[T.cells,T.ids,T.aS]
theorem Rz{t:T}(h:t.ids M)(off k:Nat):(t.part off k).ids M:=by
 cases k with
 |zero=>exact wC (wF h) (by simp[T.ids])
 |succ m=>simp only[T.part,T.ids]; exact wE (zl (wF h) _) _
end ids
section rep
variable {E:Env}
theorem aQ{v u:Value}:jQ E (.lit v) u↔u=v:=by
 simp[jQ,T.kd,aO]
theorem aF{t:T}(h:t.kd=0){v:Value}:jQ E t v↔aO E t [v]:=by
 simp[jQ,h]
theorem zn{l:List T}{v:Value}:jQ E (.agg l) v↔ ∃ cs:Array Value,v= .agg cs/\aX E l cs.toList:=by
 simp[jQ,T.kd,aO]
theorem mY: ∀ {l:List T} {vs:List Value},aX E l vs->vs.length=l.length:=by
 intro l;induction l with
 |nil=>intro vs h; simp[aX] at h; simp[h]
 |cons t ts ih =>
  intro vs h;simp only[aX] at h;obtain⟨_,v,r,rfl,_,_,h⟩:=h;simp[ih h]
theorem DL: ∀ {l:List T} {vs:List Value},aX E l vs-> ∀ v∈vs,v.oneCell'=true:=by
 intro l;induction l with
 |nil=>intro vs h; simp[aX] at h; simp[h]
 |cons t ts ih =>
  intro vs h;simp only[aX] at h;obtain⟨_,v,r,rfl,h1,_,h⟩:=h;intro u hu;rcases List.mem_cons.1 hu with rfl|hu
  ·exact h1
  ·exact ih h u hu
theorem pY: ∀ {l:List T} {vs:List Value},bM E l vs->vs.length=l.length:=by
 intro l;induction l with
 |nil=>intro vs h; simp[bM] at h; simp[h]
 |cons t ts ih =>
  intro vs h;rw[dH] at h;obtain⟨v,r,rfl,_,h⟩:=h;simp[ih h]
theorem xA: ∀ {l:List T} {vs:List Value},bM E l vs-> ∀ i,jQ E (l.getD i T.un) (vs.getD i undef):=by
 intro l;induction l with
 |nil=>intro vs h i; simp[bM] at h; subst h; simp[aQ,undef]
 |cons t ts ih =>
  intro vs h i;rw[dH] at h;obtain⟨v,r,rfl,h1,h2⟩:=h;cases i with
  |zero=>simpa using h1
  |succ i=>simpa using ih h2 i
theorem Ik: ∀ {l:List T} {vs:List Value},bM E l vs-> ∀ (i:Nat) {t:T} {v:Value},jQ E t v->bM E (l.set i t) (vs.set i v):=by
 intro l;induction l with
 |nil=>intro vs h i t v _; simp[bM] at h; subst h; simp[bM]
 |cons t ts ih =>
  intro vs h i t' v' hv;rw[dH] at h;obtain⟨v,r,rfl,h1,h2⟩:=h;cases i with
  |zero=>simp only[List.set_cons_zero,dH]; exact⟨v',r,rfl,hv,h2⟩
  |succ i=>simp only[List.set_cons_succ,dH]; exact⟨v,_,rfl,h1,ih h2 i hv⟩
theorem Gg: ∀ {l l':List T} {vs vs':List Value},bM E l vs->bM E l' vs'->bM E (l++l') (vs++vs'):=by
 intro l;induction l with
 |nil=>intro l' vs vs' h h'; simp[bM] at h; subst h; simpa using h'
 |cons t ts ih =>
  intro l' vs vs' h h';rw[dH] at h;obtain⟨v,r,rfl,h1,h2⟩:=h;rw[List.cons_append,List.cons_append,dH];exact⟨v,_,rfl,h1,ih h2 h'⟩
theorem Oh: ∀ {l:List T} {vs:List Value},aX E l vs-> ∀ {i:Nat},i<l.length ->
  ∃ v,vs[i]? =some v/\(l.getD i .any).kd=0/\v.oneCell'=true/\aO E (l.getD i .any) [v]:=by
 intro l;induction l with
 |nil=>intro vs h i hi; simp at hi
 |cons t ts ih =>
  intro vs h i hi;simp only[aX] at h;obtain⟨hk,v,r,rfl,h0,h1,h2⟩:=h;cases i with
  |zero=>exact⟨v,by simp,by simpa using hk,h0,by simpa using h1⟩
  |succ i=>simpa using ih h2 (by simpa using hi)
theorem Gh{l l':List T}{vs:List Value}:aX E (l++l') vs↔ ∃ a b,vs=a++b/\aX E l a/\aX E l' b:=by
 induction l generalizing vs with
 |nil =>
  simp only[List.nil_append,aX];exact⟨fun h=>⟨[],vs,rfl,rfl,h⟩,fun⟨a,b,h1,h2,h3⟩=>by subst h2; simp at h1; subst h1; exact h3⟩
 |cons t ts ih =>
  simp only[List.cons_append,aX,ih];constructor
  ·rintro⟨hk,v,r,rfl,h0,h1,a,b,rfl,h2,h3⟩;exact⟨v::a,b,rfl,⟨hk,v,a,rfl,h0,h1,h2⟩,h3⟩
  ·rintro⟨a,b,rfl,⟨hk,v,r,rfl,h0,h1,h2⟩,h3⟩;exact⟨hk,v,r++b,rfl,h0,h1,r,b,rfl,h2,h3⟩
theorem KY{l:List T}{vs:List Value}(h:aX E l vs)(n:Nat):aX E (l.take n) (vs.take n):=by
 induction l generalizing vs n with
 |nil=>simp[aX] at h; subst h; simp[aX]
 |cons t ts ih =>
  simp only[aX] at h;obtain⟨hk,v,r,rfl,h0,h1,h2⟩:=h;cases n with
  |zero=>simp[aX]
  |succ n=>simp only[List.take_succ_cons,aX]; exact⟨hk,v,_,rfl,h0,h1,ih h2 n⟩
theorem KZ{l:List T}{vs:List Value}(h:aX E l vs)(n:Nat):aX E (l.drop n) (vs.drop n):=by
 induction l generalizing vs n with
 |nil=>simp[aX] at h; subst h; simp[aX]
 |cons t ts ih =>
  simp only[aX] at h;obtain⟨hk,v,r,rfl,h0,h1,h2⟩:=h;cases n with
  |zero=>simp only[List.drop_zero,aX]; exact⟨hk,v,r,rfl,h0,h1,h2⟩
  |succ n=>simpa using ih h2 n
theorem xB{t:T}{vs:List Value}(hk:t.kd≠0):aO E t vs↔aX E t.cells vs:=by
 cases t<;>simp_all[T.kd,T.cells,aO]
theorem cells_one{v:Value}(h:v.oneCell'=true):v.cells= #[v]:=by
 cases v<;>simp_all[Value.cells,Value.oneCell']
theorem Ej{t:T}(h:t.kd=0):t.cells=[t]:=by cases t<;>simp_all[T.kd,T.cells]
theorem Vf{t:T}{v:Value}(h:jQ E t v)(ht:t.kd=0->v.oneCell'=true):aX E t.cells v.cells.toList:=by
 rcases h with ⟨hk,cs,rfl,h⟩|⟨hk,h⟩
 ·rw[xB hk] at h; simpa [Value.cells] using h
 ·rw[Ej hk,cells_one (ht hk)];simp only[aX];exact⟨hk,v,[],rfl,ht hk,h,rfl⟩
theorem qG(t:T):bn t.kd=t.cells.length:=by cases t<;>simp[T.kd,bn,T.cells]
theorem RD{t:T}{vs:List Value}(h:aO E t vs)(hk:t.kd≠0):vs.length=bn t.kd:=by
 rw[xB hk] at h; rw[qG]; exact mY h
theorem ade{t:T}{off k:Nat}(h:qF t.cells.length off k=true)(hs:k=0->(t.cells.getD off .any).kd=0):(t.part off k).kd=k:=by
 cases k with
 |zero=>exact hs rfl
 |succ m =>
  simp only[T.part,T.kd,qF,bn,Nat.ble_eq] at h ⊢;simp only[List.length_take,List.length_drop]; omega
theorem Oi{t:T}{vs:List Value}(h:aO E t vs)(hk:t.kd≠0){off k:Nat}(ho:qF t.cells.length off k=true) :
  aO E (t.part off k) ((vs.drop off).take (bn k))/\(t.part off k).kd=k/\off+bn k<=vs.length:=by
 have hl:=RD h hk;rw[qG] at hl;rw[xB hk] at h;have ho':=ho;simp only[qF,Nat.ble_eq] at ho';cases k with
 |zero =>
  simp only[bn] at ho' ⊢;obtain⟨v,hv,hkd,_,hr⟩:=Oh h (i:=off) (by omega);refine⟨?_,hkd,by omega⟩
  have:(vs.drop off).take 1=[v]:=by
   rw[List.getElem?_eq_some_iff] at hv;obtain⟨hlt,rfl⟩:=hv;rw[List.drop_eq_getElem_cons hlt,List.take_succ_cons,List.take_zero]
  rw[this]; exact hr
 |succ m =>
  refine⟨?_,ade ho (by simp),by omega⟩;simp only[T.part,aO,bn];exact KY (KZ h _) _
theorem uQ: ∀ {k:Nat} {l:List T} {vs:List Value},aG E k l vs-> ∀ {j:Nat},j<l.length ->
  (l.getD j .any).kd=k/\j*bn k+bn k<=vs.length/\(∀ v∈(vs.drop (j*bn k)).take (bn k),v.oneCell'=true)/\aO E (l.getD j .any) ((vs.drop (j*bn k)).take (bn k)):=by
 intro k l;induction l with
 |nil=>intro vs _ j hj; simp at hj
 |cons t ts ih =>
  intro vs h j hj;simp only[aG] at h;obtain⟨hk,hl,h0,h1,h2⟩:=h;cases j with
  |zero=>simpa using ⟨hk,hl,h0,h1⟩
  |succ j =>
   obtain⟨g1,g2,g0,g3⟩:=ih h2 (j:=j) (by simpa using hj);rw[List.drop_drop,show bn k+j*bn k=(j+1)*bn k by rw[Nat.add_mul]; omega] at g3 g0;refine⟨by simpa using g1,?_,g0,by simpa using g3⟩;rw[List.length_drop] at g2; rw[Nat.add_mul]; omega
theorem xC{n:Nat}{vs ws:List Value}(he: ∀ i,i<n->ws[i]? =vs[i]?):ws.take n=vs.take n:=by
 apply List.ext_getElem?;intro i;by_cases hi:i<n
 ·rw[List.getElem?_take_of_lt hi,List.getElem?_take_of_lt hi]; exact he i hi
 ·rw[List.getElem?_take_eq_none (by omega),List.getElem?_take_eq_none (by omega)]
theorem jm: ∀ {k:Nat} {l:List T} {vs ws:List Value},aG E k l vs->(∀ i,i<l.length*bn k->ws[i]? =vs[i]?)->aG E k l ws:=by
 intro k l;induction l with
 |nil=>intro vs ws _ _; simp[aG]
 |cons t ts ih =>
  intro vs ws h he;simp only[aG] at h ⊢;obtain⟨hk,hl,h0,h1,h2⟩:=h;have hlen:(t::ts).length*bn k=ts.length*bn k+bn k:=by rw[List.length_cons,Nat.add_mul]; omega
  have htake:ws.take (bn k)=vs.take (bn k):=xC fun i hi=>he i (by omega)
  refine⟨hk,?_,by rw[htake]; exact h0,by rw[htake]; exact h1,ih h2 fun i hi=>?_⟩
  ·have:=congrArg List.length htake;simp only[List.length_take] at this; omega
  ·rw[List.getElem?_drop,List.getElem?_drop]; exact he _ (by omega)
theorem BX: ∀ {k:Nat} {l:List T} {vs:List Value},aG E k l vs->l.length*bn k<=vs.length:=by
 intro k l;induction l with
 |nil=>intro vs _; simp
 |cons t ts ih =>
  intro vs h;simp only[aG] at h;obtain⟨_,h1,_,_,h2⟩:=h;have:=ih h2;rw[List.length_drop] at this;rw[List.length_cons,Nat.add_mul]; omega
theorem RF: ∀ {k:Nat} {l:List T} {vs:List Value},aG E k l vs-> ∀ v∈vs.take (l.length*bn k),v.oneCell'=true:=by
 intro k l;induction l with
 |nil=>intro vs _; simp
 |cons t ts ih =>
  intro vs h;simp only[aG] at h;obtain⟨_,h1,h0,_,h2⟩:=h;intro v hv;rw[List.length_cons,Nat.add_mul,Nat.one_mul,Nat.add_comm,List.take_add] at hv;rcases List.mem_append.1 hv with hv|hv
  ·exact h0 v hv
  ·exact ih h2 v hv
theorem vY: ∀ {k:Nat} {l:List T} {vs:List Value},aG E k l vs-> ∀ n,aG E k (l.take n) vs:=by
 intro k l;induction l with
 |nil=>intro vs _ n; simp[aG]
 |cons t ts ih =>
  intro vs h n;cases n with
  |zero=>simp[aG]
  |succ n =>
   simp only[aG,List.take_succ_cons] at h ⊢;exact⟨h.1,h.2.1,h.2.2.1,h.2.2.2.1,ih h.2.2.2.2 n⟩
theorem Ae: ∀ {k:Nat} {l:List T} {vs:List Value},aG E k l vs-> ∀ n,n<=l.length->aG E k (l.drop n) (vs.drop (n*bn k)):=by
 intro k l;induction l with
 |nil=>intro vs _ n _; simp[aG]
 |cons t ts ih =>
  intro vs h n hn;cases n with
  |zero=>simpa using h
  |succ n =>
   simp only[aG] at h;have:=ih h.2.2.2.2 n (by simpa using hn);rw[List.drop_drop,show bn k+n*bn k=(n+1)*bn k by rw[Nat.add_mul]; omega] at this;simpa using this
theorem sS: ∀ {k:Nat} {l l':List T} {vs:List Value},aG E k (l++l') vs↔aG E k l vs/\aG E k l' (vs.drop (l.length*bn k)):=by
 intro k l;induction l with
 |nil=>intro l' vs; simp[aG]
 |cons t ts ih =>
  intro l' vs;simp only[List.cons_append,aG,ih,List.drop_drop,List.length_cons];rw[show bn k+ts.length*bn k=(ts.length+1)*bn k by rw[Nat.add_mul]; omega];constructor
  ·rintro⟨h1,h2,h0,h3,h4,h5⟩; exact⟨⟨h1,h2,h0,h3,h4⟩,h5⟩
  ·rintro⟨⟨h1,h2,h0,h3,h4⟩,h5⟩; exact⟨h1,h2,h0,h3,h4,h5⟩
theorem Jl: ∀ {k:Nat} {l:List T} {vs ws:List Value},aG E k l vs-> ∀ {j:Nat} {t:T},t.kd=k->j<l.length ->
  ws.length=vs.length->(∀ v∈(ws.drop (j*bn k)).take (bn k),v.oneCell'=true)->aO E t ((ws.drop (j*bn k)).take (bn k)) ->
  (∀ i,i<j*bn k\/j*bn k+bn k<=i->ws[i]? =vs[i]?)->aG E k (l.set j t) ws:=by
 intro k l;induction l with
 |nil=>intro vs ws _ j t _ hj; simp at hj
 |cons t ts ih =>
  intro vs ws h j t' hk' hj hlen ho hr he;simp only[aG] at h;obtain⟨hk,hl,h0,h1,h2⟩:=h;cases j with
  |zero =>
   simp only[List.set_cons_zero,aG];refine⟨hk',by omega,by simpa using ho,by simpa using hr,jm h2 fun i _=>?_⟩;rw[List.getElem?_drop,List.getElem?_drop]; exact he _ (.inr (by omega))
  |succ j =>
   have e1:(j+1)*bn k=j*bn k+bn k:=by rw[Nat.add_mul]; omega
   simp only[List.set_cons_succ,aG];have htake:ws.take (bn k)=vs.take (bn k):=xC fun i hi=>he i (.inl (by omega))
   have e2:bn k+j*bn k=(j+1)*bn k:=by omega
   refine⟨hk,by omega,by rw[htake]; exact h0,by rw[htake]; exact h1,ih h2 hk' (by simpa using hj) (by simp[hlen]) ?_ ?_ fun i hi=>?_⟩
   ·rw[List.drop_drop,e2]; exact ho
   ·rw[List.drop_drop,e2]; exact hr
   ·rw[List.getElem?_drop,List.getElem?_drop]; exact he _ (by omega)
theorem xE{k:Nat}{t:T}{vs:List Value}(hk:t.kd=k)(hl:vs.length=bn k)(h1: ∀ v∈vs,v.oneCell'=true)(h:aO E t vs):aG E k [t] vs:=by
 simp only[aG]
 have:vs.take (bn k)=vs:=by rw[<- hl,List.take_length]
 rw[this];exact⟨hk,by omega,h1,h,trivial⟩
end rep
@[reducible] def iL:Nat:=1000000007
def Bo(k:Nat):Bool:=Nat.blt 0 (bn k)&&Nat.blt k 1000000007
theorem DN{k:Nat}(h:Bo k=true):0<bn k/\k≠iL:=by
 simp only[Bo,Bool.and_eq_true,Nat.blt_eq] at h;exact⟨h.1,by simp only[iL]; omega⟩
structure Fr(P:Program) where
 s:Nat->Prop
 dl:List Deferred:=[]
instance {P:Program}:CoeFun (Fr P) (fun _=>Nat->Prop):=⟨Fr.s⟩
def yS(P:Program)(g:Nat):Option (Array Value) :=
 if P.globalNamed "strings.asciiSpace" = some g then some (Lib.asciiSpaceTab.map fun z=>Value.int .u8 z).toArray else none
def rowB:Value->Option Nat
 | .slice (some a) _ (_+1)=>some a.block
 | .map (some g)=>some g
 |_=>none
def mZ(E:Env):List T->List MapEntry->Prop
 |[],es=>es=[]
 |t::ts,es=> ∃ n u e r,t= .dW [.lit (.int .i64 n),u]/\es=e::r/\e.key= .int .i64 n/\u.kd=0/\e.val.oneCell'=true/\aO E u [e.val]/\mZ E ts r
def RG(E:Env)(ob:Ob)(v:Value):Prop :=
 (∃ a,v= .slice a 0 0/\ob.l=[]) \/
 ∃ g c cur,v= .slice (some ⟨g,0,none⟩) ob.l.length (c+1)/\ob.l.length<=c+1/\c+1<=maxLen/\E.w.heap[g]? =some (.cells cur ob.ty (0,0)) /\
  cur.size=(c+1)*bn ob.k/\aG E ob.k ob.l cur.toList
def aeW(E:Env)(ob:Ob)(v:Value):Prop :=
 ∃ g es clock,v= .map (some g)/\E.w.heap[g]? =some (.map es clock)/\mZ E ob.l es.toList
def uS(E:Env)(ob:Ob)(v:Value):Prop:=(ob.k≠iL/\RG E ob v)\/(ob.k=iL/\aeW E ob v)
theorem uS.row{E:Env}{ob:Ob}{v:Value}(h:uS E ob v)(hk:ob.k≠iL):RG E ob v:=by
 rcases h with h|h
 ·exact h.2
 ·exact absurd h.1 hk
theorem uS.map{E:Env}{ob:Ob}{v:Value}(h:uS E ob v)(hk:ob.k=iL):aeW E ob v:=by
 rcases h with h|h
 ·exact absurd hk h.1
 ·exact h.2
theorem uS.of_slice{E:Env}{ob:Ob}{v:Value}(h:uS E ob v){a:Option Addr}{n c:Nat}(hv:v= .slice a n c):RG E ob v/\ob.k≠iL:=by
 rcases h with h|⟨_,g,es,cl,h1,_⟩
 ·exact⟨h.2,h.1⟩
 ·rw[hv] at h1; cases h1
structure rX{P:Program}(F:Fr P)(E:Env):Prop where
 obs: ∀ i ob,E.h i=some ob->uS E ob (E.φ i)/\E.κ i=ob.k/\0<bn ob.k
 out: ∀ i ob g,E.h i=some ob->rowB (E.φ i)=some g-> ¬ E.S g/\ ¬ F g
 sep: ∀ i j oi oj g,i≠j->E.h i=some oi->E.h j=some oj->rowB (E.φ i)=some g->rowB (E.φ j)=some g->False
 slt: ∀ g,E.S g->g<E.w.heap.size
 flt: ∀ g,F g->g<E.w.heap.size
 sf: ∀ g,E.S g->F g->False
 gl: ∀ g cs,yS P g=some cs->F g/\ ∃ ty m,E.w.heap[g]? =some (.cells cs ty m)
def qg(M:Nat->Prop)(h:Hp):Prop:= ∀ i ob,h i=some ob->M i/\T.aS M ob.l
structure Rel{P:Program}(F:Fr P)(M:Nat->Prop)(E:Env)(s:AS)(a:Act):Prop where
 hk:rX F E
 he:E.h=s.hp
 fr:bM E s.fr a.tmps.toList
 df:a.defers=F.dl
 mf:T.aS M s.fr
 mh:qg M s.hp
structure Ext{P:Program}(F:Fr P)(E E':Env):Prop where
 s: ∀ g,E.S g->E'.S g
 w: ∀ g,E.S g\/F g->E'.w.heap[g]? =E.w.heap[g]?
 size:E.w.heap.size<=E'.w.heap.size
 os:E'.w.os=E.w.os
 tape:E'.w.tape=E.w.tape
 output:E'.w.output=E.w.output
 dr:E.w.drawn<=E'.w.drawn
theorem Ext.gl{P:Program}{F:Fr P}{E E':Env}(h:Ext F E E')(hk:rX F E): ∀ g cs,yS P g=some cs->F g/\ ∃ ty m,E'.w.heap[g]? =some (.cells cs ty m):=fun g cs hg=>by
 obtain⟨h1,ty,m,h2⟩:=hk.gl g cs hg;exact⟨h1,ty,m,by rw[h.w g (.inr h1)]; exact h2⟩
theorem Ext.refl{P:Program}(F:Fr P)(E:Env):Ext F E E:=⟨fun _ h=>h,fun _ _=>rfl,Nat.le_refl _,rfl,rfl,rfl,Nat.le_refl _⟩
theorem Ext.trans{P:Program}{F:Fr P}{E E' E'':Env}(h:Ext F E E')(h':Ext F E' E''):Ext F E E'' :=
 ⟨fun g hg=>h'.s g (h.s g hg),fun g hg=>(h'.w g (hg.imp (h.s g) id)).trans (h.w g hg),Nat.le_trans h.size h'.size,
  h'.os.trans h.os,h'.tape.trans h.tape,h'.output.trans h.output,Nat.le_trans h.dr h'.dr⟩
def Same(E E':Env)(M:Nat->Prop):Prop :=
 ∀ i,M i->(E'.h i).isSome=true->(E.h i).isSome=true/\E'.φ i=E.φ i/\E'.κ i=E.κ i
theorem Keeps.of{P:Program}{F:Fr P}{M:Nat->Prop}{E E':Env}(h:Ext F E E')(hs:Same E E' M):Keeps E E' M :=
 ⟨h.s,fun b hb=>h.w b (.inl hb),hs⟩
def callable(P:Program)(f:FuncId):Prop:= ∀ args w,Sem.run P (callFunc f args) w= .ok (.enter f args) w
def Ends{P:Program}(F:Fr P)(M:Nat->Prop)(E:Env)(n:Nat)(post:T->Hp->Prop)(e:Ending)(w':World):Prop :=
 ∃ v t E',e= .returned v/\E'.w=w'/\post t E'.h/\jQ E' t v/\rX F E'/\Ext F E E'/\Same E E' M /\
  t.ids (fun i=>M i\/i=n)/\qg (fun i=>M i\/i=n) E'.h
def aP(P:Program)(f:FuncId)(ts:List T)(h:Hp)(n:Nat)(post:T->Hp->Prop):Prop :=
 (∃ t h',post t h')/\callable P f /\
 ∀ (F:Fr P) (M:Nat->Prop) (E:Env) (vs:List Value),rX F E->E.h=h->bM E ts vs->T.aS M ts->qg M h-> ¬ M n ->
  Calls P f vs.toArray E.w (Ends F M E n post)
theorem aP.mono{P:Program}{f:FuncId}{ts:List T}{h:Hp}{n:Nat}{post post':T->Hp->Prop}
  (H:aP P f ts h n post) (hp: ∀ t h',post t h'->post' t h'):aP P f ts h n post':=by
 obtain⟨⟨t,h',h1⟩,h2,h3⟩:=H;refine⟨⟨t,h',hp _ _ h1⟩,h2,fun F M E vs a b c d e g=>(h3 F M E vs a b c d e g).mono ?_⟩;rintro e w' ⟨v,t,E',r1,r2,r3,r4⟩;exact⟨v,t,E',r1,r2,hp _ _ r3,r4⟩
def agN{P:Program}(F:Fr P)(M:Nat->Prop)(E:Env)(n k:Nat)(post:T->Hp->Prop)(e:Ending)(w':World):Prop :=
 ∃ v t E',e= .returned v/\E'.w=w'/\post t E'.h/\jQ E' t v/\rX F E'/\Ext F E E'/\Same E E' M /\
  t.ids (fun i=>M i\/n<=i/\i<=n+k)/\qg (fun i=>M i\/n<=i/\i<=n+k) E'.h
def jL(P:Program)(f:FuncId)(ts:List T)(h:Hp)(n k:Nat)(post:T->Hp->Prop):Prop :=
 (∃ t h',post t h')/\callable P f /\
 ∀ (F:Fr P) (M:Nat->Prop) (E:Env) (vs:List Value),rX F E->E.h=h->bM E ts vs->T.aS M ts->qg M h->(∀ i,M i->i<n) ->
  Calls P f vs.toArray E.w (agN F M E n k post)
theorem jL.mono{P:Program}{f:FuncId}{ts:List T}{h:Hp}{n k:Nat}{post post':T->Hp->Prop}
  (H:jL P f ts h n k post) (hp: ∀ t h',post t h'->post' t h'):jL P f ts h n k post':=by
 obtain⟨⟨t,h',h1⟩,h2,h3⟩:=H;refine⟨⟨t,h',hp _ _ h1⟩,h2,fun F M E vs a b c d e g=>(h3 F M E vs a b c d e g).mono ?_⟩;rintro e w' ⟨v,t,E',r1,r2,r3,r4⟩;exact⟨v,t,E',r1,r2,hp _ _ r3,r4⟩
def T.splice(e:T)(off:Nat)(v:T):T:=.agg (e.cells.take off++v.cells++e.cells.drop (off+v.cells.length))
inductive Src where
 |no
 |list (l:List T)
def Vg(h:Hp)(k:Nat):T->Src
 | .sl k' _ l=>match l with|[]=>.list []|x::r=>bif k'==k then .list (x::r) else .no
 | .own o=>match h o with|some ob=>bif ob.k==k then .list ob.l else .no|none=>.no
 |_=>.no
def nR(P:Program)(dr:Bool)(n:Nat)(d:Option Nat)(f:FuncId)(ts:List T)(K:AS->Prop)(s:AS):Prop :=
 aP P f ts s.hp n fun t h=>(dr=true->h=s.hp/\t.free=true)/\K {(s.put d t) with hp:=h}
def oU(P:Program)(dr:Bool)(n:Nat)(d:Option Nat)(op:oQ)(K:AS->Prop)(s:AS):Prop :=
 match op with
 | .box ty k x=>((s.ev x).kd==k&&(s.ev x).lC s.hp&&Bo k)=true /\
   K {(s.put d (.ptr n 0 0)) with hp:=upd s.hp n (some ⟨ty,k,[s.ev x]⟩)}
 | .al ty k z=>(z.kd==k&&z.lC s.hp&&z.free&&Bo k)=true/\K {(s.put d (.ptr n 0 0)) with hp:=upd s.hp n (some ⟨ty,k,[z]⟩)}
 | .make ty k bytes z x y =>
  match s.ev x,s.ev y with
  | .lit (.int _ a),.lit (.int _ b)=>(z.kd==k&&z.lC s.hp&&z.free&&Bo k)=true/\(0<=a/\a<=b/\b*bytes<=140737488355328/\b<=1152921504606846976) /\
    K {(s.put d (.own n)) with hp:=upd s.hp n (some ⟨ty,k,List.replicate a.toNat z⟩)}
  |_,_=>False
 | .st k x v =>
  match s.ev x with
  | .ptr i j off =>
   match s.hp i with
   |some ob=>((s.ev v).kd==k&&(s.ev v).lC s.hp)=true/\j<ob.l.length/\((off==0&&ob.k==k)||(!(ob.k==0)&&qF (bn ob.k) off k))=true /\
     K {s with hp:=upd s.hp i (some ⟨ob.ty,ob.k,ob.l.set j (bif (off==0&&ob.k==k) then s.ev v else(ob.l.getD j .any).splice off (s.ev v))⟩)}
   |none=>False
  |_=>False
 | .app ty k bytes x y =>
  match Vg s.hp k (s.ev y) with
  | .list m =>
   match s.ev x with
   | .sl k' true l=>(k'=k\/l=[])/\((l=[]\/m≠[])\/(dr=false/\K (s.put d (.sl k' true l))))/\(l.length+m.length)*bytes<=140737488355328/\l.length+m.length<=1152921504606846976 /\
     K {(s.put d (.own n)) with hp:=upd s.hp n (some ⟨ty,k,l++m⟩)}
   | .own i =>
    match s.hp i with
    |some ob=>(ob.k==k&&ob.ty==ty)=true/\(ob.l.length+m.length)*bytes<=140737488355328/\ob.l.length+m.length<=1152921504606846976 /\
      K {(s.put d (.own n)) with hp:=upd (upd s.hp i none) n (some ⟨ty,k,ob.l++m⟩)}
    |none=>False
   |_=>False
  | .no=>False
 | .call f xs=>nR P dr n d f (xs.map s.ev) K s
 | .oM x xs=>match s.ev x with| .fn f cap=>(bif Nat.blt f 4096 then nR P dr n d f (xs.map s.ev++cap) K s else nR P dr n d (f % 4096) (.agg cap::xs.map s.ev) K s)|_=>False
 | .AY x =>
  match s.ev x with
  | .sl _ _ l=>(l=[]->K (s.put d (.lit (.bool true))))/\K (s.put d (.lit (.bool false)))
  | .own i=>match s.hp i with
   |some ob=>(ob.l=[]->K (s.put d (.lit (.bool true))))/\K (s.put d (.lit (.bool false)))/\ob.k≠iL
   |none=>False
  |_=>False
 | .Ve k z x =>
  match s.ev x with
  | .qE i lo hi=>match s.hp i with
   |some ob=>(ob.k==k&&z.kd==k&&z.lC s.hp&&z.free)=true/\hi<=ob.l.length/\K {(s.put d T.un) with hp:=upd s.hp i (some ⟨ob.ty,ob.k,ob.l.take lo++List.replicate (hi-lo) z++ob.l.drop hi⟩)}
   |none=>False
  |_=>False
 | .Bz ty k z m ps=>((z.kd==k)&&z.free&&KX k m (ps.map fun p=>(p.1,s.ev p.2))&&xu s.hp (ps.map fun p=>s.ev p.2)&&Nat.ble (m*bn k) 16777216&&Bo k)=true /\
   K {(s.put d (.own n)) with hp:=upd s.hp n (some ⟨ty,k,sO (List.replicate m z) (ps.map fun p=>(p.1,s.ev p.2))⟩)}
 | .bot=>False
 |op=>qc s op/\K (s.put d (qt s op))
mutual
def T.lt(n:Nat):T->Bool
 | .own i=>Nat.blt i n
 | .ptr i _ _=>Nat.blt i n
 | .qE i _ _=>Nat.blt i n
 | .agg l=>T.Oa n l
 | .fn _ cap=>T.Oa n cap
 | .dW l=>T.Oa n l
 |_=>true
def T.Oa(n:Nat):List T->Bool
 |[]=>true
 |t::ts=>T.lt n t&&T.Oa n ts
end
mutual
def T.nid(i:Nat):T->Bool
 | .own j=> !(j==i)
 | .ptr j _ _=> !(j==i)
 | .qE j _ _=> !(j==i)
 | .agg l=>T.Yt i l
 | .fn _ cap=>T.Yt i cap
 | .dW l=>T.Yt i l
 |_=>true
def T.Yt(i:Nat):List T->Bool
 |[]=>true
 |t::ts=>T.nid i t&&T.Yt i ts
end
def T.newer(n:Nat):T->Bool
 | .own i=>Nat.ble n i
 | .ptr i _ _=>Nat.ble n i
 | .sl _ _ _=>true
 |_=>false
def oQ.xs:oQ->List X
 | .mv x=>[x]
 | .pick c a b=>[c,a,b]
 | .bin _ x y=>[x,y]
 | .bb _ x y=>[x,y]
 | .not x=>[x]
 | .conv _ x=>[x]
 | .fa _ _ x=>[x]
 | .ia _ x i=>[x,i]
 | .ch x i=>[x,i]
 | .ld _ x=>[x]
 | .nc x=>[x]
 | .len _ x=>[x]
 | .mx x y=>[x,y]
 | .mk _ ps=>ps.map fun p=>p.2.2
 | .ms _ _ _ _ ps=>ps.map fun p=>p.2
 | .sl _ x lo hi m=>x::(lo.toList++hi.toList++m.toList)
 | .ss x lo hi=>x::(lo.toList++hi.toList)
 | .ex x _=>[x]
 | .mf _ cap=>cap
 | .box _ _ x=>[x]
 | .al .. =>[]
 | .make _ _ _ _ x y=>[x,y]
 | .st _ x v=>[x,v]
 | .app _ _ _ x y=>[x,y]
 | .call _ xs=>xs
 | .oM x xs=>x::xs
 | .AY x=>[x]
 | .eqs _ _ x y=>[x,y]
 | .Yr _ x lo hi m=>x::(lo.toList++hi.toList++m.toList)
 | .Ve _ _ x=>[x]
 | .Bz _ _ _ _ ps=>ps.map fun p=>p.2
 | .mb _ x=>[x]
 | .bot=>[]
def AS.obj(s:AS)(m:Nat):Option Nat :=
 match s.fr.getD m .any with
 | .ptr i _ _=>some i
 |_=>none
def Il(s:AS)(xs:List X):List Nat->Bool
 |[]=>true
 |m::r=>(bif Nat.blt m 1000000 then(match s.obj m with|some i=>xs.all fun x=>T.nid i (s.ev x)|none=>false)
   else bif Nat.beq m 1000000 then xs.all fun x=>T.lt 10000 (s.ev x) else(match xs with|x::_=>T.newer 10000 (s.ev x)|[]=>false))&&Il s xs r
def jB(o:aJ)(s:AS):Prop :=
 (o.fl=true->(match o.op with
  | .st _ x _=>T.newer s.nx (s.ev x)
  | .app _ _ _ x _=>T.newer s.nx (s.ev x)
  | .Ve _ _ _=>false
  | .call _ _=>true
  | .oM _ _=>true
  |op=>op.xs.all fun x=>T.lt s.nx (s.ev x))=true)/\Il s o.op.xs o.ne=true
def aJ.dr(o:aJ)(dr:Bool):Bool :=
 match o.op with
 | .call _ _=>dr&& !o.fl
 | .oM _ _=>dr&& !o.fl
 |_=>dr
def Io(g:Option (Nat×Bool))(s:AS)(yes no:AS->Prop):Prop :=
 match g with
 |none=>yes s
 |some (d,want) =>
  match s.fr.getD d .any with
  | .lit (.bool b)=>(b=want->yes (s.put (some d) (.lit (.bool want))))/\(b= !want->no (s.put (some d) (.lit (.bool !want))))
  | .lit (.tuple _)=>no s
  |_=>False
def opW(P:Program)(dr:Bool)(n:Nat)(d:Option Nat)(op:oQ)(K:AS->Prop)(s:AS):Prop :=
 match op with
 | .call f xs=>dr=false/\ ∃ k,jL P f (xs.map s.ev) s.hp n k fun t h=>K {(s.put d t) with hp:=h,nx:=s.nx+k}
 |_=>False
def jC(h:Hp)(n:Nat):Option Ob->Hp
 |none=>h
 |some ob=>upd h n (some ob)
def opF(P:Program)(n:Nat)(d:Option Nat)(op:oQ)(K:AS->Prop)(s:AS):Prop :=
 match op with
 | .call f xs=> ∃ (t:T) (o:Option Ob),t.ids (fun i=>i=n)/\(∀ ob,o=some ob->T.bW ob.l=true) /\
   (∀ h:Hp,(∀ i ob,s.hp i=some ob->h i=some ob)->(∀ i ob,s.hp i=some ob->T.aS (fun j=>(h j).isSome=true->(s.hp j).isSome=true) ob.l)->aP P f (xs.map s.ev) h n fun t' h'=>t'=t/\h'=jC h n o)/\K {(s.put d t) with hp:=jC s.hp n o}
 |_=>False
def mkK(o:aJ)(s:AS)(K:AS->Prop)(s':AS):Prop:=(o.ad=true-> ∀ i ob,s.hp i=some ob->s'.hp i=some ob)/\K s'
def opR(P:Program)(dr:Bool)(n:Nat)(o:aJ)(K:AS->Prop)(s:AS):Prop :=
 (o.ar=false/\oU P (o.dr dr) n o.d o.op (mkK o s K) s)\/(o.ar=true/\o.fl=true/\opF P n o.d o.op K s)
def uf(P:Program)(dr:Bool)(m:Nat)(K:AS->Prop):List aJ->Nat->AS->Prop
 |[],_,s=>K {s with nx:=s.nx+m}
 |o::r,i,s=>Io o.g s (fun s=>jB o s/\(opR P dr (s.nx+i) o (uf P dr m K r (i+1)) s\/opW P dr (s.nx+i) o.d o.op (uf P dr m K r (i+1)) s)) (fun s=>uf P dr m K r (i+1) (s.put o.d T.un))
mutual
def T.ren(ρ:Nat->Nat):T->T
 | .own i=>.own (ρ i)
 | .ptr i j off=>.ptr (ρ i) j off
 | .qE i lo hi=>.qE (ρ i) lo hi
 | .agg l=>.agg (T.bJ ρ l)
 | .fn f cap=>.fn f (T.bJ ρ cap)
 | .dW l=>.dW (T.bJ ρ l)
 |t=>t
def T.bJ(ρ:Nat->Nat):List T->List T
 |[]=>[]
 |t::ts=>T.ren ρ t::T.bJ ρ ts
end
mutual
def T.sub(Z:Nat->Prop)(h:Hp):T->T->Prop
 | .any,_=>True
 | .sl k f l,.sl k' f' l'=>(l=l'\/(T.dA Z h l l'/\ ∀ t∈l,t.kd=k))/\(k=k'\/l=[])/\(f=true->f'=true)
 | .sl k f l,.qE i lo hi=>f=false/\Z i/\T.bW l=true/\k≠iL/\ ∃ ty l',h i=some ⟨ty,k,l'⟩/\hi<=l'.length/\l=(l'.take hi).drop lo
 | .sl k f l,.own i=>f=false/\Z i/\T.bW l=true/\k≠iL/\ ∃ ty,h i=some ⟨ty,k,l⟩
 | .ref k t,.ptr i j o=>o=0/\Z i/\T.free t=true/\k≠iL/\ ∃ ty l',h i=some ⟨ty,k,l'⟩/\l'[j]? =some t
 | .agg l,.agg l'=>T.dA Z h l l'
 | .dW l,.dW l'=>T.dA Z h l l'
 |t,t'=>t=t'
def T.dA(Z:Nat->Prop)(h:Hp):List T->List T->Prop
 |[],[]=>True
 |t::ts,t'::ts'=>T.sub Z h t t'/\T.dA Z h ts ts'
 |_,_=>False
end
def gB:T->Bool
 | .dW [.lit (.int .i64 _),_]=>true
 |_=>false
structure La(Z:Nat->Prop)(h:Hp)(ρ:Nat->Nat)(ob ob':Ob):Prop where
 ty:ob'.ty=ob.ty
 k:ob'.k=ob.k
 l:T.dA Z h (T.bJ ρ ob.l) ob'.l
 kd:(ob.k=iL/\ob.l.all gB=true)\/(ob.k≠iL/\ ∀ t∈ob.l,t.kd=ob.k)
structure adf(Z:Nat->Prop)(ρ:Nat->Nat)(s s':AS):Prop where
 fr:T.dA Z s'.hp (T.bJ ρ s.fr) s'.fr
 hp: ∀ i ob,s.hp i=some ob-> ∃ ob',s'.hp (ρ i)=some ob'/\ ¬ Z (ρ i)/\La Z s'.hp ρ ob ob'
 inj: ∀ i j,(s.hp i).isSome=true->(s.hp j).isSome=true->ρ i=ρ j->i=j
 mf:T.aS (· <s.nx) s.fr
 mh:qg (· <s.nx) s.hp
 pin:s.pin=s'.pin
 le:s'.pin<=s.nx
 fix: ∀ i,i<s.pin->(s.hp i).isSome=true->ρ i=i
def Px(s s':AS):Prop:= ∃ i k' ty k,s'.fr.getD i .any= .sl k' true []/\Bo k=true /\
 s= {s' with fr:=s'.fr.set i (.own s'.nx),hp:=upd s'.hp s'.nx (some ⟨ty,k,[]⟩),nx:=s'.nx+1}
def Py(s s':AS):Prop:= ∃ j c k' ty k oty cs,s'.hp j=some ⟨oty,cs.length+1,[.agg cs]⟩/\c<cs.length/\cs.getD c .any= .sl k' true []/\Bo k=true/\j<s'.nx /\
 s= {s' with hp:=upd (upd s'.hp j (some ⟨oty,cs.length+1,[.agg (cs.set c (.own s'.nx))]⟩)) s'.nx (some ⟨ty,k,[]⟩),nx:=s'.nx+1}
def Lc(s s':AS):Prop:= ∃ j i hi ob,s'.fr.getD j .any= .qE i 0 hi/\s'.hp i=some ob/\i<s'.nx/\hi<=ob.l.length/\ob.k≠iL /\
 s= {s' with fr:=s'.fr.set j (.own s'.nx),hp:=upd (upd s'.hp i none) s'.nx (some ⟨ob.ty,ob.k,ob.l.take hi⟩),nx:=s'.nx+1}
structure aaH(Z:Nat->Prop)(s s':AS):Prop where
 fr:T.dA Z s'.hp s.fr s'.fr
 hp: ∀ i ob,s.hp i=some ob-> ∃ ob',s'.hp i=some ob'/\ ¬ Z i/\ob'.ty=ob.ty/\ob'.k=ob.k/\T.dA Z s'.hp ob.l ob'.l/\ob.l.map T.kd=ob'.l.map T.kd/\ob.l.map gB=ob'.l.map gB
 nx:s.nx=s'.nx
 pin:s.pin=s'.pin
inductive JQ:AS->AS->Prop
 |refl (s:AS):JQ s s
 |slot {s s' s'':AS}:Px s' s''->JQ s s'->JQ s s''
 |cell {s s' s'':AS}:Py s' s''->JQ s s'->JQ s s''
 |take {s s' s'':AS}:Lc s' s''->JQ s s'->JQ s s''
 |fz {s s' s'':AS} {Z:Nat->Prop}:aaH Z s' s''->JQ s s'->JQ s s''
def Wk(s s':AS):Prop:= ∃ s1,JQ s1 s'/\(s=s1\/ ∃ Z ρ,adf Z ρ s s1)
def A8(body:(sQ->AS->Prop)->AS->Prop)(Q:sQ->AS->Prop)(s:AS):Prop :=
 ∃ (I:AS->Prop) (μ:AS->Nat),(∃ s₀,Wk s₀ s/\I s₀) /\
  ∀ s,I s->body (fun e s'=>match e with| .normal=> ∃ s₁,Wk s₁ s'/\I s₁/\μ s₁<μ s|e=>Q e s') s
def aw(P:Program):fJ->(sQ->AS->Prop)->AS->Prop
 | .skip,Q,s=>Q .normal s
 | .reg dr ops,Q,s=>uf P dr ops.length (Q .normal) ops 0 s
 | .seq a b,Q,s=>aw P a (fun e s'=>match e with| .normal=>aw P b Q s'|e=>Q e s') s
 | .cond c a b,Q,s =>
  match s.ev c with
  | .lit (.bool t)=>(t=true->aw P a Q s)/\(t=false->aw P b Q s)
  |_=>False
 | .blk id b,Q,s=>aw P b (fun e s'=>match e with| .exit j=>(bif j==id then Q .normal s' else Q (.exit j) s')|e=>Q e s') s
 | .exit id,Q,s=>Q (.exit id) s
 | .ret,Q,s=>Q .ret s
 | .loop b,Q,s=>A8 (aw P b) Q s
def Pz:Value->T
 | .slice none 0 0=>.sl 0 true []
 |v=>.lit v
def Ba:Value->T
 | .agg cs=>.agg (cs.toList.map Pz)
 |v=>Pz v
def PD:Value->Bool
 | .agg cs=>cs.all (·.oneCell')
 |_=>true
def bC:Operand->Option X
 | .tmp t=>some (.t t)
 | .const v=>if PD v then some (.c (Ba v)) else none
 | .func f=>if f<4096 then some (.c (.fn f [])) else none
 | .global _=>none
def kindOf(P:Program)(ty:TypeId):Option Nat :=
 match P.info? ty,P.underlying ty with
 |some i,some (.struct _)=>if i.size<1000000 then some (i.size+1) else none
 |some i,some (.array _ _)=>if i.size<1000000 then some (i.size+1) else none
 |some i,some _=>if i.size=1 then some 0 else none
 |_,_=>none
def Ld(g:TypeId->Option Nat):List Field->Nat->Option Nat
 |[],off=>some off
 |f::fs,off=>if f.name≠ "_" /\ f.offset=off then(match g f.type with|some n=>Ld g fs (off+n)|none=>none) else none
def Af(P:Program):Nat->TypeId->Option Nat
 |0,_=>none
 |d+1,t=>match P.underlying t,kindOf P t with
  |some (.int .i64),some 0=>some 1
  |some (.struct fs),some k=>if P.stoodInHeld t=false/\P.eqGuardType P.depth t=false then(match Ld (Af P d) fs.toList 0 with|some n=>if k=n+1 then some n else none|none=>none) else none
  |_,_=>none
def zeroOf(P:Program)(ty:TypeId):Option Value:=(P.info? ty).bind (·.zero)
def DR(P:Program)(ty:TypeId)(f:Nat):Option (Nat×Nat) :=
 match P.underlying ty with
 |some (.struct fs)=>match fs[f]? with
  |some fd=>match kindOf P fd.type with
   |some k=>if bn k=0 then none else some (fd.offset,k)
   |none=>none
  |none=>none
 |_=>none
def elemOf(P:Program)(ty:TypeId):Option TypeId :=
 match P.underlying ty with
 |some (.slice e)=>some e
 |_=>none
def kG(z:Value):Bool:=z.cells.all (·.oneCell')
def kR:List (Nat×Operand)->Option (List (Nat×X))
 |[]=>some []
 |(i,x)::r=>match bC x,kR r with
  |some x',some r'=>some ((i,x')::r')
  |_,_=>none
def compFields(P:Program)(ty:TypeId):List (Nat×Operand)->Option (List (Nat×Nat×X))
 |[]=>some []
 |(i,x)::r=>match bC x,DR P ty i,compFields P ty r with
  |some x',some (off,k),some r'=>some ((off,bn k,x')::r')
  |_,_,_=>none
def rE:List Operand->Option (List X)
 |[]=>some []
 |x::r=>match bC x,rE r with
  |some x',some r'=>some (x'::r')
  |_,_=>none
def yA:Option Operand->Option (Option X)
 |none=>some none
 |some x=>(bC x).map some
def yB(P:Program)(b:Builtin)(argTypes:List TypeId)(xs:List X):Option oQ :=
 match b,argTypes,xs with
 | .len,t::_,[x] =>
  match P.underlying t with
  |some (.slice _)=>some (.len false x)
  |some .string=>some (.len true x)
  |_=>none
 | .clear,t::_,[x] =>
  match P.underlying t with
  |some (.slice e)=>match kindOf P e,zeroOf P e with
   |some k,some z=>if kG z/\0<bn k then some (.Ve k (Ba z) x) else none
   |_,_=>none
  |_=>none
 | .max,_,[x,y]=>some (.mx x y)
 | .append,[t,t'],[x,y] =>
  match P.underlying t,P.underlying t' with
  |some (.slice e),some (.slice e') =>
   match kindOf P e,P.info? e with
   |some k,some i=>match i.zero with
    |some z=>if e=e'/\z.cells.size=bn k/\0<bn k then some (.app e k i.bytes x y) else none
    |none=>none
   |_,_=>none
  |_,_=>none
 |_,_,_=>none
def isRow:Value->Bool
 | .slice _ _ _=>true
 |_=>false
def afn(z:Value):Bool:=z.cells.any isRow
def EM(P:Program)(nd:Bool):Op->Option oQ
 | .move x=>(bC x).map .mv
 | .assign x=>(bC x).map .mv
 | .pick c a b=>match bC c,bC a,bC b with
  |some c,some a,some b=>some (.pick c a b)
  |_,_,_=>none
 | .binOp op t x y _=>match bC x,bC y with
  |some x,some y=>match P.underlying t with
   |some (.int _)=>some (.bin op x y)
   |some .string=>some (.bin op x y)
   |some .bool=>match op with
    | .eql=>some (.bb false x y)
    | .neq=>some (.bb true x y)
    |_=>none
   |some (.struct _)=>match Af P 20 t,op with
    |some n,.eql=>some (.eqs false n x y)
    |some n,.neq=>some (.eqs true n x y)
    |_,_=>none
   |some (.slice _)=>match op,y with
    | .eql,.c (.sl 0 true [])=>some (.AY x)
    |_,_=>none
   |_=>none
  |_,_=>none
 | .makeInterface _ _=>some .bot
 | .panic _=>some .bot
 | .unOp .not _ x=>(bC x).map .not
 | .convert src dst x=>match bC x,P.underlying src,P.underlying dst with
  |some x,some _,some (.int k)=>some (.conv k x)
  |_,_,_=>none
 | .fieldAddr ty x f=>match bC x,DR P ty f with
  |some x,some (off,k)=>some (.fa off k x)
  |_,_=>none
 | .indexAddr ty x i=>match bC x,bC i,elemOf P ty with
  |some x,some i,some e=>(kindOf P e).map fun k=>.ia k x i
  |_,_,_=>none
 | .index ty x i=>match bC x,bC i,P.underlying ty with
  |some x,some i,some .string=>some (.ch x i)
  |_,_,_=>none
 | .load ty x=>match bC x,kindOf P ty with
  |some x,some k=>some (.ld k x)
  |_,_=>none
 | .store ty x v=>match bC x,bC v,kindOf P ty with
  |some x,some v,some k=>some (.st k x v)
  |_,_,_=>none
 | .nilCheck x=>(bC x).map .nc
 | .build ty ps=>match P.underlying ty,zeroOf P ty,compFields P ty ps.toList with
  |some (.struct fs),some (.agg cs),some ps =>
   if kG (.agg cs)/\(fs.toList.mapM (fun f=>(P.info? f.type).map fun i=>(f.offset,i.size))).isSome=true then some (.mk (cs.toList.map Pz) ps) else none
  |some (.array _ e),some (.agg cs),_=>match kR ps.toList,kindOf P e with
   |some ps,some 0=>if kG (.agg cs) then some (.mk (cs.toList.map Pz) (ps.map fun p=>(p.1,1,p.2))) else none
   |_,_=>none
  |_,_,_=>none
 | .buildSlice ty n ps=>match elemOf P ty,kR ps.toList with
  |some e,some ps=>match kindOf P e,zeroOf P e with
   |some k,some z=>if kG z/\(Ba z).kd=k then(if nd=true/\afn z=true then some (.Bz e k (Ba z) n ps) else some (.ms e k (Ba z) n ps)) else none
   |_,_=>none
  |_,_=>none
 | .slice ty x lo hi mx=>match bC x,yA lo,yA hi,yA mx with
  |some x,some lo,some hi,some mx=>match P.underlying ty with
   |some (.slice e)=>(kindOf P e).map fun k=>bif nd then .Yr k x lo hi mx else .sl k x lo hi mx
   |some .string=>match mx with
    |none=>some (.ss x lo hi)
    |some _=>none
   |_=>none
  |_,_,_,_=>none
 | .extract x i=>(bC x).map fun x=>.ex x i
 | .makeFunc (.func f) first cap=>if first.size=0 then(rE cap.toList).map fun c=>.mf f c else
   match first.toList,cap.toList with
   |[x],[]=>(bC x).map fun x=>.mb f x
   |_,_=>none
 | .box ty x=>match bC x,kindOf P ty with
  |some x,some k=>some (.box ty k x)
  |_,_=>none
 | .alloc ty=>match kindOf P ty,zeroOf P ty with
  |some k,some z=>if kG z then some (.al ty k (Ba z)) else none
  |_,_=>none
 | .makeSlice ty n c=>match bC n,bC c,elemOf P ty with
  |some n,some c,some e=>match kindOf P e,P.info? e with
   |some k,some i=>match i.zero with
    |some z=>if kG z then some (.make e k i.bytes (Ba z) n c) else none
    |none=>none
   |_,_=>none
  |_,_,_=>none
 | .call c=>match rE c.args.toList with
  |some xs=>match c.callee with
   | .value (.func f)=>some (.call f xs)
   | .value x=>(bC x).map fun x=>.oM x xs
   | .builtin b=>yB P b c.argTypes.toList xs
   | .invoke _ _=>none
  |none=>none
 |_=>none
theorem addr_add(b off n:Nat):(⟨b,off,none⟩:Addr).add n=⟨b,off+n,none⟩:=by
 unfold Addr.add; split<;>simp_all
theorem PE{w:World}{b:Nat}{cur:Array Value}{e:TypeId}{m:Nat×Nat}(h:w.heap[b]? =some (.cells cur e m))(off:Nat) :
  w.cell? ⟨b,off,none⟩=cur[off]? :=by
 simp[World.cell?,h]
section kinds
variable {P:Program} {ty k:Nat} {w:World}
theorem wG(h:kindOf P ty=some k): ∃ i d,P.info? ty=some i/\P.underlying ty=some d/\i.size=bn k /\
  ((match d with| .struct _=>true| .array _ _=>true|_=>false)=(k !=0)):=by
 unfold kindOf at h;split at h
 ·rename_i i fs h1 h2;split at h
  ·cases h; exact⟨i,_,h1,h2,rfl,by simp⟩
  ·cases h
 ·rename_i i n e h1 h2;split at h
  ·cases h; exact⟨i,_,h1,h2,rfl,by simp⟩
  ·cases h
 ·rename_i i d hs ha h1 h2;split at h
  ·cases h;refine⟨i,d,h1,h2,by simpa [bn],?_⟩;cases d<;>simp_all
  ·cases h
 ·cases h
theorem BZ(h:kindOf P ty=some k):k≠iL:=by
 unfold kindOf at h;split at h
 ·split at h
  ·cases h; simp only[iL]; omega
  ·cases h
 ·split at h
  ·cases h; simp only[iL]; omega
  ·cases h
 ·split at h
  ·cases h; simp only[iL]; omega
  ·cases h
 ·cases h
theorem jl(h:kindOf P ty=some k):(sizeOf ty).run P w= .ok (bn k) w:=by
 obtain⟨i,d,h1,_,h3,_⟩:=wG h;simp[sizeOf,typeInfo,h1,h3]
theorem zZ(h:kindOf P ty=some k):(isAgg ty).run P w= .ok (k !=0) w:=by
 obtain⟨i,d,_,h2,_,h4⟩:=wG h;rw[<- h4];simp only[isAgg,underlying];cases d<;>simp[h2]
theorem Gi(h:kindOf P ty=some k){b off:Nat}{cur:Array Value}{e:TypeId}{m:Nat×Nat}(hh:w.heap[b]? =some (.cells cur e m))
  (hl:off+bn k<=cur.size) :
  (k≠0->(loadVar ty ⟨b,off,none⟩).run P w= .ok (.agg ((cur.toList.drop off).take (bn k)).toArray) w) /\
  (k=0-> ∃ v,cur[off]? =some v/\(loadVar ty ⟨b,off,none⟩).run P w= .ok v w):=by
 constructor
 ·intro hk;have hlen:((cur.toList.drop off).take (bn k)).length=bn k:=by simp; omega
  have hc:=run_loadCells_list (P:=P) w ⟨b,off,none⟩ ((cur.toList.drop off).take (bn k)) (fun j v hv=>by
   rw[addr_add,PE hh];by_cases hj:j<bn k
   ·rw[List.getElem?_take_of_lt hj,List.getElem?_drop] at hv; simpa using hv
   ·rw[List.getElem?_take_eq_none (by omega)] at hv; cases hv)
  rw[hlen] at hc;have hk':(k !=0)=true:=by simpa using hk
  simp only[loadVar,Sem.run_bind,zZ h,Result.andThen_ok,hk',if_true,jl h,hc,Sem.run_pure]
 ·rintro rfl;simp only[bn] at hl;have hv:cur[off]? =some (cur[off]'(by omega)):=by simp
  refine⟨_,hv,?_⟩;simp only[loadVar,Sem.run_bind,zZ h,Result.andThen_ok];simp[load,Sem.run,PE hh,hv]
end kinds
section ops
variable {P:Program} {F:Fr P} {M:Nat->Prop} {E:Env} {s:AS} {a:Act}
theorem Le{v:Value}:aO E (Pz v) [v]:=by
 unfold Pz;split
 ·exact⟨none,0,rfl,by simp,by simp,.inl rfl⟩
 ·simp[aO]
theorem PG(v:Value):(Pz v).kd=0:=by unfold Pz; split<;>rfl
theorem DT: ∀ {vs:List Value},(∀ v∈vs,v.oneCell'=true)->aX E (vs.map Pz) vs:=by
 intro vs;induction vs with
 |nil=>intro _; simp[aX]
 |cons v vs ih =>
  intro h;simp only[List.map_cons,aX];exact⟨PG v,v,vs,rfl,h v (by simp),Le,ih fun u hu=>h u (by simp[hu])⟩
theorem Vh{v:Value}(h: ∀ cs,v≠ .agg cs):Ba v=Pz v:=by
 cases v<;>first|rfl|exact absurd rfl (h _)
theorem aaI{v:Value}(h:PD v=true):jQ E (Ba v) v:=by
 cases v with
 |agg cs =>
  rw[Ba,zn]
  exact⟨cs,rfl,DT fun u hu=>by
   simp only[PD,Array.all_eq_true_iff_forall_mem] at h
   exact h u (by simpa using hu)⟩
 |_=>rw[Vh (by intro cs hcs; cases hcs)]; exact .inr ⟨PG _,Le⟩
theorem JR(v:Value):(Pz v).ids (fun _=>False):=by unfold Pz; split<;>simp[T.ids]
theorem adg(v:Value):(Ba v).ids (fun _=>False):=by
 cases v with
 |agg cs=>simp only[Ba,T.ids]; exact bP.2 fun t ht=>by obtain⟨u,_,rfl⟩:=List.mem_map.1 ht; exact JR u
 |_=>rw[Vh (by intro cs hcs; cases hcs)]; exact JR _
theorem PI{f:FuncId}(h:f<4096){cs:Array Value}:fnV f cs= .func (.func f) #[] cs:=by
 unfold fnV; rw[Nat.blt_eq.mpr h]; rfl
theorem WT{f:FuncId}(h: ¬ f<4096){cs:Array Value}:fnV f cs= .func (.func (f % 4096)) #[.agg cs] #[]:=by
 unfold fnV
 have:Nat.blt f 4096=false:=by
  cases h':Nat.blt f 4096 with
  |false=>rfl
  |true=>rw[Nat.blt_eq] at h'; exact absurd h' h
 rw[this]; rfl
theorem afo{f:FuncId}(h:f<4096){cs:Array Value}:fnV (f+4096) cs= .func (.func f) #[.agg cs] #[]:=by
 rw[WT (fun q=>Nat.not_lt_of_le (Nat.le_add_left 4096 f) q)];have e:(f+4096) % 4096=f:=by rw[Nat.add_mod_right]; exact Nat.mod_eq_of_lt h
 rw[e]
theorem Ip(f:FuncId)(cs:Array Value):(f<4096/\fnV f cs= .func (.func f) #[] cs)\/(¬ f<4096/\fnV f cs= .func (.func (f % 4096)) #[.agg cs] #[]):=by
 by_cases h:f<4096
 ·exact .inl ⟨h,PI h⟩
 ·exact .inr ⟨h,WT h⟩
theorem dI(R:Rel F M E s a){x:Operand}{x':X}(h:bC x=some x'):jQ E (s.ev x') (a.eval x):=by
 cases x with
 |tmp t =>
  cases h;have:=xA R.fr t;simpa [AS.ev,Act.eval] using this
 |const v =>
  simp only[bC] at h;split at h
  ·cases h; exact aaI (by assumption)
  ·cases h
 |global g=>cases h
 |func f =>
  simp only[bC] at h;split at h
  ·rename_i hf;cases h;exact .inr ⟨rfl,by simp only[AS.ev,aO,Act.eval]; exact⟨#[],by rw[PI hf],rfl⟩⟩
  ·cases h
theorem ng(R:Rel F M E s a){x:Operand}{x':X}(h:bC x=some x'):(s.ev x').ids M:=by
 cases x with
 |tmp t=>cases h; exact wC R.mf (by simp[T.ids])
 |const v =>
  simp only[bC] at h;split at h
  ·cases h; exact T.bg (fun _ hf=>hf.elim) _ (adg v)
  ·cases h
 |global g=>cases h
 |func f =>
  simp only[bC] at h;split at h
  ·cases h; simp[AS.ev,T.ids,T.aS]
  ·cases h
def vZ(P:Program)(E:Env)(a:Act)(o:Oper)(t:T):Prop :=
 ∃ v,(execOp a.eval o).run P E.w= .ok (.value v) E.w/\jQ E t v
theorem agO(R:Rel F M E s a){x:Operand}{x':X}(hx:bC x=some x'){o:Oper}(ho:o.op= .move x\/o.op= .assign x):vZ P E a o (s.ev x'):=by
 refine⟨_,?_,dI R hx⟩;rcases ho with ho|ho<;>simp[execOp,ho]
theorem JU{t:T}(h:isBool t=true): ∃ b,t= .lit (.bool b):=by
 unfold isBool at h; split at h
 ·exact⟨_,rfl⟩
 ·cases h
theorem afp(R:Rel F M E s a){c x y:Operand}{c' x' y':X}(hc:bC c=some c')(hx:bC x=some x')(hy:bC y=some y'){o:Oper}
  (ho:o.op= .pick c x y) (h:qc s (.pick c' x' y')):vZ P E a o (qt s (.pick c' x' y')):=by
 have rc:=dI R hc; have rx:=dI R hx; have ry:=dI R hy;obtain⟨b,hb⟩:=JU h;rw[hb,aQ] at rc;refine⟨if b then a.eval x else a.eval y,?_,?_⟩
 ·simp[execOp,ho,rc,asBool]
 ·simp only[qt,hb,BU];split
  ·rename_i e1 e2; rw[e1,aQ] at rx; rw[e2,aQ] at ry; rw[rx,ry,aQ]; cases b<;>rfl
  ·cases b<;>simpa
theorem afq{k k':IntKind}(h:kEq k k'=true):k=k':=by cases k<;>cases k'<;>first|rfl|cases h
theorem adh{op:BinOp}{u v r:Value}(h:Ed op u v=some r)(t:TypeId)(x y:Operand)(w:World) :
  (do eqGuard op t x y u v; binOp op t u v:Sem Value).run P w= .ok r w:=by
 unfold Ed at h;split at h
 ·rename_i k c k' d;by_cases hsh:op= .shr
  ·subst hsh;have hg:eqGuard BinOp.shr t x y (.int k c) (.int k' d)=pure ():=by unfold eqGuard; rfl
   rw[hg];have h':(bif decide (0<=d) then some (Value.int k (c.fdiv (2 ^ min d.toNat k.bits))) else none)=some r:=by cases hk:kEq k k'<;>rw[hk] at h<;>exact h
   by_cases hd:0<=d
   ·simp only[hd,decide_true,cond_true,Option.some.injEq] at h';subst h';have hd': ¬ d<0:=by omega
    simp[binOp,Op.shift,hd']
   ·simp[hd] at h'
  cases hk:kEq k k' with
  |false=>rw[hk] at h; cases op<;>first|(exact absurd rfl hsh)|(simp at h)
  |true =>
   have:=afq hk;subst this;have hg:eqGuard op t x y (.int k c) (.int k d)=pure ():=by
    unfold eqGuard; cases op<;>rfl
   rw[hg];rw[hk] at h;by_cases hr:op= .rem
   ·subst hr;by_cases hd:d=0
    ·simp[hd] at h
    ·simp only[hd,decide_false,cond_false,Option.some.injEq] at h;subst h;simp[binOp,Op.intDiv,hd]
   cases op<;>first|(exact absurd rfl hsh)|(exact absurd rfl hr)|(simp at h<;>subst h<;>simp[binOp,Op.intArith,Op.intCmp,Op.intBits,afm])
 ·rename_i c d;have hg:eqGuard op t x y (.string c) (.string d)=pure ():=by
   unfold eqGuard; cases op<;>rfl
  rw[hg];by_cases ha:op= .add
  ·subst ha;by_cases hs:(((c.size+d.size:Nat):Int)<=9223372036854775807)
   ·simp only[hs,decide_true,cond_true,Option.some.injEq] at h;subst h;have hn: ¬ (((c.size+d.size:Nat):Int)>IntKind.i64.max):=by
     have:IntKind.i64.max=9223372036854775807:=by decide
     rw[this]; omega
    show Sem.run P (do pure (); if((c.size+d.size:Nat):Int)>IntKind.i64.max then _ else pure (Value.string (c++d))) w=_;rw[if_neg hn]; rfl
   ·simp only[hs,decide_false,cond_false] at h; cases h
  cases op<;>first|(exact absurd rfl ha)|(simp at h<;>subst h<;>simp[binOp,Op.stringOp])
 ·cases h
theorem aeX(R:Rel F M E s a){op:BinOp}{t ty':TypeId}{x y:Operand}{x' y':X}(hx:bC x=some x')(hy:bC y=some y'){o:Oper}
  (ho:o.op= .binOp op t x y ty') (h:qc s (.bin op x' y')):vZ P E a o (qt s (.bin op x' y')):=by
 have rx:=dI R hx; have ry:=dI R hy;simp only[qc] at h;split at h
 ·rename_i u v e1 e2;rw[e1,aQ] at rx; rw[e2,aQ] at ry;cases hb:Ed op u v with
  |none=>rw[hb] at h; cases h
  |some r =>
   refine⟨r,?_,?_⟩
   ·simp only[execOp,ho,rx,ry];have:=adh (P:=P) hb t x y E.w;simp only[Sem.run_bind] at this ⊢;rw[this]; rfl
   ·simp only[qt,e1,e2,hb,aQ]
 ·exact h.elim
theorem agP(R:Rel F M E s a){op:BinOp}{t ty':TypeId}{ne:Bool}{x y:Operand}{x' y':X}(hx:bC x=some x')(hy:bC y=some y'){o:Oper}
  (ho:o.op= .binOp op t x y ty') (hop:op=if ne then .neq else .eql) (ht:P.underlying t=some .bool) (h:qc s (.bb ne x' y')):vZ P E a o (qt s (.bb ne x' y')):=by
 have rx:=dI R hx; have ry:=dI R hy;simp only[qc,Bool.and_eq_true] at h;obtain⟨b,hb⟩:=JU h.1;obtain⟨c,hc⟩:=JU h.2;rw[hb,aQ] at rx; rw[hc,aQ] at ry;refine⟨.bool (bif ne then !(b==c) else b==c),?_,by simp only[qt,hb,hc,aQ]⟩;have heq:(Op.equal t (.bool b) (.bool c)).run P E.w= .ok (b==c) E.w:=by
  have h: ∀ d,(Op.equalIn (d+1) t (.bool b) (.bool c)).run P E.w= .ok (b==c) E.w:=fun d=>by
   simp only[Op.equalIn,underlying,Sem.run_bind,run_program,Result.andThen_ok,ht,Sem.run_pure]
  exact h 9999
 have hg:eqGuard op t x y (.bool b) (.bool c)=pure ():=by
  unfold eqGuard; cases op<;>rfl
 cases ne
 ·simp only[hop,Bool.false_eq_true,if_false] at ho hg ⊢;simp only[execOp,ho,rx,ry,hg,binOp,Sem.run_bind,Sem.run_pure,Result.andThen_ok,heq,cond_false]
 ·simp only[hop,if_true] at ho hg ⊢;simp only[execOp,ho,rx,ry,hg,binOp,Sem.run_bind,Sem.run_pure,Result.andThen_ok,heq,cond_true]
theorem agQ(R:Rel F M E s a){t:TypeId}{x:Operand}{x':X}(hx:bC x=some x'){o:Oper}
  (ho:o.op= .unOp .not t x) (h:qc s (.not x')):vZ P E a o (qt s (.not x')):=by
 have rx:=dI R hx;obtain⟨b,hb⟩:=JU h;rw[hb,aQ] at rx;exact⟨.bool !b,by simp[execOp,ho,rx,Op.unary],by simp only[qt,hb,aQ]⟩
theorem afr(R:Rel F M E s a){src dst:TypeId}{k:IntKind}{d:TypeDesc}{x:Operand}{x':X}(hx:bC x=some x'){o:Oper}
  (ho:o.op= .convert src dst x) (h1:P.underlying src=some d) (h2:P.underlying dst=some (.int k)) (h:qc s (.conv k x')):vZ P E a o (qt s (.conv k x')):=by
 have rx:=dI R hx;simp only[qc] at h;split at h
 ·rename_i k' n e1;rw[e1,aQ] at rx;refine⟨.int k (k.wrap n),?_,by simp only[qt,e1,aQ]⟩;simp[execOp,ho,rx,convert,underlying,h1,h2,Conv.intToInt]
 ·exact h.elim
theorem Lh{ty f off k:Nat}(h:DR P ty f=some (off,k)): ∃ fs fd,P.underlying ty=some (.struct fs)/\fs[f]? =some fd/\kindOf P fd.type=some k/\bn k≠0/\fd.offset=off:=by
 unfold DR at h;split at h
 ·rename_i fs h1;split at h
  ·rename_i fd h2;split at h
   ·rename_i k' h3;split at h
    ·cases h
    ·rename_i h4; cases h; exact⟨fs,fd,h1,h2,h3,h4,rfl⟩
   ·cases h
  ·cases h
 ·cases h
theorem Jm{ty f off k:Nat}(h:DR P ty f=some (off,k))(b o:Nat)(w:World) :
  (Instr.fieldAt ty (.pointer (some ⟨b,o,none⟩)) f).run P w= .ok (.pointer (some ⟨b,o+off,none⟩)) w:=by
 obtain⟨fs,fd,h1,h2,h3,h4,rfl⟩:=Lh h;simp only[Instr.fieldAt,underlying,Sem.run_bind,run_program,Result.andThen_ok,h1,Sem.run_pure,h2,Instr.sureAddr,fieldPlace,jl h3,h4,if_false,addr_add]
theorem ahJ(R:Rel F M E s a){ty f off k:Nat}{x:Operand}{x':X}(hx:bC x=some x'){o:Oper}
  (ho:o.op= .fieldAddr ty x f) (hf:DR P ty f=some (off,k)) (h:qc s (.fa off k x')):vZ P E a o (qt s (.fa off k x')):=by
 have rx:=dI R hx;simp only[qc] at h;split at h
 ·rename_i i j oo e1;rw[e1,aF rfl] at rx;simp only[aO] at rx;obtain⟨u,hu,hlive⟩:=rx;obtain⟨b,n,c,hφ,hu'⟩:=hlive (by rw[R.he]; exact h);have ha:a.eval x= .pointer (some ⟨b,j*bn (E.κ i)+oo,none⟩):=by rw[<- hu']; simpa using hu
  refine⟨.pointer (some ⟨b,j*bn (E.κ i)+oo+off,none⟩),?_,?_⟩
  ·simp[execOp,ho,ha,Jm hf]
  ·simp only[qt,e1];rw[aF rfl];simp only[aO];exact⟨_,rfl,fun _=>⟨b,n,c,hφ,by rw[Nat.add_assoc]⟩⟩
 ·rename_i kt t e1;rw[e1,aF rfl] at rx;simp only[aO] at rx;obtain⟨b,off',cur,e,m,hu,hS,hh,hk,hid,hl,hr⟩:=rx;simp only[Bool.and_eq_true,Bool.not_eq_true',beq_eq_false_iff_ne,ne_eq] at h;have ha:a.eval x= .pointer (some ⟨b,off',none⟩):=by simpa using hu
  have hkt:t.kd≠0:=by rw[hk]; exact h.1
  have hp:=Oi hr hkt (off:=off) (k:=k) (by rw[<- qG,hk]; exact h.2);refine⟨.pointer (some ⟨b,off'+off,none⟩),?_,?_⟩
  ·simp[execOp,ho,ha,Jm hf]
  ·simp only[qt,e1];rw[aF rfl];simp only[aO];refine⟨b,off'+off,cur,e,m,rfl,hS,hh,hp.2.1,Rz hid _ _,?_,?_⟩
   ·have:=hp.2.2;simp only[List.length_take,List.length_drop] at this hl ⊢; omega
   ·have h1:=hp.1;rw[List.drop_take,List.take_take,List.drop_drop] at h1;have h2:=h.2;simp only[qF,Nat.ble_eq] at h2;rw[Nat.min_eq_left (by omega)] at h1;exact h1
 ·exact h.elim
theorem wH{ty e:Nat}(h:elemOf P ty=some e):P.underlying ty=some (.slice e):=by
 unfold elemOf at h;split at h
 ·rename_i e' h1; cases h; exact h1
 ·cases h
theorem run_indexAt{ty e k:Nat}(he:elemOf P ty=some e)(hk:kindOf P e=some k){b off len cap:Nat}{kd:IntKind}{n:Int}(h0:0<=n)(h1:n<len)(w:World) :
  (Instr.indexAt ty (.slice (some ⟨b,off,none⟩) len cap) (.int kd n)).run P w= .ok (.pointer (some ⟨b,off+n.toNat*bn k,none⟩)) w:=by
 have hu:=wH he;simp[Instr.indexAt,asIntOf,underlying,hu,h0,h1,jl hk,addr_add]
theorem ahK(R:Rel F M E s a){ty e k:Nat}{x i:Operand}{x' i':X}(hx:bC x=some x')(hi:bC i=some i'){o:Oper}
  (ho:o.op= .indexAddr ty x i) (he:elemOf P ty=some e) (hk:kindOf P e=some k) (h:qc s (.ia k x' i')):vZ P E a o (qt s (.ia k x' i')):=by
 have rx:=dI R hx; have ri:=dI R hi;simp only[qc] at h;split at h
 ·rename_i k' full l kd n e1 e2;obtain⟨rfl,h0,h1⟩:=h;rw[e2,aQ] at ri;rw[e1,aF rfl] at rx;simp only[aO] at rx;obtain⟨ad,c,hu,hlc,hfull,hrow⟩:=rx;have hne:l≠[]:=by rintro rfl; simp at h1; omega
  obtain⟨b,off,cur,te,m,rfl,hS,hh,hid,hr⟩:=hrow.resolve_left hne;have ha:a.eval x= .slice (some ⟨b,off,none⟩) l.length c:=by simpa using hu
  have hg:=uQ hr (j:=n.toNat) (by omega);refine⟨.pointer (some ⟨b,off+n.toNat*bn k',none⟩),?_,?_⟩
  ·simp[execOp,ho,ha,ri,run_indexAt he hk h0 h1]
  ·simp only[qt,e1,e2];rw[aF rfl];simp only[aO];refine⟨b,_,cur,te,m,rfl,hS,hh,hg.1,wC hid (by simp[T.ids]),?_,?_⟩
   ·have:=hg.2.1;simp only[List.length_drop] at this ⊢; omega
   ·rw[<- List.drop_drop]; exact hg.2.2.2
 ·rename_i oo kd n e1 e2;split at h
  ·rename_i ob hob;obtain⟨rfl,h0,h1⟩:=h;rw[e2,aQ] at ri;rw[e1,aF rfl] at rx;simp only[aO] at rx;obtain⟨u,hu,hlive⟩:=rx;have gW:E.h oo=some ob:=by rw[R.he]; exact hob
   have hφ:=hlive (by rw[gW]; rfl);obtain⟨hok,JC,hsz⟩:=R.hk.obs oo ob gW;have ha:a.eval x=E.φ oo:=by rw[<- hφ]; simpa using hu
   rcases hok.row (BZ hk) with ⟨ad,_,hnil⟩|⟨g,c,cur,hv,hc,_,hh,hcs,hr⟩
   ·rw[hnil] at h1; simp at h1; omega
   ·refine⟨.pointer (some ⟨g,0+n.toNat*bn ob.k,none⟩),?_,?_⟩
    ·simp[execOp,ho,ha,hv,ri,run_indexAt he hk h0 h1]
    ·simp only[qt,e1,e2];rw[aF rfl];simp only[aO];exact⟨_,rfl,fun _=>⟨g,_,_,hv,by rw[JC]; simp⟩⟩
  ·exact h.elim
 ·rename_i oo lo hi' kd n e1 e2;split at h
  ·rename_i ob hob;obtain⟨rfl,h0,h1⟩:=h;rw[e2,aQ] at ri;rw[e1,aF rfl] at rx;simp only[aO] at rx;obtain⟨u,hu,hlive⟩:=rx;have gW:E.h oo=some ob:=by rw[R.he]; exact hob
   obtain⟨ad,m,c,hφ,hl1,hl2,hl3,hu'⟩:=hlive (by rw[gW]; rfl);obtain⟨hok,JC,hsz⟩:=R.hk.obs oo ob gW;have ha:a.eval x=u:=by simpa using hu
   rcases hok.row (BZ hk) with ⟨ad',hv,hnil⟩|⟨g,c',cur,hv,hc,_,hh,hcs,hr⟩
   ·rw[hφ] at hv; simp at hv; omega
   ·rw[hφ] at hv;simp only[Value.slice.injEq] at hv;obtain⟨rfl,rfl,rfl⟩:=hv;rw[if_neg (by omega),JC] at hu';simp only[Option.map_some,addr_add,Nat.zero_add] at hu';have h1':n<((hi'-lo:Nat):Int):=h1;refine⟨.pointer (some ⟨g,lo*bn ob.k+n.toNat*bn ob.k,none⟩),?_,?_⟩
    ·simp[execOp,ho,ha,hu',ri,run_indexAt he hk h0 h1']
    ·simp only[qt,e1,e2];rw[aF rfl];simp only[aO];exact⟨_,rfl,fun _=>⟨g,_,_,hφ,by rw[JC]; simp[Nat.add_mul]⟩⟩
  ·exact h.elim
 ·exact h.elim
theorem ahL(R:Rel F M E s a){ty:Nat}{x i:Operand}{x' i':X}(hx:bC x=some x')(hi:bC i=some i'){o:Oper}
  (ho:o.op= .index ty x i) (ht:P.underlying ty=some .string) (h:qc s (.ch x' i')):vZ P E a o (qt s (.ch x' i')):=by
 have rx:=dI R hx; have ri:=dI R hi;simp only[qc] at h;split at h
 ·rename_i b kd n e1 e2;rw[e1,aQ] at rx; rw[e2,aQ] at ri;obtain⟨h0,h1⟩:=h;have hlt:n.toNat<b.size:=by omega
  have hb:b[n.toNat]? =some (b[n.toNat]'hlt):=by simp[getElem?_pos,hlt]
  refine⟨.int .u8 (b[n.toNat]'hlt).toNat,?_,?_⟩
  ·simp[execOp,ho,rx,ri,Instr.index,asIntOf,underlying,ht,h0,hb]
  ·simp only[qt,e1,e2,aQ]
   have:b.data.getD n.toNat 0=b[n.toNat]'hlt:=by
    rw[Array.getD_eq_getD_getElem?,Array.getElem?_eq_getElem (by simpa using hlt)]; rfl
   rw[this]
 ·exact h.elim
theorem q_ld(R:Rel F M E s a){ty k:Nat}{x:Operand}{x':X}(hx:bC x=some x'){o:Oper}
  (ho:o.op= .load ty x) (hk:kindOf P ty=some k) (h:qc s (.ld k x')):vZ P E a o (qt s (.ld k x')):=by
 have rx:=dI R hx
 have key: ∀ (t:T) (b off:Nat) (cur:Array Value) (e:TypeId) (m:Nat×Nat),E.w.heap[b]? =some (.cells cur e m)->0<bn k->t.kd=k ->
   off+bn k<=cur.size->aO E t ((cur.toList.drop off).take (bn k))->a.eval x= .pointer (some ⟨b,off,none⟩)->vZ P E a o t:=by
  intro t b off cur e m hh hpos hkd hl hr ha;obtain⟨g1,g2⟩:=Gi (P:=P) (w:=E.w) hk hh hl;by_cases h0:k=0
  ·obtain⟨v,hv,hrun⟩:=g2 h0;refine⟨v,by simp[execOp,ho,ha,Instr.loadAt,Instr.sureAddr,hrun],.inr ⟨by rw[hkd,h0],?_⟩⟩;subst h0;simp only[bn] at hr hl;rw[List.drop_eq_getElem_cons (by simp; omega),List.take_succ_cons,List.take_zero] at hr
   have:cur.toList[off]'(by simp; omega)=v:=by
    rw[Array.getElem?_eq_some_iff] at hv; obtain⟨_,hv⟩:=hv; simpa using hv
   rwa [this] at hr
  ·exact⟨_,by simp[execOp,ho,ha,Instr.loadAt,Instr.sureAddr,g1 h0]; rfl,.inl ⟨by rw[hkd]; exact h0,_,rfl,by simpa using hr⟩⟩
 simp only[qc] at h;split at h
 ·rename_i k' t e1;simp only[Bool.and_eq_true,beq_iff_eq,Nat.blt_eq] at h;obtain⟨rfl,hpos⟩:=h;rw[e1,aF rfl] at rx;simp only[aO] at rx;obtain⟨b,off,cur,e,m,hu,hS,hh,hkd,hid,hl,hr⟩:=rx;simp only[List.length_drop,Array.length_toList] at hl;simp only[qt,e1];exact key t b off cur e m hh hpos hkd (by omega) hr (by simpa using hu)
 ·rename_i i j off e1;split at h
  ·rename_i ob hob;obtain⟨hj,hcond⟩:=h;rw[e1,aF rfl] at rx;simp only[aO] at rx;obtain⟨u,hu,hlive⟩:=rx;have gW:E.h i=some ob:=by rw[R.he]; exact hob
   obtain⟨b,n,c,hφ,hu'⟩:=hlive (by rw[gW]; rfl);obtain⟨hok,JC,hsz⟩:=R.hk.obs i ob gW;rcases(hok.of_slice hφ).1 with ⟨ad,_,hnil⟩|⟨g,c',cur,hv,hc,_,hh,hcs,hr⟩
   ·rw[hnil] at hj; simp at hj
   ·rw[hφ] at hv;have hbg:b=g:=by simp at hv; exact hv.1
    subst hbg;have ha:a.eval x= .pointer (some ⟨b,j*bn ob.k+off,none⟩):=by rw[<- JC,<- hu']; simpa using hu
    obtain⟨r1,r2,r3,r4⟩:=uQ hr hj;simp only[Array.length_toList] at r2;simp only[qt,e1,hob];cases hw:(off==0&&ob.k==k) with
    |true =>
     simp only[Bool.and_eq_true,beq_iff_eq] at hw;obtain⟨rfl,rfl⟩:=hw;simp only[cond_true];exact key _ b _ cur ob.ty (0,0) hh hsz r1 (by omega) (by simpa using r4) ha
    |false =>
     rw[hw,Bool.false_or,Bool.and_eq_true,Bool.not_eq_true',beq_eq_false_iff_ne] at hcond;simp only[cond_false];have afs:(ob.l.getD j .any).kd≠0:=by rw[r1]; exact hcond.1
     have hp:=Oi r4 afs (off:=off) (k:=k) (by rw[<- qG,r1]; exact hcond.2);have hpo:=hcond.2;simp only[qF,Nat.ble_eq] at hpo;by_cases hpos:0<bn k
     ·refine key _ b _ cur ob.ty (0,0) hh hpos hp.2.1 (by omega) ?_ ha;have h1:=hp.1;rw[List.drop_take,List.take_take,List.drop_drop,Nat.min_eq_left (by omega)] at h1;exact h1
     ·have hk1:k=1:=by
       cases k with
       |zero=>simp[bn] at hpos
       |succ m=>simp only[bn] at hpos; omega
      subst hk1;obtain⟨g1,_⟩:=Gi (P:=P) (w:=E.w) hk hh (off:=j*bn ob.k+off) (by have e0:bn 1=0:=rfl; rw[e0] at hpo ⊢; omega);refine⟨_,by simp[execOp,ho,ha,Instr.loadAt,Instr.sureAddr,g1 (by omega)]; rfl,.inl ⟨by rw[hp.2.1]; omega,_,rfl,?_⟩⟩;simp[T.part,aO,aX,bn]
  ·exact h.elim
 ·exact h.elim
theorem ahM(R:Rel F M E s a){x:Operand}{x':X}(hx:bC x=some x'){o:Oper}(ho:o.op= .nilCheck x)(h:qc s (.nc x')):vZ P E a o (qt s (.nc x')):=by
 have rx:=dI R hx;refine⟨a.eval x,?_,rx⟩;simp only[qc] at h;split at h
 ·rename_i i j off e1;rw[e1,aF rfl] at rx;simp only[aO] at rx;obtain⟨u,hu,hlive⟩:=rx;obtain⟨b,n,c,hφ,hu'⟩:=hlive (by rw[R.he]; exact h);have ha:a.eval x= .pointer (some ⟨b,j*bn (E.κ i)+off,none⟩):=by rw[<- hu']; simpa using hu
  simp[execOp,ho,ha]
 ·rename_i k t e1;rw[e1,aF rfl] at rx;simp only[aO] at rx;obtain⟨b,off,cur,e,m,hu,_⟩:=rx;have ha:a.eval x= .pointer (some ⟨b,off,none⟩):=by simpa using hu
  simp[execOp,ho,ha]
 ·rename_i f cap e1;rw[e1,aF rfl] at rx;simp only[aO] at rx;obtain⟨cs,hu,_⟩:=rx;have ha:a.eval x=fnV f cs:=by simpa using hu
  rcases Ip f cs with ⟨_,h1⟩|⟨_,h1⟩<;>rw[h1] at ha<;>simp[execOp,ho,ha]
 ·exact h.elim
theorem JV{at':Array TypeId}{t:TypeId}{x:Operand}{o:Oper}(ho:o.op= .call {callee:=.builtin .len,args:= #[x],argTypes:=at'})(h0:at'[0]? =some t){n:Nat}
  (h:(P.underlying t=some .string/\ ∃ b,a.eval x= .string b/\b.size=n)\/(∃ e,P.underlying t=some (.slice e)/\ ∃ ad c,a.eval x= .slice ad n c)) :
  (execOp a.eval o).run P E.w= .ok (.value (.int .i64 n)) E.w:=by
 rcases h with ⟨h1,b,h2,rfl⟩|⟨e,h1,ad,c,h2⟩ <;>
  simp[execOp,ho,resolve,invoke,builtin,Builtin.len_,h0,h2,underlying,h1,goInt]
theorem q_len(R:Rel F M E s a){at':Array TypeId}{t:TypeId}{str:Bool}{x:Operand}{x':X}(hx:bC x=some x'){o:Oper}
  (ho:o.op= .call {callee:=.builtin .len,args:= #[x],argTypes:=at'}) (h0:at'[0]? =some t)
  (ht:if str then P.underlying t=some .string else ∃ e,P.underlying t=some (.slice e)) (h:qc s (.len str x')):vZ P E a o (qt s (.len str x')):=by
 have rx:=dI R hx;simp only[qc] at h;split at h
 ·rename_i k f l e1;subst h;rw[e1,aF rfl] at rx;simp only[aO] at rx;obtain⟨ad,c,hu,_⟩:=rx;simp only[Bool.false_eq_true,if_false] at ht;obtain⟨e,ht⟩:=ht;refine⟨.int .i64 l.length,JV ho h0 (.inr ⟨e,ht,ad,c,by simpa using hu⟩),by simp only[qt,e1,aQ]⟩
 ·rename_i oo e1;split at h
  ·rename_i ob hob;obtain⟨rfl,hnm⟩:=h;rw[e1,aF rfl] at rx;simp only[aO] at rx;obtain⟨u,hu,hlive⟩:=rx;have gW:E.h oo=some ob:=by rw[R.he]; exact hob
   have hφ:=hlive (by rw[gW]; rfl);obtain⟨hok,JC,hsz⟩:=R.hk.obs oo ob gW;have ha:a.eval x=E.φ oo:=by rw[<- hφ]; simpa using hu
   simp only[Bool.false_eq_true,if_false] at ht;obtain⟨e,ht⟩:=ht;refine⟨.int .i64 ob.l.length,JV ho h0 (.inr ⟨e,ht,?_⟩),by simp only[qt,e1,hob,aQ]⟩;rcases hok.row hnm with ⟨ad,hv,hnil⟩|⟨g,c,cur,hv,_⟩
   ·exact⟨ad,0,by rw[ha,hv,hnil]; rfl⟩
   ·exact⟨_,_,by rw[ha,hv]⟩
  ·exact h.elim
 ·rename_i oo lo hi' e1;obtain⟨rfl,hsome⟩:=h;rw[e1,aF rfl] at rx;simp only[aO] at rx;obtain⟨u,hu,hlive⟩:=rx;obtain⟨ad,m,c,hφ,hl1,hl2,hl3,hu'⟩:=hlive (by rw[R.he]; exact hsome);have ha:a.eval x=u:=by simpa using hu
  simp only[Bool.false_eq_true,if_false] at ht;obtain⟨e,ht⟩:=ht;exact⟨.int .i64 ((hi'-lo:Nat):Int),JV ho h0 (.inr ⟨e,ht,_,_,by rw[ha,hu']⟩),by simp only[qt,e1,aQ]⟩
 ·rename_i b e1;subst h;rw[e1,aQ] at rx;simp only[if_true] at ht;exact⟨.int .i64 b.size,JV ho h0 (.inl ⟨ht,b,rx,rfl⟩),by simp only[qt,e1,aQ]⟩
 ·exact h.elim
theorem ahN(R:Rel F M E s a){at':Array TypeId}{x y:Operand}{x' y':X}(hx:bC x=some x')(hy:bC y=some y'){o:Oper}
  (ho:o.op= .call {callee:=.builtin .max,args:= #[x,y],argTypes:=at'}) (h:qc s (.mx x' y')):vZ P E a o (qt s (.mx x' y')):=by
 have rx:=dI R hx; have ry:=dI R hy;simp only[qc] at h;split at h
 ·rename_i k n k' m e1 e2;rw[e1,aQ] at rx; rw[e2,aQ] at ry;refine⟨.int k (if n<m then m else n),?_,by simp only[qt,e1,e2,aQ]⟩;simp[execOp,ho,resolve,invoke,builtin,Builtin.max_,Builtin.max2,rx,ry]
 ·exact h.elim
theorem ahO(R:Rel F M E s a){i:Nat}{x:Operand}{x':X}(hx:bC x=some x'){o:Oper}(ho:o.op= .extract x i)(h:qc s (.ex x' i)):vZ P E a o (qt s (.ex x' i)):=by
 have rx:=dI R hx;simp only[qc] at h;split at h
 ·rename_i l e1;rw[e1,aF rfl] at rx;simp only[aO] at rx;obtain⟨cs,hu,hr⟩:=rx;have ha:a.eval x= .tuple cs:=by simpa using hu
  have hlen:=pY hr;simp only[Array.length_toList] at hlen;rw[Nat.blt_eq] at h;have hg:=xA hr i;have hci:cs[i]? =some (cs[i]'(by omega)):=by simp
  refine⟨cs[i]'(by omega),by simp[execOp,ho,ha,Instr.extract,hci],?_⟩;simp only[qt,e1];have e2:l.getD i T.un=l.getD i .any:=by simp[List.getD_eq_getElem?_getD,h]
  have e3:cs.toList.getD i undef=cs[i]'(by omega):=by simp[List.getD_eq_getElem?_getD,hci]
  rw[e2,e3] at hg; exact hg
 ·exact h.elim
theorem Ag{xs:List Operand}{xs':List X}(h:rE xs=some xs')(R:Rel F M E s a):bM E (xs'.map s.ev) (xs.map a.eval)/\T.aS M (xs'.map s.ev):=by
 induction xs generalizing xs' with
 |nil=>cases h; simp[bM,T.aS]
 |cons x r ih =>
  simp only[rE] at h;split at h
  ·rename_i x' r' h1 h2;cases h;obtain⟨i1,i2⟩:=ih h2;rw[List.map_cons,List.map_cons,dH];exact⟨⟨_,_,rfl,dI R h1,i1⟩,by simp only[T.aS]; exact⟨ng R h1,i2⟩⟩
  ·cases h
theorem RH{t:T}{v:Value}(hk:rX F E)(h:jQ E t v)(h1:t.Bl E.h=true):t.kd=0/\v.oneCell'=true/\aO E t [v]:=by
 have hkd:t.kd=0:=by cases t<;>simp_all[T.Bl,T.kd]
 rw[aF hkd] at h;refine⟨hkd,?_,h⟩;cases t with
 |lit u=>simp only[aO] at h; simp only[T.Bl] at h1; simp at h; rw[h]; exact h1
 |sl k f l=>simp only[aO] at h; obtain⟨ad,c,hu,_⟩:=h; simp at hu; rw[hu]; rfl
 |ref k t=>simp only[aO] at h; obtain⟨b,off,cur,e,m,hu,_⟩:=h; simp at hu; rw[hu]; rfl
 |fn f cap =>
  simp only[aO] at h; obtain⟨cs,hu,_⟩:=h; simp at hu; rw[hu];rcases Ip f cs with ⟨_,h1⟩|⟨_,h1⟩<;>rw[h1]<;>rfl
 |own i =>
  simp only[aO] at h; obtain⟨u,hu,hl⟩:=h;simp only[T.Bl] at h1;have:=hl h1;simp at hu; rw[hu,this];obtain⟨ob,hob⟩:=Option.isSome_iff_exists.1 h1;rcases(hk.obs i ob hob).1 with ⟨_,⟨ad,hv,_⟩|⟨g,c,cur,hv,_⟩⟩|⟨_,g,es,cl,hv,_⟩<;>rw[hv]<;>rfl
 |ptr i j off =>
  simp only[aO] at h; obtain⟨u,hu,hl⟩:=h;simp only[T.Bl] at h1;obtain⟨b,n,c,_,hu'⟩:=hl h1;simp at hu; rw[hu,hu']; rfl
 |qE i lo hi =>
  simp only[aO] at h; obtain⟨u,hu,hl⟩:=h;simp only[T.Bl] at h1;obtain⟨ad,n,c,_,_,_,_,hu'⟩:=hl h1;simp at hu; rw[hu,hu']; rfl
 |agg l=>simp[T.Bl] at h1
 |dW l=>simp[T.Bl] at h1
 |any=>simp[T.Bl] at h1
theorem xF{t:T}{v:Value}(hk:rX F E)(h:jQ E t v)(h1:t.lC E.h=true):aX E t.cells v.cells.toList:=by
 refine Vf h fun hkd=>?_
 cases t with
 |agg l=>simp[T.kd] at hkd
 |_=>exact(RH hk h h1).2.1
theorem Yu(hk:rX F E): ∀ {ts:List T} {vs:List Value},bM E ts vs->Ac E.h ts=true->aX E ts vs:=by
 intro ts;induction ts with
 |nil=>intro vs h _; simp[bM] at h; subst h; simp[aX]
 |cons t ts ih =>
  intro vs h h1;rw[dH] at h;obtain⟨v,r,rfl,h2,h3⟩:=h;simp only[Ac,Bool.and_eq_true] at h1;obtain⟨g1,g2,g3⟩:=RH hk h2 h1.1;simp only[aX];exact⟨g1,v,r,rfl,g2,g3,ih h3 h1.2⟩
theorem ahP(R:Rel F M E s a){f:FuncId}{first cap:Array Operand}{cap':List X}(hc:rE cap.toList=some cap'){o:Oper}
  (ho:o.op= .makeFunc (.func f) first cap) (hf:first.size=0) (h:qc s (.mf f cap')):vZ P E a o (qt s (.mf f cap')):=by
 have hfirst:first= #[]:=Array.eq_empty_of_size_eq_zero hf;subst hfirst;simp only[qc,Bool.and_eq_true,Nat.blt_eq] at h;obtain⟨h,hlt⟩:=h;refine⟨.func (.func f) #[] (cap.map a.eval),by simp[execOp,ho,Instr.makeFunc],?_⟩;simp only[qt];rw[aF rfl];simp only[aO];refine⟨_,by rw[PI hlt],?_⟩;rw[<- R.he] at h;have:=Yu R.hk (Ag hc R).1 h;simpa using this
theorem ahQ(R:Rel F M E s a){f:FuncId}{first cap:Array Operand}{x:Operand}{x':X}(hx:bC x=some x'){o:Oper}
  (ho:o.op= .makeFunc (.func f) first cap) (hf:first.toList=[x]) (hc:cap.toList=[]) (h:qc s (.mb f x')):vZ P E a o (qt s (.mb f x')):=by
 have hfirst:first= #[x]:=Array.ext' (by simpa using hf);have hcap:cap= #[]:=Array.ext' (by simpa using hc);subst hfirst hcap;have rx:=dI R hx;simp only[qc] at h;split at h
 ·rename_i l e1;rw[e1,zn] at rx;obtain⟨cs,hv,hr⟩:=rx;refine⟨.func (.func f) #[a.eval x] #[],by simp[execOp,ho,Instr.makeFunc],?_⟩;simp only[qt,e1];rw[aF rfl];simp only[aO];exact⟨cs,by rw[afo h,hv],hr⟩
 ·exact h.elim
end ops
section
variable {P:Program} {F:Fr P} {M:Nat->Prop} {E:Env} {s:AS} {a:Act}
def PK(P:Program)(t:TypeId)(xs:List Int):Value:=if kindOf P t=some 0 then .int .i64 (xs.getD 0 0) else .agg (xs.map (Value.int .i64)).toArray
theorem Em{t:TypeId}{k:Nat}(hk:kindOf P t=some k){X:List Int}{off n:Nat}(hn:n=bn k)(h:off+n<=X.length)(w:World) :
  (part t (X.map (Value.int .i64)).toArray off).run P w= .ok (PK P t ((X.drop off).take n)) w:=by
 simp only[part,Sem.run_bind,zZ hk,Result.andThen_ok];unfold PK;rw[hk];cases k with
 |zero =>
  simp only[bn] at hn;subst hn;have hlt:off<X.length:=by omega
  simp only[bne_self_eq_false,Bool.false_eq_true,if_false,if_true,List.getElem?_toArray,List.getElem?_map,List.getElem?_eq_getElem hlt,Option.map_some,Sem.run_pure,Result.ok.injEq,Value.int.injEq,true_and,and_true];simp[List.getD_eq_getElem?_getD,hlt]
 |succ m =>
  have hne: ¬ (some (m+1)=some 0):=by simp
  have hb:((m+1) !=0)=true:=by simp
  rw[if_neg hne];simp only[hb,if_true,Sem.run_bind,jl hk,Result.andThen_ok,Sem.run_pure,Result.ok.injEq,Value.agg.injEq,and_true];apply Array.ext';simp[hn,List.extract_eq_take_drop,List.map_take,List.map_drop]
theorem Yv: ∀ {d:Nat} {t:TypeId} {n:Nat},Af P d t=some n-> ∃ k,kindOf P t=some k/\n=bn k:=by
 intro d;cases d with
 |zero=>intro t n h; cases h
 |succ d =>
  intro t n h;simp only[Af] at h;split at h
  ·rename_i h1 h2; cases h; exact⟨0,h2,rfl⟩
  ·rename_i fs k h1 h2;split at h
   ·split at h
    ·split at h
     ·rename_i h3; cases h; exact⟨k,h2,by rw[h3]; rfl⟩
     ·cases h
    ·cases h
   ·cases h
  ·cases h
theorem Nu{g:TypeId->Option Nat}{d:Nat}(hg: ∀ t n,g t=some n->(∃ k,kindOf P t=some k/\n=bn k)/\ ∀ (xs ys:List Int),xs.length=n->ys.length=n-> ∀ w,(Op.equalIn d t (PK P t xs) (PK P t ys)).run P w= .ok (decide (xs=ys)) w)
  {X Y:List Int} {N:Nat} (hX:X.length=N) (hY:Y.length=N): ∀ {fs:List Field} {off:Nat},Ld g fs off=some N->off<=N/\ ∀ w,(Op.eqFields d (X.map (Value.int .i64)).toArray (Y.map (Value.int .i64)).toArray fs).run P w= .ok (decide (X.drop off=Y.drop off)) w:=by
 intro fs;induction fs with
 |nil =>
  intro off h;simp only[Ld,Option.some.injEq] at h;subst h;refine⟨Nat.le_refl _,fun w=>?_⟩;rw[List.drop_of_length_le (by omega),List.drop_of_length_le (by omega)];simp[Op.eqFields]
 |cons f fs ih =>
  intro off h;simp only[Ld] at h;split at h
  ·rename_i hf;obtain⟨hnm,rfl⟩:=hf;split at h
   ·rename_i n hn;obtain⟨⟨k,hk,hnk⟩,hrun⟩:=hg _ _ hn;obtain⟨hle,hrest⟩:=ih h;refine⟨by omega,fun w=>?_⟩;rw[Op.eqFields,if_pos hnm];simp only[Sem.run_bind,Em hk hnk (X:=X) (off:=f.offset) (by omega),Em hk hnk (X:=Y) (off:=f.offset) (by omega),Result.andThen_ok];rw[hrun _ _ (by simp; omega) (by simp; omega) w];simp only[Result.andThen_ok];have hsplit: ∀ Z:List Int,Z.drop f.offset=(Z.drop f.offset).take n++Z.drop (f.offset+n):=fun Z=>by rw[<- List.drop_drop]; exact(List.take_append_drop n _).symm
    by_cases he:(X.drop f.offset).take n=(Y.drop f.offset).take n
    ·simp only[he,decide_true,Bool.not_true,Bool.false_eq_true,if_false,hrest]
     congr 1
     rw[hsplit X,hsplit Y,he];simp
    ·have hne: ¬ (X.drop f.offset=Y.drop f.offset):=fun e=>he (by rw[e])
     simp[he,hne]
   ·cases h
  ·cases h
theorem RI: ∀ {d:Nat} {t:TypeId} {n:Nat},Af P d t=some n-> ∀ e,d<=e-> ∀ (xs ys:List Int),xs.length=n->ys.length=n-> ∀ w,(Op.equalIn e t (PK P t xs) (PK P t ys)).run P w= .ok (decide (xs=ys)) w:=by
 intro d;induction d with
 |zero=>intro t n h; cases h
 |succ d ih =>
  intro t n h e he xs ys hx hy w;obtain⟨e,rfl⟩: ∃ e',e=e'+1:=⟨e-1,by omega⟩
  have hfl:=h;simp only[Af] at h;split at h
  ·rename_i h1 h2;cases h;simp only[PK,h2,if_true];rw[run_equalIn_int w e t .i64 .i64 _ _ h1];match xs,ys,hx,hy with
   |[x],[y],_,_=>simp; rfl
  ·rename_i fs k h1 h2;split at h
   ·rename_i hst;split at h
    ·rename_i m hm;split at h
     ·rename_i hk;cases h;have hk0: ¬ (kindOf P t=some 0):=by rw[h2,hk]; simp
      simp only[PK,if_neg hk0];have hfo:P.fieldsOf t=fs:=by simp[Program.fieldsOf,h1]
      rw[run_equalIn_struct w e t _ _ (by rw[hfo]; exact h1) hst.1,hfo];have:=(Nu (P:=P) (g:=Af P d) (d:=e) (fun t' n' h'=>⟨Yv h',ih h' e (by omega)⟩) hx hy hm).2 w;simpa using this
     ·cases h
    ·cases h
   ·cases h
  ·cases h
def yR:T->Int
 | .lit (.int _ n)=>n
 |_=>0
theorem Lj: ∀ {l:List T} {vs:List Value},rD l=true->aX E l vs->vs=(l.map yR).map (Value.int .i64):=by
 intro l;induction l with
 |nil=>intro vs _ h; simpa [aX] using h
 |cons t ts ih =>
  intro vs ha h;simp only[aX] at h;obtain⟨_,v,r,rfl,_,h1,h2⟩:=h;cases t with
  |lit u =>
   cases u with
   |int k n =>
    cases k<;>simp only[rD] at ha<;>first|(cases ha; done)|skip
    rw[ih ha h2];simp only[aO] at h1;simp at h1;simp[yR,h1]
   |_=>simp[rD] at ha
  |_=>simp[rD] at ha
theorem Yw: ∀ {l l':List T},rD l=true->rD l'=true->uz l l'=decide (l.map yR=l'.map yR):=by
 intro l;induction l with
 |nil=>intro l' _ h; cases l' with
  |nil=>rfl
  |cons t ts=>simp[uz]
 |cons t ts ih =>
  intro l' ha hb;cases t with
  |lit u =>
   cases u with
   |int k n =>
    cases k<;>simp only[rD] at ha<;>first|(cases ha; done)|skip
    cases l' with
    |nil=>simp[uz]
    |cons t' ts' =>
     cases t' with
     |lit u' =>
      cases u' with
      |int k' n' =>
       cases k'<;>simp only[rD] at hb<;>first|(cases hb; done)|skip
       simp only[uz,ih ha hb,List.map_cons,yR,List.cons.injEq];rw[Bool.eq_iff_iff]; simp
      |_=>simp[rD] at hb
     |_=>simp[rD] at hb
   |_=>simp[rD] at ha
  |_=>simp[rD] at ha
theorem aeY(R:Rel F M E s a){op:BinOp}{t ty':TypeId}{fs:Array Field}{ne:Bool}{n:Nat}{x y:Operand}{x' y':X}(hx:bC x=some x')(hy:bC y=some y'){o:Oper}
  (ho:o.op= .binOp op t x y ty') (hop:op=if ne then .neq else .eql) (hs:P.underlying t=some (.struct fs)) (ht:Af P 20 t=some n) (h:qc s (.eqs ne n x' y')):vZ P E a o (qt s (.eqs ne n x' y')):=by
 have rx:=dI R hx; have ry:=dI R hy;simp only[qc] at h;split at h
 ·rename_i l l' e1 e2;simp only[Bool.and_eq_true,beq_iff_eq] at h;obtain⟨⟨⟨h1,h2⟩,h3⟩,h4⟩:=h;rw[e1,zn] at rx; rw[e2,zn] at ry;obtain⟨cs,hcs,hr⟩:=rx;obtain⟨cs',hcs',hr'⟩:=ry;have g1:=Lj h1 hr;have g2:=Lj h2 hr';have hg:P.eqGuardType P.depth t=false:=by
   unfold Af at ht;rw[hs] at ht;generalize kindOf P t=kk at ht;cases kk with
   |none=>simp at ht
   |some k =>
    simp only at ht;by_cases hq:P.stoodInHeld t=false/\P.eqGuardType P.depth t=false
    ·exact hq.2
    ·rw[if_neg hq] at ht; cases ht
  have hk0: ¬ (kindOf P t=some 0):=by
   unfold kindOf;rw[hs];cases P.info? t with
   |none=>simp
   |some i=>simp only; split<;>simp
  have heq:=RI ht Op.maxDepth (by unfold Op.maxDepth; omega) (l.map yR) (l'.map yR) (by simp[h3]) (by simp[h4]) E.w;simp only[PK,if_neg hk0] at heq;have c1:(List.map (Value.int IntKind.i64) (List.map yR l)).toArray=cs:=by rw[<- g1]
  have c2:(List.map (Value.int IntKind.i64) (List.map yR l')).toArray=cs':=by rw[<- g2]
  rw[c1,c2] at heq;refine⟨.bool (bif ne then !(uz l l') else uz l l'),?_,by simp only[qt,e1,e2,aQ]⟩;rw[Yw h1 h2];have hgd:(eqGuard op t x y (.agg cs) (.agg cs')).run P E.w= .ok () E.w:=by
   subst hop;unfold eqGuard;cases ne<;>simp[hg]
  cases ne
  ·simp only[hop,Bool.false_eq_true,if_false] at ho hgd ⊢;simp only[execOp,ho,hcs,hcs',hgd,binOp,Sem.run_bind,Sem.run_pure,Result.andThen_ok,Op.equal,heq,cond_false]
  ·simp only[hop,if_true] at ho hgd ⊢;simp only[execOp,ho,hcs,hcs',hgd,binOp,Sem.run_bind,Sem.run_pure,Result.andThen_ok,Op.equal,heq,cond_true]
 ·exact h.elim
end
inductive RJ{α β:Type}(R:α->β->Prop):List α->List β->Prop
 |nil:RJ R [] []
 |cons {a:α} {b:β} {as:List α} {bs:List β}:R a b->RJ R as bs->RJ R (a::as) (b::bs)
section ops
variable {P:Program} {F:Fr P} {M:Nat->Prop} {E:Env} {s:AS} {a:Act}
theorem RN(off:Nat): ∀ (xs:List Value) (n:Nat) (cs:Array Value),off+n+xs.length<=cs.size ->
  ((xs.zipIdx n).foldl (fun(cs:Array Value) (p:Value×Nat)=>cs.setIfInBounds (off+p.2) p.1) cs).toList=cs.toList.take (off+n)++xs++cs.toList.drop (off+n+xs.length)
 |[],n,cs,_=>by simp
 |x::xs,n,cs,h=>by
  simp only[List.length_cons] at h;rw[List.zipIdx_cons,List.foldl_cons,RN off xs (n+1) _ (by simp; omega)];simp only[Array.toList_setIfInBounds,List.length_cons];have h1:off+n<cs.toList.length:=by simp; omega
  rw[List.drop_set_of_lt (by omega)];have e1:(cs.toList.set (off+n) x).take (off+(n+1))=cs.toList.take (off+n)++[x]:=by
   rw[<- Nat.add_assoc,List.take_add_one,List.take_set_of_le (Nat.le_refl _)];simp[List.getElem?_set_self h1]
  rw[e1];have e2:off+(n+1)+xs.length=off+n+(xs.length+1):=by omega
  rw[e2]; simp
theorem Oj(off:Nat)(v:Value)(cs:Array Value)(h:off+v.cells.size<=cs.size) :
  (v.cells.zipIdx.foldl (fun(cs:Array Value) (p:Value×Nat)=>cs.setIfInBounds (off+p.2) p.1) cs).toList=cs.toList.take off++v.cells.toList++cs.toList.drop (off+v.cells.size):=by
 have:=RN off v.cells.toList 0 cs (by simpa using h);rw[<- Array.foldl_toList];simpa [Array.toList_zipIdx] using this
theorem Gj{z:List T}{zs:List Value}(h:aX E z zs){off n:Nat}{c:List T}{vs:List Value}(hc:aX E c vs) :
  aX E (z.take off++c++z.drop (off+n)) (zs.take off++vs++zs.drop (off+n)):=by
 rw[Gh];refine⟨zs.take off++vs,_,rfl,?_,KZ h _⟩;rw[Gh];exact⟨_,_,rfl,KY h _,hc⟩
theorem RP(hk:rX F E)(place:Nat->Option (Nat×Nat)): ∀ (ps:List (Nat×Value)) (qs:List (Nat×Nat×T)) (z:List T) (cs:Array Value),
  RJ (fun p q=>place p.1=some (q.1,q.2.1)/\jQ E q.2.2 p.2/\q.2.2.lC E.h=true) ps qs->aX E z cs.toList->Ii z qs=true ->
  ∃ cs',Instr.fill place cs ps=some cs'/\aX E (Jk z qs) cs'.toList:=by
 intro ps;induction ps with
 |nil=>intro qs z cs h hz _; cases h; exact⟨cs,rfl,hz⟩
 |cons p ps ih =>
  intro qs z cs h hz hf;obtain⟨i,v⟩:=p;cases h with
  |cons hpq hrest =>
   rename_i q qs;obtain⟨off,n,t⟩:=q;obtain⟨h1,h2,h3⟩:=hpq;simp only[Ii,Bool.and_eq_true,beq_iff_eq,Nat.ble_eq] at hf;obtain⟨⟨hf1,hf2⟩,hf3⟩:=hf;have hc:=xF hk h2 h3;have hlen:=mY hc;have hzl:=mY hz;simp only[Array.length_toList] at hlen hzl;simp only[Instr.fill,h1,Jk];rw[if_neg (by simp; omega)];refine ih _ _ _ hrest ?_ hf3;rw[Oj off v cs (by omega),hlen,hf1];exact Gj hz hc
theorem yC(R:Rel F M E s a){ty:TypeId}{fs:Array Field}(hu:P.underlying ty=some (.struct fs)){places:List (Nat×Nat)}
  (hp:fs.toList.mapM (fun f=>(P.info? f.type).map fun i=>(f.offset,i.size))=some places) :
  ∀ {ps:List (Nat×Operand)} {ps':List (Nat×Nat×X)},compFields P ty ps=some ps'->xu s.hp (ps'.map fun p=>s.ev p.2.2)=true ->
   RJ (fun(p:Nat×Value) (q:Nat×Nat×T)=>places.toArray[p.1]? =some (q.1,q.2.1)/\jQ E q.2.2 p.2/\q.2.2.lC E.h=true)
    (ps.map fun p=>(p.1,a.eval p.2)) (ps'.map fun p=>(p.1,p.2.1,s.ev p.2.2))/\T.aS M (ps'.map fun p=>s.ev p.2.2):=by
 intro ps;induction ps with
 |nil=>intro ps' h _; cases h; exact⟨.nil,by simp[T.aS]⟩
 |cons p ps ih =>
  intro ps' h hst;obtain⟨i,x⟩:=p;simp only[compFields] at h;split at h
  ·rename_i x' off k r' h1 h2 h3;cases h;simp only[List.map_cons,xu,Bool.and_eq_true] at hst;obtain⟨i1,i2⟩:=ih h3 hst.2;refine⟨.cons ⟨?_,dI R h1,by rw[R.he]; exact hst.1⟩ i1,by simp only[List.map_cons,T.aS]; exact⟨ng R h1,i2⟩⟩;obtain⟨fs',fd,g1,g2,g3,_,g5⟩:=Lh h2;rw[hu] at g1; cases g1;obtain⟨inf,d,k1,_,k3,_⟩:=wG g3;have hlist:fs.toList[i]? =some fd:=by simpa using g2
   have hpl:places[i]? =some (off,bn k):=by
    have hgen: ∀ (l:List Field) (r:List (Nat×Nat)) (j:Nat),l.mapM (fun f=>(P.info? f.type).map fun i=>(f.offset,i.size))=some r->l[j]? =some fd->r[j]? =some (fd.offset,inf.size):=by
     intro l;induction l with
     |nil=>intro r j _ hj; simp at hj
     |cons f l ihl =>
      intro r j hm hj;simp only[List.mapM_cons,Option.bind_eq_bind,Option.pure_def,Option.bind_eq_some_iff] at hm;obtain⟨y,hy,ys,hys,hr⟩:=hm;cases hr;cases j with
      |zero=>simp at hj; subst hj; simp[k1] at hy; simp[hy]
      |succ j=>simpa using ihl ys j hys (by simpa using hj)
    rw[hgen _ _ _ hp hlist,g5,k3]
   simpa using hpl
  ·cases h
theorem Ol{z:List T}: ∀ {qs:List (Nat×Nat×T)},T.aS M z->T.aS M (qs.map fun q=>q.2.2)->T.aS M (Jk z qs):=by
 intro qs;induction qs generalizing z with
 |nil=>intro h _; exact h
 |cons q qs ih =>
  obtain⟨off,n,t⟩:=q;intro h h';simp only[List.map_cons,T.aS] at h';simp only[Jk];exact ih (fK.2 ⟨fK.2 ⟨wE h _,wF h'.1⟩,zl h _⟩) h'.2
theorem ahR(R:Rel F M E s a){ty:TypeId}{parts:Array (Nat×Operand)}{fs:Array Field}{cs:Array Value}{ps:List (Nat×Nat×X)}{o:Oper}
  (ho:o.op= .build ty parts) (hu:P.underlying ty=some (.struct fs)) (hz:zeroOf P ty=some (.agg cs)) (hc:compFields P ty parts.toList=some ps)
  (hok:kG (.agg cs)=true) (hpl:(fs.toList.mapM (fun f=>(P.info? f.type).map fun i=>(f.offset,i.size))).isSome=true)
  (h:qc s (.mk (cs.toList.map Pz) ps)):vZ P E a o (qt s (.mk (cs.toList.map Pz) ps)):=by
 obtain⟨places,hp⟩:=Option.isSome_iff_exists.1 hpl;simp only[qc,Bool.and_eq_true] at h;obtain⟨hF,_⟩:=yC R hu hp hc h.2;have hzr:aX E (cs.toList.map Pz) cs.toList:=DT fun v hv=>by
  simp only[kG,Value.cells,Array.all_eq_true_iff_forall_mem] at hok;exact hok v (by simpa using hv)
 obtain⟨cs',h1,h2⟩:=RP R.hk (fun i=>places.toArray[i]?) _ _ _ cs hF hzr h.1;have hb:P.built ty ((parts.map fun(i,x)=>(i,a.eval x)).toList)=some cs':=by
  unfold zeroOf at hz;cases hi:P.info? ty with
  |none=>simp[hi] at hz
  |some it =>
   have hz':it.zero=some (.agg cs):=by simpa [hi] using hz
   simp only[Program.built,hi,hu,hz',hp,Value.cells];simpa using h1
 refine⟨.agg cs',?_,?_⟩
 ·simp only[execOp,ho,Sem.run_bind,run_build E.w ty _ cs' hb,Result.andThen_ok,Sem.run_pure]
 ·simp only[qt]; rw[zn]; exact⟨cs',rfl,h2⟩
theorem rJ(R:Rel F M E s a){x:Option Operand}{x':Option X}(h:yA x=some x') :
  (x=none/\x'=none)\/ ∃ y y',x=some y/\x'=some y'/\jQ E (s.ev y') (a.eval y):=by
 cases x with
 |none=>cases h; exact .inl ⟨rfl,rfl⟩
 |some y =>
  simp only[yA,Option.map_eq_some_iff] at h;obtain⟨y',h1,rfl⟩:=h;exact .inr ⟨y,y',rfl,rfl,dI R h1⟩
theorem zo{k:Nat}{f':Bool}{l:List T}{ad:Option Addr}{c:Nat}(hlc:l.length<=c)
  (hrow:l=[]\/ ∃ b off cur e m,ad=some ⟨b,off,none⟩/\E.S b/\E.w.heap[b]? =some (.cells cur e m)/\T.aS (fun _=>False) l/\aG E k l (cur.toList.drop off))
  {lo hi mx:Nat} (h1:lo<=hi) (h2:hi<=l.length) (h3:hi<=mx) (_h4:mx<=c) (hfull:f'=true->mx=hi) {k':Nat} (hk:k=k'\/l=[]) :
  aO E (.sl k' f' ((l.take hi).drop lo)) [.slice (if mx=lo then ad else ad.map (·.add (lo*bn k'))) (hi-lo) (mx-lo)]:=by
 simp only[aO];have hlen:((l.take hi).drop lo).length=hi-lo:=by simp; omega
 refine⟨_,_,by rw[hlen],by omega,fun hf=>by rw[hfull hf,hlen],?_⟩;by_cases he:lo=hi
 ·exact .inl (List.eq_nil_of_length_eq_zero (by omega))
 ·have hne:l≠[]:=by rintro rfl; simp at h2; omega
  obtain⟨b,off,cur,e,m,rfl,hS,hh,hid,hr⟩:=hrow.resolve_left hne;have hk':=hk.resolve_right hne;subst hk';refine .inr ⟨b,off+lo*bn k,cur,e,m,?_,hS,hh,zl (wE hid _) _,?_⟩
  ·rw[if_neg (by omega)]; simp[addr_add]
  ·rw[<- List.drop_drop];exact Ae (vY hr hi) lo (by simp; omega)
theorem rM{ty e k:Nat}(hu:P.underlying ty=some (.slice e))(hk:kindOf P e=some k){ad:Option Addr}{len cap:Nat}{x:Operand}{lo hi mx:Option Operand}{o:Oper}
  (ho:o.op= .slice ty x lo hi mx) (ha:a.eval x= .slice ad len cap) {l h m:Nat} (hb:(Instr.sliceBounds true len cap (lo.map a.eval) (hi.map a.eval) (mx.map a.eval)).run P E.w= .ok (l,h,m) E.w) :
  (execOp a.eval o).run P E.w= .ok (.value (.slice (if m=l then ad else ad.map (·.add (l*bn k))) (h-l) (m-l))) E.w:=by
 simp only[execOp,ho,ha,Instr.sliceAt,Instr.slice,underlying,Sem.run_bind,run_program,Result.andThen_ok,hu,Sem.run_pure,hb,jl hk]
theorem jw{kd:IntKind}{n:Int}{y:Nat}{cde:BoundsCode}(h0:0<=n)(h1:n<=y)(w:World):(Instr.sliceBound (.int kd n) y cde).run P w= .ok n.toNat w:=by
 simp[Instr.sliceBound,asIntOf,h0,h1]
theorem agR(R:Rel F M E s a){ty e k:Nat}{x:Operand}{lo hi mx:Option Operand}{x':X}{lo' hi' mx':Option X}(hx:bC x=some x')(hlo:yA lo=some lo')(hhi:yA hi=some hi')(hmx:yA mx=some mx'){o:Oper}
  (ho:o.op= .slice ty x lo hi mx) (hu:P.underlying ty=some (.slice e)) (hk:kindOf P e=some k) (h:slC k (s.ev x') (lo'.map s.ev) (hi'.map s.ev) (mx'.map s.ev)):vZ P E a o (Ry k (s.ev x') (lo'.map s.ev) (hi'.map s.ev) (mx'.map s.ev)):=by
 have rx:=dI R hx;have rl:=rJ R hlo; have rh:=rJ R hhi; have rm:=rJ R hmx;unfold slC at h
 have row: ∀ {k' f l},s.ev x'= .sl k' f l-> ∃ ad c,a.eval x= .slice ad l.length c/\l.length<=c/\(f=true->c=l.length) /\
   (l=[]\/ ∃ b off cur e m,ad=some ⟨b,off,none⟩/\E.S b/\E.w.heap[b]? =some (.cells cur e m)/\T.aS (fun _=>False) l/\aG E k' l (cur.toList.drop off)):=by
  intro k' f l e1;rw[e1,aF rfl] at rx;simp only[aO] at rx;obtain⟨ad,c,hu',h1,h2,h3⟩:=rx;exact⟨ad,c,by simpa using hu',h1,h2,h3⟩
 have lN: ∀ {x:Option Operand} {x':Option X},((x=none/\x'=none)\/ ∃ y y',x=some y/\x'=some y'/\jQ E (s.ev y') (a.eval y))->x'.map s.ev=none->x=none:=by
  intro x x' h h';rcases h with ⟨h,_⟩|⟨y,y',_,rfl,_⟩
  ·exact h
  ·simp at h'
 have qH: ∀ {x:Option Operand} {x':Option X} {kd n},((x=none/\x'=none)\/ ∃ y y',x=some y/\x'=some y'/\jQ E (s.ev y') (a.eval y))->x'.map s.ev=some (.lit (.int kd n))->x.map a.eval=some (.int kd n):=by
  intro x x' kd n h h';rcases h with ⟨_,rfl⟩|⟨y,y',rfl,rfl,h⟩
  ·simp at h'
  ·simp only[Option.map_some,Option.some.injEq] at h' ⊢; rw[h',aQ] at h; exact h
 split at h
 ·rename_i k' f l e1 e2 e3 e4;obtain⟨ad,c,ha,hlc,hf,hrow⟩:=row e1;have n1:=lN rl e2; have n2:=lN rh e3; have n3:=lN rm e4;subst n1 n2 n3;refine⟨_,rM hu hk ho ha (l:=0) (h:=l.length) (m:=c) (by simp[Instr.sliceBounds]),?_⟩;simp only[Ry,e1,e2,e3,e4];rw[aF rfl];have:=zo (f':=f) hlc hrow (lo:=0) (hi:=l.length) (mx:=c) (by omega) (by omega) hlc (by omega) hf h;simpa using this
 ·rename_i k' f l kd n e1 e2 e3 e4;obtain⟨hkk,h0,h1⟩:=h;obtain⟨ad,c,ha,hlc,hf,hrow⟩:=row e1;have n1:=qH rl e2; have n2:=lN rh e3; have n3:=lN rm e4;subst n2 n3;refine⟨_,rM hu hk ho ha (l:=n.toNat) (h:=l.length) (m:=c) (by simp[Instr.sliceBounds,n1,jw h0 h1]),?_⟩;simp only[Ry,e1,e2,e3,e4];rw[aF rfl];have:=zo (f':=f) hlc hrow (lo:=n.toNat) (hi:=l.length) (mx:=c) (by omega) (by omega) hlc (by omega) hf hkk;simpa using this
 ·rename_i k' f l kd n e1 e2 e3 e4;obtain⟨hkk,h0,h1⟩:=h;obtain⟨ad,c,ha,hlc,hf,hrow⟩:=row e1;have n1:=lN rl e2; have n2:=qH rh e3; have n3:=lN rm e4;subst n1 n3;refine⟨_,rM hu hk ho ha (l:=0) (h:=n.toNat) (m:=c) (by simp[Instr.sliceBounds,n2,jw h0 (show n<=(c:Int) by omega)]),?_⟩;simp only[Ry,e1,e2,e3,e4];rw[aF rfl];have:=zo (f':=(f&&decide (n=l.length))) hlc hrow (lo:=0) (hi:=n.toNat) (mx:=c) (by omega) (by omega) (by omega) (by omega) (fun hq=>by simp only[Bool.and_eq_true,decide_eq_true_eq] at hq; have:=hf hq.1; omega) hkk;simpa using this
 ·rename_i k' f l kd n kd' n' e1 e2 e3 e4;obtain⟨hkk,h0,h1,h2⟩:=h;obtain⟨ad,c,ha,hlc,hf,hrow⟩:=row e1;have n1:=qH rl e2; have n2:=qH rh e3; have n3:=lN rm e4;subst n3
  refine⟨_,rM hu hk ho ha (l:=n.toNat) (h:=n'.toNat) (m:=c) (by
   simp[Instr.sliceBounds,n1,n2,jw (show 0<=n' by omega) (show n'<=(c:Int) by omega),jw h0 (show n<=(n'.toNat:Int) by omega)]),?_⟩
  simp only[Ry,e1,e2,e3,e4];rw[aF rfl];have:=zo (f':=false) hlc hrow (lo:=n.toNat) (hi:=n'.toNat) (mx:=c) (by omega) (by omega) (by omega) (by omega) (by simp) hkk;simpa using this
 ·rename_i k' f l kd n kd' n' e1 e2 e3 e4;obtain⟨hkk,h0,h1,h2⟩:=h;obtain⟨ad,c,ha,hlc,hf,hrow⟩:=row e1;have n1:=lN rl e2; have n2:=qH rh e3; have n3:=qH rm e4;subst n1
  refine⟨_,rM hu hk ho ha (l:=0) (h:=n.toNat) (m:=n'.toNat) (by
   simp[Instr.sliceBounds,n2,n3,jw (show 0<=n' by omega) (show n'<=(c:Int) by omega),jw h0 (show n<=(n'.toNat:Int) by omega)]),?_⟩
  simp only[Ry,e1,e2,e3,e4];rw[aF rfl];have:=zo (f':=decide (n=n')) hlc hrow (lo:=0) (hi:=n.toNat) (mx:=n'.toNat) (by omega) (by omega) (by omega) (by omega) (by simp; omega) hkk;simpa using this
 ·exact h.elim
theorem aft(R:Rel F M E s a){ty e k:Nat}{x:Operand}{lo hi mx:Option Operand}{x':X}{lo' hi' mx':Option X}(hx:bC x=some x')(hlo:yA lo=some lo')(hhi:yA hi=some hi')(hmx:yA mx=some mx'){o:Oper}
  (ho:o.op= .slice ty x lo hi mx) (hu:P.underlying ty=some (.slice e)) (hk:kindOf P e=some k) {i:Nat} {ob:Ob} (ei:s.ev x'= .own i) (hob:s.hp i=some ob) (h:Gf k ob (lo'.map s.ev) (hi'.map s.ev) (mx'.map s.ev)) :
  vZ P E a o (AZ i ob (lo'.map s.ev) (hi'.map s.ev) (mx'.map s.ev))/\(AZ i ob (lo'.map s.ev) (hi'.map s.ev) (mx'.map s.ev)).ids M:=by
 have rx:=dI R hx;have ix:=ng R hx;have rl:=rJ R hlo; have rh:=rJ R hhi; have rm:=rJ R hmx;rw[ei,aF rfl] at rx;rw[ei] at ix;simp only[aO] at rx;obtain⟨u,hu1,hlive⟩:=rx;have gW:E.h i=some ob:=by rw[R.he]; exact hob
 have hφ:=hlive (by rw[gW]; rfl);obtain⟨hok,JC,hsz⟩:=R.hk.obs i ob gW;have ha:a.eval x=E.φ i:=by rw[<- hφ]; simpa using hu1
 have lN: ∀ {x:Option Operand} {x':Option X},((x=none/\x'=none)\/ ∃ y y',x=some y/\x'=some y'/\jQ E (s.ev y') (a.eval y))->x'.map s.ev=none->x=none:=by
  intro x x' h h';rcases h with ⟨h,_⟩|⟨y,y',_,rfl,_⟩
  ·exact h
  ·simp at h'
 have qH: ∀ {x:Option Operand} {x':Option X} {kd n},((x=none/\x'=none)\/ ∃ y y',x=some y/\x'=some y'/\jQ E (s.ev y') (a.eval y))->x'.map s.ev=some (.lit (.int kd n))->x.map a.eval=some (.int kd n):=by
  intro x x' kd n h h';rcases h with ⟨_,rfl⟩|⟨y,y',rfl,rfl,h⟩
  ·simp at h'
  ·simp only[Option.map_some,Option.some.injEq] at h' ⊢; rw[h',aQ] at h; exact h
 have row:ob.k=k-> ∃ ad c,E.φ i= .slice ad ob.l.length c/\ob.l.length<=c:=by
  intro hkk;rcases hok.row (by rw[hkk]; exact BZ hk) with ⟨ad,h1,h2⟩|⟨g,c,cur,h1,h2,_⟩
  ·exact⟨ad,0,by rw[h1,h2]; rfl,by rw[h2]; simp⟩
  ·exact⟨_,_,h1,h2⟩
 unfold Gf at h;split at h
 ·rename_i kd n e2 e3 e4;obtain⟨hkk,h0,h1⟩:=h;obtain⟨ad,c,hv,hlc⟩:=row hkk;have n1:=qH rl e2; have n2:=lN rh e3; have n3:=lN rm e4;subst n2 n3;simp only[AZ,e2,e3,e4];refine⟨⟨_,rM hu hk ho (ha.trans hv) (l:=n.toNat) (h:=ob.l.length) (m:=c) (by simp[Instr.sliceBounds,n1,jw h0 h1]),?_⟩,ix⟩;rw[aF rfl]; simp only[aO];exact⟨_,rfl,fun _=>⟨ad,_,c,hv,by omega,Nat.le_refl _,hlc,by rw[JC,hkk]⟩⟩
 ·rename_i kd n e2 e3 e4;obtain⟨hkk,h0,h1⟩:=h;obtain⟨ad,c,hv,hlc⟩:=row hkk;have n1:=lN rl e2; have n2:=qH rh e3; have n3:=lN rm e4;subst n1 n3;simp only[AZ,e2,e3,e4];refine⟨⟨_,rM hu hk ho (ha.trans hv) (l:=0) (h:=n.toNat) (m:=c) (by simp[Instr.sliceBounds,n2,jw h0 (show n<=(c:Int) by omega)]),?_⟩,ix⟩;rw[aF rfl]; simp only[aO];exact⟨_,rfl,fun _=>⟨ad,_,c,hv,by omega,by omega,hlc,by rw[JC,hkk]⟩⟩
 ·rename_i kd n kd' n' e2 e3 e4;obtain⟨hkk,h0,h1,h2⟩:=h;obtain⟨ad,c,hv,hlc⟩:=row hkk;have n1:=qH rl e2; have n2:=qH rh e3; have n3:=lN rm e4;subst n3;simp only[AZ,e2,e3,e4]
  refine⟨⟨_,rM hu hk ho (ha.trans hv) (l:=n.toNat) (h:=n'.toNat) (m:=c) (by
   simp[Instr.sliceBounds,n1,n2,jw (show 0<=n' by omega) (show n'<=(c:Int) by omega),jw h0 (show n<=(n'.toNat:Int) by omega)]),?_⟩,ix⟩
  rw[aF rfl]; simp only[aO];exact⟨_,rfl,fun _=>⟨ad,_,c,hv,by omega,by omega,hlc,by rw[JC,hkk]⟩⟩
 ·exact h.elim
theorem ahS(R:Rel F M E s a){ty:Nat}{x:Operand}{lo hi:Option Operand}{x':X}{lo' hi':Option X}(hx:bC x=some x')(hlo:yA lo=some lo')(hhi:yA hi=some hi'){o:Oper}
  (ho:o.op= .slice ty x lo hi none) (hu:P.underlying ty=some .string) (h:qc s (.ss x' lo' hi')):vZ P E a o (qt s (.ss x' lo' hi')):=by
 have rx:=dI R hx;have rl:=rJ R hlo; have rh:=rJ R hhi;simp only[qc] at h;have lN: ∀ {x:Option Operand} {x':Option X},((x=none/\x'=none)\/ ∃ y y',x=some y/\x'=some y'/\jQ E (s.ev y') (a.eval y))->x'.map s.ev=none->x=none:=by
  intro x x' h h';rcases h with ⟨h,_⟩|⟨y,y',_,rfl,_⟩
  ·exact h
  ·simp at h'
 have qH: ∀ {x:Option Operand} {x':Option X} {kd n},((x=none/\x'=none)\/ ∃ y y',x=some y/\x'=some y'/\jQ E (s.ev y') (a.eval y))->x'.map s.ev=some (.lit (.int kd n))->x.map a.eval=some (.int kd n):=by
  intro x x' kd n h h';rcases h with ⟨_,rfl⟩|⟨y,y',rfl,rfl,h⟩
  ·simp at h'
  ·simp only[Option.map_some,Option.some.injEq] at h' ⊢; rw[h',aQ] at h; exact h
 have run: ∀ {b:ByteArray} {l h m:Nat},a.eval x= .string b->(Instr.sliceBounds false b.size b.size (lo.map a.eval) (hi.map a.eval) none).run P E.w= .ok (l,h,m) E.w ->
   (execOp a.eval o).run P E.w= .ok (.value (.string (b.extract l h))) E.w:=by
  intro b l h m ha hb;simp only[execOp,ho,ha,Instr.sliceAt,Instr.slice,underlying,Sem.run_bind,run_program,Result.andThen_ok,hu,Sem.run_pure,Option.map_none,Option.isSome_none,Bool.false_eq_true,if_false,hb]
 split at h
 ·rename_i b e1 e2 e3;rw[e1,aQ] at rx;have n1:=lN rl e2; have n2:=lN rh e3;subst n1 n2;exact⟨_,run (l:=0) (h:=b.size) (m:=b.size) rx (by simp[Instr.sliceBounds]),by simp only[qt,e1,e2,e3,aQ]⟩
 ·rename_i b kd n e1 e2 e3;rw[e1,aQ] at rx;have n1:=qH rl e2; have n2:=lN rh e3;subst n2;exact⟨_,run (l:=n.toNat) (h:=b.size) (m:=b.size) rx (by simp[Instr.sliceBounds,n1,jw h.1 h.2]),by simp only[qt,e1,e2,e3,aQ]⟩
 ·rename_i b kd n e1 e2 e3;rw[e1,aQ] at rx;have n1:=lN rl e2; have n2:=qH rh e3;subst n1;exact⟨_,run (l:=0) (h:=n.toNat) (m:=b.size) rx (by simp[Instr.sliceBounds,n2,jw h.1 h.2]),by simp only[qt,e1,e2,e3,aQ]⟩
 ·rename_i b kd n kd' n' e1 e2 e3;rw[e1,aQ] at rx;have n1:=qH rl e2; have n2:=qH rh e3;obtain⟨h0,h1,h2⟩:=h
  exact⟨_,run (l:=n.toNat) (h:=n'.toNat) (m:=b.size) rx (by
   simp[Instr.sliceBounds,n1,n2,jw (show 0<=n' by omega) h2,jw h0 (show n<=(n'.toNat:Int) by omega)]),by simp only[qt,e1,e2,e3,aQ]⟩
 ·exact h.elim
end ops
end Go.Ab
