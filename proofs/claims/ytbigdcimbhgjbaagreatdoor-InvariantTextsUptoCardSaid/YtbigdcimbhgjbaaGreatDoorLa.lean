/-
 The abstract layer, part 1: abstract values, an intermediate code, its abstract weakest precondition, and the translation into it.
 No condition; definitions alone.
-/
import Derived.Orders
import Derived.Tactics
import Derived.Laws.AppendOwn
import Derived.Below
import Derived.Lib.LaidTab
import Derived.Lib.Space
import Derived.RangeFuncSeq
import Derived.Laws.CopyRow
import Derived.Laws.StructEq
namespace Go.Ab
inductive T where
 |lit (v:Value)
 |agg (l:List T)
 |sl (k:Nat) (full:Bool) (l:List T)
 |ref (k:Nat) (t:T)
 |own (i:Nat)
 |ptr (i j off:Nat)
 |ru (i lo hi:Nat)
 |fn (f:FuncId) (cap:List T)
 |fH (l:List T)
 |any
 deriving Inhabited
@[reducible] def T.int(n:Int):T:=.lit (.int .i64 n)
@[reducible] def T.bool(b:Bool):T:=.lit (.bool b)
@[reducible] def T.nil:T:=.sl 0 true []
@[reducible] def T.un:T:=.lit (.tuple #[])
def T.cells:T->List T
 | .agg l=>l
 |t=>[t]
def T.kd:T->Nat
 | .agg l=>l.length+1
 |_=>0
def bC:Nat->Nat
 |0=>1
 |m+1=>m
structure Ob where
 ty:TypeId
 k:Nat
 l:List T
abbrev Hp:=Nat->Option Ob
def upd(h:Hp)(i:Nat)(o:Option Ob):Hp:=fun j=>if j=i then o else h j
structure AS where
 fr:List T
 hp:Hp
 nx:Nat
 pin:Nat
inductive X where
 |t (n:Nat)
 |c (v:T)
 deriving Inhabited
def AS.put(s:AS)(d:Option Tmp)(t:T):AS :=
 match d with
 |some i=> {s with fr:=s.fr.set i t}
 |none=>s
def AS.ev(s:AS):X->T
 | .t n=>s.fr.getD n T.un
 | .c v=>v
inductive mO where
 |mv (x:X)
 |pick (c a b:X)
 |bin (op:BinOp) (x y:X)
 |bb (ne:Bool) (x y:X)
 |not (x:X)
 |conv (k:IntKind) (x:X)
 |fa (off k:Nat) (x:X)
 |fv (off k:Nat) (x:X)
 |ia (k:Nat) (x i:X)
 |ch (x i:X)
 |ld (k:Nat) (x:X)
 |nc (x:X)
 |len (str:Bool) (x:X)
 |mx (x y:X)
 |mn (x y:X)
 |mk (z:List T) (ps:List (Nat×Nat×X))
 |ms (ty k:Nat) (z:T) (n:Nat) (ps:List (Nat×X))
 |sl (k:Nat) (x:X) (lo hi mx:Option X)
 |ss (x:X) (lo hi:Option X)
 |ex (x:X) (i:Nat)
 |mf (f:FuncId) (cap:List X)
 |box (ty k:Nat) (x:X)
 |al (ty k:Nat) (z:T)
 |make (ty k bytes:Nat) (z:T) (n c:X)
 |st (k:Nat) (x v:X)
 |app (ty k bytes:Nat) (x y:X)
 |call (f:FuncId) (xs:List X)
 |jD (x:X) (xs:List X)
 |y9 (x:X)
 |eqs (ne:Bool) (n:Nat) (x y:X)
 |Um (ty:TypeId)
 |Za (z:T) (x i:X)
 |NQ (x i v:X)
 |Pm (k:Nat) (x:X) (lo hi mx:Option X)
 |Le (x:X)
 |Qk (k:Nat) (z:T) (x:X)
 |FI (ty k:Nat) (z:T) (n:Nat) (ps:List (Nat×X))
 |mb (f:FuncId) (x:X)
 |sa (n:Nat) (x:X)
 |bot
 deriving Inhabited
structure aN where
 d:Option Nat
 op:mO
 g:Option (Nat×Bool)
 fl:Bool:=false
 ne:List Nat:=[]
 ad:Bool:=false
 ar:Bool:=false
 deriving Inhabited
inductive fO where
 |skip
 |reg (draw:Bool) (ops:List aN)
 |seq (a b:fO)
 |cond (c:X) (a b:fO)
 |blk (id:Nat) (b:fO)
 |exit (id:Nat)
 |loop (b:fO)
 |ret
 deriving Inhabited
def T.part(x:T)(off:Nat):Nat->T
 |0=>x.cells.getD off .any
 |m+1=>.agg ((x.cells.drop off).take m)
def mZ(n off k:Nat):Bool:=Nat.ble (off+bC k) n
def YC:IntKind->IntKind->Bool
 | .i8,.i8=>true| .i16,.i16=>true| .i32,.i32=>true| .i64,.i64=>true
 | .u8,.u8=>true| .u16,.u16=>true| .u32,.u32=>true| .u64,.u64=>true
 |_,_=>false
def WX(f:FuncId)(cs:Array Value):Value:=bif Nat.blt f 4096 then .func (.func f) #[] cs else .func (.func (f % 4096)) #[.agg cs] #[]
def aa6(k:IntKind)(a b:Int):Int:=k.wrap ((BitVec.ofInt k.bits a &&& BitVec.ofInt k.bits b).toNat)
def Ar(op:BinOp):Value->Value->Option Value
 | .int k a,.int k' b =>
  match YC k k',op with
  |_,.shr=>bif decide (0<=b) then some (.int k (a.fdiv (2 ^ (min b.toNat k.bits)))) else none
  |true,.add=>some (.int k (k.wrap (a+b)))
  |true,.sub=>some (.int k (k.wrap (a-b)))
  |true,.mul=>some (.int k (k.wrap (a*b)))
  |true,.and=>some (.int k (aa6 k a b))
  |true,.eql=>some (.bool (a==b))
  |true,.neq=>some (.bool (a !=b))
  |true,.lss=>some (.bool (decide (a<b)))
  |true,.leq=>some (.bool (decide (a<=b)))
  |true,.gtr=>some (.bool (decide (b<a)))
  |true,.geq=>some (.bool (decide (b<=a)))
  |true,.rem=>bif decide (b=0) then none else some (.int k (a.tmod b))
  |_,_=>none
 | .string a,.string b =>
  match op with
  | .eql=>some (.bool (a.toList==b.toList))
  | .neq=>some (.bool (!(a.toList==b.toList)))
  | .add=>bif decide (((a.size+b.size:Nat):Int)<=9223372036854775807) then some (.string (a++b)) else none
  |_=>none
 |_,_=>none
def zf(c a b:T):T :=
 match c with
 | .lit (.bool t) =>
  match a,b with
  | .lit (.bool x),.lit (.bool y)=>.lit (.bool (bif t then x else y))
  |a,b=>bif t then a else b
 |_=>.any
def isBool:T->Bool
 | .lit (.bool _)=>true
 |_=>false
def WY(n:Int)(l:Nat):Prop:=0<=n/\n<l
def oh(z:List T):List (Nat×Nat×T)->List T
 |[]=>z
 |(off,n,t)::r=>oh (z.take off++t.cells++z.drop (off+n)) r
def En(z:List T):List (Nat×Nat×T)->Bool
 |[]=>true
 |(off,n,t)::r=>(t.cells.length==n)&&(Nat.ble (off+n) z.length)&&En (z.take off++t.cells++z.drop (off+n)) r
def qg(z:List T):List (Nat×T)->List T
 |[]=>z
 |(i,t)::r=>qg (z.set i t) r
def Hr(k n:Nat):List (Nat×T)->Bool
 |[]=>true
 |(i,t)::r=>(t.kd==k)&&Nat.blt i n&&Hr k n r
def T.xg(h:Hp):T->Bool
 | .lit v=>v.oneCell'
 | .own i=>(h i).isSome
 | .ptr i _ _=>(h i).isSome
 | .ru i _ _=>(h i).isSome
 | .sl _ _ _=>true
 | .ref _ _=>true
 | .fn _ _=>true
 |_=>false
def T.jS(h:Hp):T->Bool
 | .agg _=>true
 |t=>t.xg h
def uS(h:Hp):List T->Bool
 |[]=>true
 |t::ts=>t.jS h&&uS h ts
def x8(h:Hp):List T->Bool
 |[]=>true
 |t::ts=>t.xg h&&x8 h ts
mutual
def T.free:T->Bool
 | .own _=>false
 | .ptr _ _ _=>false
 | .ru _ _ _=>false
 | .agg l=>T.bZ l
 | .fn _ cap=>T.bZ cap
 | .fH l=>T.bZ l
 |_=>true
def T.bZ:List T->Bool
 |[]=>true
 |t::ts=>T.free t&&T.bZ ts
end
def oM:List T->Bool
 |[]=>true
 | .lit (.int .i64 _)::r=>oM r
 |_=>false
def rG:List T->List T->Bool
 |[],[]=>true
 | .lit (.int _ a)::r,.lit (.int _ b)::r'=>(a==b)&&rG r r'
 |_,_=>false
def vU(n:Int):List T->Option T
 |[]=>none
 | .fH [.lit (.int _ m),u]::r=>bif n==m then some u else vU n r
 |_::r=>vU n r
def zh(n:Int)(v:T):List T->List T
 |[]=>[.fH [.int n,v]]
 | .fH [.lit (.int k m),u]::r=>bif n==m then .fH [.int n,v]::r else .fH [.lit (.int k m),u]::zh n v r
 |t::r=>t::zh n v r
def yE(i:Nat)(ob:Ob):Option T->Option T->Option T->T
 |some (.lit (.int _ a)),none,none=>.ru i a.toNat ob.l.length
 |none,some (.lit (.int _ b)),none=>.ru i 0 b.toNat
 |some (.lit (.int _ a)),some (.lit (.int _ b)),none=>.ru i a.toNat b.toNat
 |_,_,_=>.any
def C9(k:Nat)(ob:Ob):Option T->Option T->Option T->Prop
 |some (.lit (.int _ a)),none,none=>ob.k=k/\0<=a/\a<=ob.l.length
 |none,some (.lit (.int _ b)),none=>ob.k=k/\0<=b/\b<=ob.l.length
 |some (.lit (.int _ a)),some (.lit (.int _ b)),none=>ob.k=k/\0<=a/\a<=b/\b<=ob.l.length
 |_,_,_=>False
def NR(k:Nat)(x:T)(lo hi mx:Option T):T :=
 match x,lo,hi,mx with
 | .sl _ f l,none,none,none=>.sl k f l
 | .sl _ f l,some (.lit (.int _ a)),none,none=>.sl k f (l.drop a.toNat)
 | .sl _ f l,none,some (.lit (.int _ b)),none=>.sl k (f&&decide (b=l.length)) (l.take b.toNat)
 | .sl _ _ l,some (.lit (.int _ a)),some (.lit (.int _ b)),none=>.sl k false ((l.take b.toNat).drop a.toNat)
 | .sl _ _ l,none,some (.lit (.int _ b)),some (.lit (.int _ m))=>.sl k (decide (b=m)) (l.take b.toNat)
 |_,_,_,_=>.any
def YD(k:Nat)(x:T)(lo hi mx:Option T):Prop :=
 match x,lo,hi,mx with
 | .sl k' _ l,none,none,none=>k'=k\/l=[]
 | .sl k' _ l,some (.lit (.int _ a)),none,none=>(k'=k\/l=[])/\0<=a/\a<=l.length
 | .sl k' _ l,none,some (.lit (.int _ b)),none=>(k'=k\/l=[])/\0<=b/\b<=l.length
 | .sl k' _ l,some (.lit (.int _ a)),some (.lit (.int _ b)),none=>(k'=k\/l=[])/\0<=a/\a<=b/\b<=l.length
 | .sl k' _ l,none,some (.lit (.int _ b)),some (.lit (.int _ m))=>(k'=k\/l=[])/\0<=b/\b<=m/\m<=l.length
 |_,_,_,_=>False
def qt(s:AS):mO->T
 | .mv x=>s.ev x
 | .pick c a b=>zf (s.ev c) (s.ev a) (s.ev b)
 | .bin op x y =>
  match s.ev x,s.ev y with
  | .lit u,.lit v=>match Ar op u v with|some r=>.lit r|none=>.any
  |_,_=>.any
 | .bb ne x y =>
  match s.ev x,s.ev y with
  | .lit (.bool a),.lit (.bool b)=>.lit (.bool (bif ne then !(a==b) else a==b))
  |_,_=>.any
 | .not x=>match s.ev x with| .lit (.bool b)=>.lit (.bool !b)|_=>.any
 | .conv k x=>match s.ev x with| .lit (.int _ n)=>.lit (.int k (k.wrap n))|_=>.any
 | .fa off k x =>
  match s.ev x with
  | .ptr i j o=>.ptr i j (o+off)
  | .ref _ t=>.ref k (t.part off k)
  |_=>.any
 | .fv off k x=>(s.ev x).part off k
 | .ia k x i =>
  match s.ev x,s.ev i with
  | .sl _ _ l,.lit (.int _ n)=>.ref k (l.getD n.toNat .any)
  | .own o,.lit (.int _ n)=>.ptr o n.toNat 0
  | .ru o lo _,.lit (.int _ n)=>.ptr o (lo+n.toNat) 0
  |_,_=>.any
 | .ch x i =>
  match s.ev x,s.ev i with
  | .lit (.string b),.lit (.int _ n)=>.lit (.int .u8 (b.data.getD n.toNat 0).toNat)
  |_,_=>.any
 | .ld k x =>
  match s.ev x with
  | .ref _ t=>t
  | .ptr i j off =>
   match s.hp i with
   |some ob=>bif (off==0&&ob.k==k) then ob.l.getD j .any else(ob.l.getD j .any).part off k
   |none=>.any
  |_=>.any
 | .nc x=>s.ev x
 | .len _ x =>
  match s.ev x with
  | .sl _ _ l=>.lit (.int .i64 l.length)
  | .own o=>match s.hp o with|some ob=>.lit (.int .i64 ob.l.length)|none=>.any
  | .ru _ lo hi=>.lit (.int .i64 ((hi-lo:Nat):Int))
  | .lit (.string b)=>.lit (.int .i64 b.size)
  |_=>.any
 | .mx x y =>
  match s.ev x,s.ev y with
  | .lit (.int k a),.lit (.int _ b)=>.lit (.int k (if a<b then b else a))
  |_,_=>.any
 | .mn x y =>
  match s.ev x,s.ev y with
  | .lit (.int k a),.lit (.int _ b)=>.lit (.int k (if b<a then b else a))
  |_,_=>.any
 | .mk z ps=>.agg (oh z (ps.map fun p=>(p.1,p.2.1,s.ev p.2.2)))
 | .ms _ k z n ps=>.sl k true (qg (List.replicate n z) (ps.map fun p=>(p.1,s.ev p.2)))
 | .sl k x lo hi mx=>NR k (s.ev x) (lo.map s.ev) (hi.map s.ev) (mx.map s.ev)
 | .Pm k x lo hi mx =>
  match s.ev x with
  | .own i=>match s.hp i with|some ob=>yE i ob (lo.map s.ev) (hi.map s.ev) (mx.map s.ev)|none=>.any
  |t=>NR k t (lo.map s.ev) (hi.map s.ev) (mx.map s.ev)
 | .sa _ x=>match s.ev x with| .ref _ (.agg l)=>.sl 0 true l|_=>.any
 | .Le x=>match s.ev x with| .sl _ true l=>.lit (.int .i64 l.length)|_=>.any
 | .ss x lo hi =>
  match s.ev x,lo.map s.ev,hi.map s.ev with
  | .lit (.string b),none,none=>.lit (.string (b.extract 0 b.size))
  | .lit (.string b),some (.lit (.int _ i)),none=>.lit (.string (b.extract i.toNat b.size))
  | .lit (.string b),none,some (.lit (.int _ j))=>.lit (.string (b.extract 0 j.toNat))
  | .lit (.string b),some (.lit (.int _ i)),some (.lit (.int _ j))=>.lit (.string (b.extract i.toNat j.toNat))
  |_,_,_=>.any
 | .ex x i=>match s.ev x with| .fH l=>l.getD i .any|_=>.any
 | .mf f cap=>.fn f (cap.map s.ev)
 | .mb f x=>match s.ev x with| .agg l=>.fn (f+4096) l|_=>.any
 | .eqs ne _ x y =>
  match s.ev x,s.ev y with
  | .agg l,.agg l'=>.lit (.bool (bif ne then !(rG l l') else rG l l'))
  |_,_=>.any
 | .Za z x i =>
  match s.ev x,s.ev i with
  | .own o,.lit (.int _ n) =>
   match s.hp o with
   |some ob=>match vU n ob.l with|some u=>.fH [u,.lit (.bool true)]|none=>.fH [z,.lit (.bool false)]
   |none=>.any
  |_,_=>.any
 |_=>.any
def qc(s:AS):mO->Prop
 | .mv _=>True
 | .pick c _ _=>isBool (s.ev c)=true
 | .bin op x y =>
  match s.ev x,s.ev y with
  | .lit u,.lit v=>(Ar op u v).isSome=true
  |_,_=>False
 | .bb _ x y=>(isBool (s.ev x)&&isBool (s.ev y))=true
 | .not x=>isBool (s.ev x)=true
 | .conv _ x=>match s.ev x with| .lit (.int _ _)=>True|_=>False
 | .fa off k x =>
  match s.ev x with
  | .ptr i _ _=>(s.hp i).isSome=true
  | .ref kt _=>(!(kt==0)&&mZ (bC kt) off k)=true
  |_=>False
 | .fv off k x=>(!((s.ev x).kd==0)&&mZ (bC (s.ev x).kd) off k)=true
 | .ia k x i =>
  match s.ev x,s.ev i with
  | .sl k' _ l,.lit (.int _ n)=>k'=k/\WY n l.length
  | .own o,.lit (.int _ n)=>match s.hp o with|some ob=>ob.k=k/\WY n ob.l.length|none=>False
  | .ru o lo hi,.lit (.int _ n)=>match s.hp o with|some ob=>ob.k=k/\WY n (hi-lo)|none=>False
  |_,_=>False
 | .ch x i =>
  match s.ev x,s.ev i with
  | .lit (.string b),.lit (.int _ n)=>WY n b.size
  |_,_=>False
 | .ld k x =>
  match s.ev x with
  | .ref k' _=>(k'==k&&Nat.blt 0 (bC k))=true
  | .ptr i j off =>
   match s.hp i with
   |some ob=>j<ob.l.length/\((off==0&&ob.k==k)||(!(ob.k==0)&&mZ (bC ob.k) off k))=true
   |none=>False
  |_=>False
 | .nc x=>match s.ev x with| .ptr i _ _=>(s.hp i).isSome=true| .ref _ _=>True| .fn _ _=>True|_=>False
 | .len str x =>
  match s.ev x with
  | .sl _ _ _=>str=false
  | .own o=>match s.hp o with|some ob=>str=false/\ob.k≠1000000007|none=>False
  | .ru i _ _=>str=false/\(s.hp i).isSome=true
  | .lit (.string _)=>str=true
  |_=>False
 | .mx x y =>
  match s.ev x,s.ev y with
  | .lit (.int _ _),.lit (.int _ _)=>True
  |_,_=>False
 | .mn x y =>
  match s.ev x,s.ev y with
  | .lit (.int _ _),.lit (.int _ _)=>True
  |_,_=>False
 | .mk z ps=>(En z (ps.map fun p=>(p.1,p.2.1,s.ev p.2.2))&&uS s.hp (ps.map fun p=>s.ev p.2.2))=true
 | .ms _ k z n ps=>((z.kd==k)&&z.free&&Hr k n (ps.map fun p=>(p.1,s.ev p.2))&&uS s.hp (ps.map fun p=>s.ev p.2)&&T.bZ (ps.map fun p=>s.ev p.2)&&Nat.ble (n*bC k) 16777216&&Nat.blt 0 (bC k))=true
 | .sl k x lo hi mx=>YD k (s.ev x) (lo.map s.ev) (hi.map s.ev) (mx.map s.ev)
 | .Pm k x lo hi mx =>
  match s.ev x with
  | .own i=>match s.hp i with|some ob=>C9 k ob (lo.map s.ev) (hi.map s.ev) (mx.map s.ev)|none=>False
  |t=>YD k t (lo.map s.ev) (hi.map s.ev) (mx.map s.ev)
 | .sa n x=>match s.ev x with| .ref k (.agg l)=>(Nat.beq k (n+1)&&Nat.beq l.length n&&Nat.blt 0 n)=true|_=>False
 | .Le x=>match s.ev x with| .sl _ true _=>True|_=>False
 | .ss x lo hi =>
  match s.ev x,lo.map s.ev,hi.map s.ev with
  | .lit (.string _),none,none=>True
  | .lit (.string b),some (.lit (.int _ i)),none=>0<=i/\i<=b.size
  | .lit (.string b),none,some (.lit (.int _ j))=>0<=j/\j<=b.size
  | .lit (.string b),some (.lit (.int _ i)),some (.lit (.int _ j))=>0<=i/\i<=j/\j<=b.size
  |_,_,_=>False
 | .ex x i=>match s.ev x with| .fH l=>Nat.blt i l.length=true|_=>False
 | .mf f cap=>(x8 s.hp (cap.map s.ev)&&Nat.blt f 4096)=true
 | .mb f x=>match s.ev x with| .agg _=>f<4096|_=>False
 | .eqs _ n x y =>
  match s.ev x,s.ev y with
  | .agg l,.agg l'=>(oM l&&oM l'&&(l.length==n)&&(l'.length==n))=true
  |_,_=>False
 | .Za _ x i =>
  match s.ev x,s.ev i with
  | .own o,.lit (.int .i64 _)=>match s.hp o with|some ob=>ob.k=1000000007|none=>False
  |_,_=>False
 |_=>False
def bH:mO->Bool
 | .box .. =>false
 | .al .. =>false
 | .make .. =>false
 | .st .. =>false
 | .app .. =>false
 | .call .. =>false
 | .jD .. =>false
 | .y9 .. =>false
 | .Um .. =>false
 | .NQ .. =>false
 | .Qk .. =>false
 | .FI .. =>false
 | .bot=>false
 |_=>true
inductive oZ where
 |normal
 |exit (id:Nat)
 |ret
structure Yd where
 l:Nat
 r:Loop
 k:Nat
structure Env where
 w:World
 S:Nat->Prop
 φ:Nat->Value
 κ:Nat->Nat
 h:Hp
 y:Option Yd
mutual
def T.ids(M:Nat->Prop):T->Prop
 | .lit _=>True
 | .agg l=>T.aO M l
 | .sl _ _ _=>True
 | .ref _ _=>True
 | .own i=>M i
 | .ptr i _ _=>M i
 | .ru i _ _=>M i
 | .fn _ cap=>T.aO M cap
 | .fH l=>T.aO M l
 | .any=>True
def T.aO(M:Nat->Prop):List T->Prop
 |[]=>True
 |t::ts=>T.ids M t/\T.aO M ts
end
mutual
def aJ(E:Env):T->List Value->Prop
 | .lit v,vs=>vs=[v]
 | .agg l,vs=>aW E l vs
 | .sl k full l,vs=> ∃ a c,vs=[.slice a l.length c]/\l.length<=c/\(full=true->c=l.length) /\
   (l=[]\/ ∃ b off cur e m,a=some ⟨b,off,none⟩/\E.S b/\E.w.heap[b]? =some (.cells cur e m)/\T.aO (fun _=>False) l/\aC E k l (cur.toList.drop off))
 | .ref k t,vs=> ∃ b off cur e m,vs=[.pointer (some ⟨b,off,none⟩)]/\E.S b/\E.w.heap[b]? =some (.cells cur e m)/\t.kd=k/\t.ids (fun _=>False) /\
   bC k<=(cur.toList.drop off).length/\aJ E t ((cur.toList.drop off).take (bC k))
 | .own i,vs=> ∃ u,vs=[u]/\((E.h i).isSome=true->u=E.φ i)
 | .ptr i j off,vs=> ∃ u,vs=[u]/\((E.h i).isSome=true-> ∃ b n c,E.φ i= .slice (some ⟨b,0,none⟩) n c/\u= .pointer (some ⟨b,j*bC (E.κ i)+off,none⟩))
 | .ru i lo hi,vs=> ∃ u,vs=[u]/\((E.h i).isSome=true-> ∃ ad n c,E.φ i= .slice ad n c/\lo<=hi/\hi<=n/\n<=c/\u= .slice (if c=lo then ad else ad.map (·.add (lo*bC (E.κ i)))) (hi-lo) (c-lo))
 | .fn f cap,vs=>(Nat.blt f 8192=true/\ ∃ cs:Array Value,vs=[WX f cs]/\aW E cap cs.toList)\/(Nat.blt f 8192=false/\ ∃ p:Yd,E.y=some p/\p.k+8192=f/\vs=[.func (.yield p.l) #[] #[]]/\bD E cap p.r.tmps.toList)
 | .fH l,vs=> ∃ cs:Array Value,vs=[.tuple cs]/\bD E l cs.toList
 | .any,_=>True
def aW(E:Env):List T->List Value->Prop
 |[],vs=>vs=[]
 |t::ts,vs=>t.kd=0/\ ∃ v r,vs=v::r/\v.oneCell'=true/\aJ E t [v]/\aW E ts r
def bD(E:Env):List T->List Value->Prop
 |[],vs=>vs=[]
 |t::ts,vs=> ∃ v r,vs=v::r/\((t.kd≠0/\ ∃ cs:Array Value,v= .agg cs/\aJ E t cs.toList)\/(t.kd=0/\aJ E t [v]))/\bD E ts r
def aC(E:Env)(k:Nat):List T->List Value->Prop
 |[],_=>True
 |t::ts,vs=>t.kd=k/\bC k<=vs.length/\(∀ v∈vs.take (bC k),v.oneCell'=true)/\aJ E t (vs.take (bC k))/\aC E k ts (vs.drop (bC k))
end
def je(E:Env)(t:T)(v:Value):Prop :=
 (t.kd≠0/\ ∃ cs:Array Value,v= .agg cs/\aJ E t cs.toList)\/(t.kd=0/\aJ E t [v])
theorem bK{E:Env}{t:T}{ts:List T}{vs:List Value}:bD E (t::ts) vs↔ ∃ v r,vs=v::r/\je E t v/\bD E ts r:=by
 simp only[bD,je]
section mono
variable {E E':Env}
structure Keeps(E E':Env)(M:Nat->Prop):Prop where
 s: ∀ b,E.S b->E'.S b
 w: ∀ b,E.S b->E'.w.heap[b]? =E.w.heap[b]?
 i: ∀ i,M i->(E'.h i).isSome=true->(E.h i).isSome=true/\E'.φ i=E.φ i/\E'.κ i=E.κ i
 y:E'.y=E.y
theorem Keeps.no{M:Nat->Prop}(h:Keeps E E' M):Keeps E E' (fun _=>False):=⟨h.s,h.w,fun _ hf=>hf.elim,h.y⟩
mutual
theorem fV:(t:T)->(M:Nat->Prop)->Keeps E E' M->t.ids M->(vs:List Value)->aJ E t vs->aJ E' t vs
 | .lit v,_,_,_,vs,h=>by simpa [aJ] using h
 | .agg l,M,hK,hm,vs,h=>by
  simp only[aJ] at h ⊢
  exact x9 l M hK (by simpa [T.ids] using hm) vs h
 | .sl k full l,M,hK,hm,vs,h=>by
  simp only[aJ] at h ⊢
  obtain⟨a,c,h1,h2,h3,h4⟩:=h
  refine⟨a,c,h1,h2,h3,?_⟩
  rcases h4 with h4|⟨b,off,cur,e,m,ha,hb,hh,hf,hr⟩
  ·exact .inl h4
  ·exact .inr ⟨b,off,cur,e,m,ha,hK.s b hb,by rw[hK.w b hb]; exact hh,hf,dA l k _ hK.no hf _ hr⟩
 | .ref k t,M,hK,hm,vs,h=>by
  simp only[aJ] at h ⊢
  obtain⟨b,off,cur,e,m,h1,hb,hh,hk,hf,hl,hr⟩:=h
  exact⟨b,off,cur,e,m,h1,hK.s b hb,by rw[hK.w b hb]; exact hh,hk,hf,hl,fV t _ hK.no hf _ hr⟩
 | .own i,M,hK,hm,vs,h=>by
  simp only[aJ] at h ⊢
  simp only[T.ids] at hm
  obtain⟨u,h1,h2⟩:=h
  refine⟨u,h1,fun hd=>?_⟩
  obtain⟨g1,g2,g3⟩:=hK.i i hm hd
  rw[g2]; exact h2 g1
 | .ptr i j off,M,hK,hm,vs,h=>by
  simp only[aJ] at h ⊢
  simp only[T.ids] at hm
  obtain⟨u,h1,h2⟩:=h
  refine⟨u,h1,fun hd=>?_⟩
  obtain⟨g1,g2,g3⟩:=hK.i i hm hd
  rw[g2,g3]; exact h2 g1
 | .ru i lo hi,M,hK,hm,vs,h=>by
  simp only[aJ] at h ⊢
  simp only[T.ids] at hm
  obtain⟨u,h1,h2⟩:=h
  refine⟨u,h1,fun hd=>?_⟩
  obtain⟨g1,g2,g3⟩:=hK.i i hm hd
  rw[g2,g3]; exact h2 g1
 | .fn f cap,M,hK,hm,vs,h=>by
  simp only[aJ] at h ⊢
  rcases h with ⟨h0,cs,h1,h2⟩|⟨h0,p,hp,hf,h1,h2⟩
  ·exact .inl ⟨h0,cs,h1,x9 cap M hK (by simpa [T.ids] using hm) _ h2⟩
  ·exact .inr ⟨h0,p,hK.y.trans hp,hf,h1,iq cap M hK (by simpa [T.ids] using hm) _ h2⟩
 | .fH l,M,hK,hm,vs,h=>by
  simp only[aJ] at h ⊢
  obtain⟨cs,h1,h2⟩:=h
  exact⟨cs,h1,iq l M hK (by simpa [T.ids] using hm) _ h2⟩
 | .any,_,_,_,vs,h=>by simp[aJ]
theorem x9:(l:List T)->(M:Nat->Prop)->Keeps E E' M->T.aO M l->(vs:List Value)->aW E l vs->aW E' l vs
 |[],_,_,_,vs,h=>by simpa [aW] using h
 |t::ts,M,hK,hm,vs,h=>by
  simp only[aW] at h ⊢
  simp only[T.aO] at hm
  obtain⟨hk,v,r,h1,h0,h2,h3⟩:=h
  exact⟨hk,v,r,h1,h0,fV t M hK hm.1 _ h2,x9 ts M hK hm.2 _ h3⟩
theorem iq:(l:List T)->(M:Nat->Prop)->Keeps E E' M->T.aO M l->(vs:List Value)->bD E l vs->bD E' l vs
 |[],_,_,_,vs,h=>by simpa [bD] using h
 |t::ts,M,hK,hm,vs,h=>by
  simp only[bD] at h ⊢
  simp only[T.aO] at hm
  obtain⟨v,r,h1,h2,h3⟩:=h
  refine⟨v,r,h1,?_,iq ts M hK hm.2 _ h3⟩
  rcases h2 with ⟨hk,cs,h4,h5⟩|⟨hk,h4⟩
  ·exact .inl ⟨hk,cs,h4,fV t M hK hm.1 _ h5⟩
  ·exact .inr ⟨hk,fV t M hK hm.1 _ h4⟩
theorem dA:(l:List T)->(k:Nat)->(M:Nat->Prop)->Keeps E E' M->T.aO M l->(vs:List Value)->aC E k l vs->aC E' k l vs
 |[],_,_,_,_,vs,h=>by simp[aC]
 |t::ts,k,M,hK,hm,vs,h=>by
  simp only[aC] at h ⊢
  simp only[T.aO] at hm
  obtain⟨hk,h1,h0,h2,h3⟩:=h
  exact⟨hk,h1,h0,fV t M hK hm.1 _ h2,dA ts k M hK hm.2 _ h3⟩
end
theorem Eo{M:Nat->Prop}(hK:Keeps E E' M){t:T}(hm:t.ids M){v:Value}(h:je E t v):je E' t v:=by
 rcases h with ⟨hk,cs,h4,h5⟩|⟨hk,h4⟩
 ·exact .inl ⟨hk,cs,h4,fV t M hK hm _ h5⟩
 ·exact .inr ⟨hk,fV t M hK hm _ h4⟩
end mono
section ids
variable {M M':Nat->Prop}
mutual
theorem T.bG(h: ∀ i,M i->M' i):(t:T)->t.ids M->t.ids M'
 | .lit _,_=>by simp[T.ids]
 | .agg l,hm=>by simp only[T.ids] at hm ⊢; exact T.ay h l hm
 | .sl _ _ _,_=>by simp[T.ids]
 | .ref _ _,_=>by simp[T.ids]
 | .own i,hm=>by simp only[T.ids] at hm ⊢; exact h i hm
 | .ptr i _ _,hm=>by simp only[T.ids] at hm ⊢; exact h i hm
 | .ru i _ _,hm=>by simp only[T.ids] at hm ⊢; exact h i hm
 | .fn _ cap,hm=>by simp only[T.ids] at hm ⊢; exact T.ay h cap hm
 | .fH l,hm=>by simp only[T.ids] at hm ⊢; exact T.ay h l hm
 | .any,_=>by simp[T.ids]
theorem T.ay(h: ∀ i,M i->M' i):(l:List T)->T.aO M l->T.aO M' l
 |[],_=>by simp[T.aO]
 |t::ts,hm=>by simp only[T.aO] at hm ⊢; exact⟨T.bG h t hm.1,T.ay h ts hm.2⟩
end
theorem bQ{l:List T}:T.aO M l↔ ∀ t∈l,t.ids M:=by
 induction l with
 |nil=>simp[T.aO]
 |cons t ts ih=>simp[T.aO,ih]
theorem uf{l:List T}(h:T.aO M l){i:Nat}{d:T}(hd:d.ids M):(l.getD i d).ids M:=by
 rw[List.getD_eq_getElem?_getD]
 cases hg:l[i]? with
 |none=>simpa using hd
 |some t=>simpa using bQ.1 h t (List.mem_of_getElem? hg)
theorem uT{l:List T}(h:T.aO M l){i:Nat}{t:T}(ht:t.ids M):T.aO M (l.set i t) :=
 bQ.2 fun x hx=>by
  rcases List.mem_or_eq_of_mem_set hx with h'|rfl
  ·exact bQ.1 h x h'
  ·exact ht
theorem eH{a b:List T}:T.aO M (a++b)↔T.aO M a/\T.aO M b:=by
 simp only[bQ,List.mem_append]
 exact⟨fun h=>⟨fun t ht=>h t (.inl ht),fun t ht=>h t (.inr ht)⟩,fun h t ht=>ht.elim (h.1 t) (h.2 t)⟩
theorem ug{l:List T}(h:T.aO M l)(n:Nat):T.aO M (l.take n):=bQ.2 fun t ht=>bQ.1 h t (List.mem_of_mem_take ht)
theorem xk{l:List T}(h:T.aO M l)(n:Nat):T.aO M (l.drop n):=bQ.2 fun t ht=>bQ.1 h t (List.mem_of_mem_drop ht)
theorem uh{t:T}(h:t.ids M):T.aO M t.cells:=by
 cases t<;>simp_all[T.cells,T.ids,T.aO]
theorem Ht{t:T}(h:t.ids M)(off k:Nat):(t.part off k).ids M:=by
 cases k with
 |zero=>exact uf (uh h) (by simp[T.ids])
 |succ m=>simp only[T.part,T.ids]; exact ug (xk (uh h) _) _
end ids
section rep
variable {E:Env}
theorem aK{v u:Value}:je E (.lit v) u↔u=v:=by
 simp[je,T.kd,aJ]
theorem aA{t:T}(h:t.kd=0){v:Value}:je E t v↔aJ E t [v]:=by
 simp[je,h]
theorem xq{l:List T}{v:Value}:je E (.agg l) v↔ ∃ cs:Array Value,v= .agg cs/\aW E l cs.toList:=by
 simp[je,T.kd,aJ]
theorem lG: ∀ {l:List T} {vs:List Value},aW E l vs->vs.length=l.length:=by
 intro l
 induction l with
 |nil=>intro vs h; simp[aW] at h; simp[h]
 |cons t ts ih =>
  intro vs h
  simp only[aW] at h
  obtain⟨_,v,r,rfl,_,_,h⟩:=h
  simp[ih h]
theorem zZ: ∀ {l:List T} {vs:List Value},aW E l vs-> ∀ v∈vs,v.oneCell'=true:=by
 intro l
 induction l with
 |nil=>intro vs h; simp[aW] at h; simp[h]
 |cons t ts ih =>
  intro vs h
  simp only[aW] at h
  obtain⟨_,v,r,rfl,h1,_,h⟩:=h
  intro u hu
  rcases List.mem_cons.1 hu with rfl|hu
  ·exact h1
  ·exact ih h u hu
theorem nJ: ∀ {l:List T} {vs:List Value},bD E l vs->vs.length=l.length:=by
 intro l
 induction l with
 |nil=>intro vs h; simp[bD] at h; simp[h]
 |cons t ts ih =>
  intro vs h
  rw[bK] at h
  obtain⟨v,r,rfl,_,h⟩:=h
  simp[ih h]
theorem uU: ∀ {l:List T} {vs:List Value},bD E l vs-> ∀ i,je E (l.getD i T.un) (vs.getD i undef):=by
 intro l
 induction l with
 |nil=>intro vs h i; simp[bD] at h; subst h; simp[aK,undef]
 |cons t ts ih =>
  intro vs h i
  rw[bK] at h
  obtain⟨v,r,rfl,h1,h2⟩:=h
  cases i with
  |zero=>simpa using h1
  |succ i=>simpa using ih h2 i
theorem Ep: ∀ {l:List T} {vs:List Value},bD E l vs-> ∀ (i:Nat) {t:T} {v:Value},je E t v->bD E (l.set i t) (vs.set i v):=by
 intro l
 induction l with
 |nil=>intro vs h i t v _; simp[bD] at h; subst h; simp[bD]
 |cons t ts ih =>
  intro vs h i t' v' hv
  rw[bK] at h
  obtain⟨v,r,rfl,h1,h2⟩:=h
  cases i with
  |zero=>simp only[List.set_cons_zero,bK]; exact⟨v',r,rfl,hv,h2⟩
  |succ i=>simp only[List.set_cons_succ,bK]; exact⟨v,_,rfl,h1,ih h2 i hv⟩
theorem Dc: ∀ {l l':List T} {vs vs':List Value},bD E l vs->bD E l' vs'->bD E (l++l') (vs++vs'):=by
 intro l
 induction l with
 |nil=>intro l' vs vs' h h'; simp[bD] at h; subst h; simpa using h'
 |cons t ts ih =>
  intro l' vs vs' h h'
  rw[bK] at h
  obtain⟨v,r,rfl,h1,h2⟩:=h
  rw[List.cons_append,List.cons_append,bK]
  exact⟨v,_,rfl,h1,ih h2 h'⟩
theorem JR: ∀ {l:List T} {vs:List Value},aW E l vs-> ∀ {i:Nat},i<l.length ->
  ∃ v,vs[i]? =some v/\(l.getD i .any).kd=0/\v.oneCell'=true/\aJ E (l.getD i .any) [v]:=by
 intro l
 induction l with
 |nil=>intro vs h i hi; simp at hi
 |cons t ts ih =>
  intro vs h i hi
  simp only[aW] at h
  obtain⟨hk,v,r,rfl,h0,h1,h2⟩:=h
  cases i with
  |zero=>exact⟨v,by simp,by simpa using hk,h0,by simpa using h1⟩
  |succ i=>simpa using ih h2 (by simpa using hi)
theorem Df{l l':List T}{vs:List Value}:aW E (l++l') vs↔ ∃ a b,vs=a++b/\aW E l a/\aW E l' b:=by
 induction l generalizing vs with
 |nil =>
  simp only[List.nil_append,aW]
  exact⟨fun h=>⟨[],vs,rfl,rfl,h⟩,fun⟨a,b,h1,h2,h3⟩=>by subst h2; simp at h1; subst h1; exact h3⟩
 |cons t ts ih =>
  simp only[List.cons_append,aW,ih]
  constructor
  ·rintro⟨hk,v,r,rfl,h0,h1,a,b,rfl,h2,h3⟩
   exact⟨v::a,b,rfl,⟨hk,v,a,rfl,h0,h1,h2⟩,h3⟩
  ·rintro⟨a,b,rfl,⟨hk,v,r,rfl,h0,h1,h2⟩,h3⟩
   exact⟨hk,v,r++b,rfl,h0,h1,r,b,rfl,h2,h3⟩
theorem Hu{l:List T}{vs:List Value}(h:aW E l vs)(n:Nat):aW E (l.take n) (vs.take n):=by
 induction l generalizing vs n with
 |nil=>simp[aW] at h; subst h; simp[aW]
 |cons t ts ih =>
  simp only[aW] at h
  obtain⟨hk,v,r,rfl,h0,h1,h2⟩:=h
  cases n with
  |zero=>simp[aW]
  |succ n=>simp only[List.take_succ_cons,aW]; exact⟨hk,v,_,rfl,h0,h1,ih h2 n⟩
theorem Hw{l:List T}{vs:List Value}(h:aW E l vs)(n:Nat):aW E (l.drop n) (vs.drop n):=by
 induction l generalizing vs n with
 |nil=>simp[aW] at h; subst h; simp[aW]
 |cons t ts ih =>
  simp only[aW] at h
  obtain⟨hk,v,r,rfl,h0,h1,h2⟩:=h
  cases n with
  |zero=>simp only[List.drop_zero,aW]; exact⟨hk,v,r,rfl,h0,h1,h2⟩
  |succ n=>simpa using ih h2 n
theorem uV{t:T}{vs:List Value}(hk:t.kd≠0):aJ E t vs↔aW E t.cells vs:=by
 cases t<;>simp_all[T.kd,T.cells,aJ]
theorem cells_one{v:Value}(h:v.oneCell'=true):v.cells= #[v]:=by
 cases v<;>simp_all[Value.cells,Value.oneCell']
theorem AO{t:T}(h:t.kd=0):t.cells=[t]:=by cases t<;>simp_all[T.kd,T.cells]
theorem Ql{t:T}{v:Value}(h:je E t v)(ht:t.kd=0->v.oneCell'=true):aW E t.cells v.cells.toList:=by
 rcases h with ⟨hk,cs,rfl,h⟩|⟨hk,h⟩
 ·rw[uV hk] at h; simpa [Value.cells] using h
 ·rw[AO hk,cells_one (ht hk)]
  simp only[aW]
  exact⟨hk,v,[],rfl,ht hk,h,rfl⟩
theorem ng(t:T):bC t.kd=t.cells.length:=by cases t<;>simp[T.kd,bC,T.cells]
theorem NS{t:T}{vs:List Value}(h:aJ E t vs)(hk:t.kd≠0):vs.length=bC t.kd:=by
 rw[uV hk] at h; rw[ng]; exact lG h
theorem Zb{t:T}{off k:Nat}(h:mZ t.cells.length off k=true)(hs:k=0->(t.cells.getD off .any).kd=0):(t.part off k).kd=k:=by
 cases k with
 |zero=>exact hs rfl
 |succ m =>
  simp only[T.part,T.kd,mZ,bC,Nat.ble_eq] at h ⊢
  simp only[List.length_take,List.length_drop]; omega
theorem Es{t:T}{vs:List Value}(h:aJ E t vs)(hk:t.kd≠0){off k:Nat}(ho:mZ t.cells.length off k=true) :
  aJ E (t.part off k) ((vs.drop off).take (bC k))/\(t.part off k).kd=k/\off+bC k<=vs.length:=by
 have hl:=NS h hk
 rw[ng] at hl
 rw[uV hk] at h
 have ho':=ho
 simp only[mZ,Nat.ble_eq] at ho'
 cases k with
 |zero =>
  simp only[bC] at ho' ⊢
  obtain⟨v,hv,hkd,_,hr⟩:=JR h (i:=off) (by omega)
  refine⟨?_,hkd,by omega⟩
  have:(vs.drop off).take 1=[v]:=by
   rw[List.getElem?_eq_some_iff] at hv
   obtain⟨hlt,rfl⟩:=hv
   rw[List.drop_eq_getElem_cons hlt,List.take_succ_cons,List.take_zero]
  rw[this]; exact hr
 |succ m =>
  refine⟨?_,Zb ho (by simp),by omega⟩
  simp only[T.part,aJ,bC]
  exact Hu (Hw h _) _
theorem vV: ∀ {k:Nat} {l:List T} {vs:List Value},aC E k l vs-> ∀ {j:Nat},j<l.length ->
  (l.getD j .any).kd=k/\j*bC k+bC k<=vs.length/\(∀ v∈(vs.drop (j*bC k)).take (bC k),v.oneCell'=true)/\aJ E (l.getD j .any) ((vs.drop (j*bC k)).take (bC k)):=by
 intro k l
 induction l with
 |nil=>intro vs _ j hj; simp at hj
 |cons t ts ih =>
  intro vs h j hj
  simp only[aC] at h
  obtain⟨hk,hl,h0,h1,h2⟩:=h
  cases j with
  |zero=>simpa using ⟨hk,hl,h0,h1⟩
  |succ j =>
   obtain⟨g1,g2,g0,g3⟩:=ih h2 (j:=j) (by simpa using hj)
   rw[List.drop_drop,show bC k+j*bC k=(j+1)*bC k by rw[Nat.add_mul]; omega] at g3 g0
   refine⟨by simpa using g1,?_,g0,by simpa using g3⟩
   rw[List.length_drop] at g2; rw[Nat.add_mul]; omega
theorem uX{n:Nat}{vs ws:List Value}(he: ∀ i,i<n->ws[i]? =vs[i]?):ws.take n=vs.take n:=by
 apply List.ext_getElem?
 intro i
 by_cases hi:i<n
 ·rw[List.getElem?_take_of_lt hi,List.getElem?_take_of_lt hi]; exact he i hi
 ·rw[List.getElem?_take_eq_none (by omega),List.getElem?_take_eq_none (by omega)]
theorem iI: ∀ {k:Nat} {l:List T} {vs ws:List Value},aC E k l vs->(∀ i,i<l.length*bC k->ws[i]? =vs[i]?)->aC E k l ws:=by
 intro k l
 induction l with
 |nil=>intro vs ws _ _; simp[aC]
 |cons t ts ih =>
  intro vs ws h he
  simp only[aC] at h ⊢
  obtain⟨hk,hl,h0,h1,h2⟩:=h
  have hlen:(t::ts).length*bC k=ts.length*bC k+bC k:=by rw[List.length_cons,Nat.add_mul]; omega
  have htake:ws.take (bC k)=vs.take (bC k):=uX fun i hi=>he i (by omega)
  refine⟨hk,?_,by rw[htake]; exact h0,by rw[htake]; exact h1,ih h2 fun i hi=>?_⟩
  ·have:=congrArg List.length htake
   simp only[List.length_take] at this; omega
  ·rw[List.getElem?_drop,List.getElem?_drop]; exact he _ (by omega)
theorem Hy: ∀ {k:Nat} {l:List T} {vs:List Value},aC E k l vs->l.length*bC k<=vs.length:=by
 intro k l
 induction l with
 |nil=>intro vs _; simp
 |cons t ts ih =>
  intro vs h
  simp only[aC] at h
  obtain⟨_,h1,_,_,h2⟩:=h
  have:=ih h2
  rw[List.length_drop] at this
  rw[List.length_cons,Nat.add_mul]; omega
theorem NT: ∀ {k:Nat} {l:List T} {vs:List Value},aC E k l vs-> ∀ v∈vs.take (l.length*bC k),v.oneCell'=true:=by
 intro k l
 induction l with
 |nil=>intro vs _; simp
 |cons t ts ih =>
  intro vs h
  simp only[aC] at h
  obtain⟨_,h1,h0,_,h2⟩:=h
  intro v hv
  rw[List.length_cons,Nat.add_mul,Nat.one_mul,Nat.add_comm,List.take_add] at hv
  rcases List.mem_append.1 hv with hv|hv
  ·exact h0 v hv
  ·exact ih h2 v hv
theorem tV: ∀ {k:Nat} {l:List T} {vs:List Value},aC E k l vs-> ∀ n,aC E k (l.take n) vs:=by
 intro k l
 induction l with
 |nil=>intro vs _ n; simp[aC]
 |cons t ts ih =>
  intro vs h n
  cases n with
  |zero=>simp[aC]
  |succ n =>
   simp only[aC,List.take_succ_cons] at h ⊢
   exact⟨h.1,h.2.1,h.2.2.1,h.2.2.2.1,ih h.2.2.2.2 n⟩
theorem yc: ∀ {k:Nat} {l:List T} {vs:List Value},aC E k l vs-> ∀ n,n<=l.length->aC E k (l.drop n) (vs.drop (n*bC k)):=by
 intro k l
 induction l with
 |nil=>intro vs _ n _; simp[aC]
 |cons t ts ih =>
  intro vs h n hn
  cases n with
  |zero=>simpa using h
  |succ n =>
   simp only[aC] at h
   have:=ih h.2.2.2.2 n (by simpa using hn)
   rw[List.drop_drop,show bC k+n*bC k=(n+1)*bC k by rw[Nat.add_mul]; omega] at this
   simpa using this
theorem qh: ∀ {k:Nat} {l l':List T} {vs:List Value},aC E k (l++l') vs↔aC E k l vs/\aC E k l' (vs.drop (l.length*bC k)):=by
 intro k l
 induction l with
 |nil=>intro l' vs; simp[aC]
 |cons t ts ih =>
  intro l' vs
  simp only[List.cons_append,aC,ih,List.drop_drop,List.length_cons]
  rw[show bC k+ts.length*bC k=(ts.length+1)*bC k by rw[Nat.add_mul]; omega]
  constructor
  ·rintro⟨h1,h2,h0,h3,h4,h5⟩; exact⟨⟨h1,h2,h0,h3,h4⟩,h5⟩
  ·rintro⟨⟨h1,h2,h0,h3,h4⟩,h5⟩; exact⟨h1,h2,h0,h3,h4,h5⟩
theorem EX: ∀ {k:Nat} {l:List T} {vs ws:List Value},aC E k l vs-> ∀ {j:Nat} {t:T},t.kd=k->j<l.length ->
  ws.length=vs.length->(∀ v∈(ws.drop (j*bC k)).take (bC k),v.oneCell'=true)->aJ E t ((ws.drop (j*bC k)).take (bC k)) ->
  (∀ i,i<j*bC k\/j*bC k+bC k<=i->ws[i]? =vs[i]?)->aC E k (l.set j t) ws:=by
 intro k l
 induction l with
 |nil=>intro vs ws _ j t _ hj; simp at hj
 |cons t ts ih =>
  intro vs ws h j t' hk' hj hlen ho hr he
  simp only[aC] at h
  obtain⟨hk,hl,h0,h1,h2⟩:=h
  cases j with
  |zero =>
   simp only[List.set_cons_zero,aC]
   refine⟨hk',by omega,by simpa using ho,by simpa using hr,iI h2 fun i _=>?_⟩
   rw[List.getElem?_drop,List.getElem?_drop]; exact he _ (.inr (by omega))
  |succ j =>
   have e1:(j+1)*bC k=j*bC k+bC k:=by rw[Nat.add_mul]; omega
   simp only[List.set_cons_succ,aC]
   have htake:ws.take (bC k)=vs.take (bC k):=uX fun i hi=>he i (.inl (by omega))
   have e2:bC k+j*bC k=(j+1)*bC k:=by omega
   refine⟨hk,by omega,by rw[htake]; exact h0,by rw[htake]; exact h1,ih h2 hk' (by simpa using hj) (by simp[hlen]) ?_ ?_ fun i hi=>?_⟩
   ·rw[List.drop_drop,e2]; exact ho
   ·rw[List.drop_drop,e2]; exact hr
   ·rw[List.getElem?_drop,List.getElem?_drop]; exact he _ (by omega)
theorem uY{k:Nat}{t:T}{vs:List Value}(hk:t.kd=k)(hl:vs.length=bC k)(h1: ∀ v∈vs,v.oneCell'=true)(h:aJ E t vs):aC E k [t] vs:=by
 simp only[aC]
 have:vs.take (bC k)=vs:=by rw[<- hl,List.take_length]
 rw[this]
 exact⟨hk,by omega,h1,h,trivial⟩
end rep
@[reducible] def eU:Nat:=1000000007
def yg(k:Nat):Bool:=Nat.blt 0 (bC k)&&Nat.blt k 1000000007
theorem yh{k:Nat}(h:yg k=true):0<bC k/\k≠eU:=by
 simp only[yg,Bool.and_eq_true,Nat.blt_eq] at h
 exact⟨h.1,by simp only[eU]; omega⟩
structure Fr(P:Program) where
 s:Nat->Prop
 dl:List Deferred:=[]
instance {P:Program}:CoeFun (Fr P) (fun _=>Nat->Prop):=⟨Fr.s⟩
def wO(P:Program)(g:Nat):Option (Array Value) :=
 if P.globalNamed "strings.asciiSpace" = some g then some (Lib.asciiSpaceTab.map fun z=>Value.int .u8 z).toArray else none
def rowB:Value->Option Nat
 | .slice (some a) _ (_+1)=>some a.block
 | .map (some g)=>some g
 |_=>none
def dY(E:Env):List T->List MapEntry->Prop
 |[],es=>es=[]
 |t::ts,es=> ∃ n u e r,t= .fH [.lit (.int .i64 n),u]/\es=e::r/\e.key= .int .i64 n/\u.kd=0/\e.val.oneCell'=true/\aJ E u [e.val]/\dY E ts r
def Cj(E:Env)(ob:Ob)(v:Value):Prop :=
 (∃ a,v= .slice a 0 0/\ob.l=[]) \/
 ∃ g c cur,v= .slice (some ⟨g,0,none⟩) ob.l.length (c+1)/\ob.l.length<=c+1/\c+1<=maxLen/\E.w.heap[g]? =some (.cells cur ob.ty (0,0)) /\
  cur.size=(c+1)*bC ob.k/\aC E ob.k ob.l cur.toList
def aav(E:Env)(ob:Ob)(v:Value):Prop :=
 ∃ g es clock,v= .map (some g)/\E.w.heap[g]? =some (.map es clock)/\dY E ob.l es.toList
def su(E:Env)(ob:Ob)(v:Value):Prop:=(ob.k≠eU/\Cj E ob v)\/(ob.k=eU/\aav E ob v)
theorem su.row{E:Env}{ob:Ob}{v:Value}(h:su E ob v)(hk:ob.k≠eU):Cj E ob v:=by
 rcases h with h|h
 ·exact h.2
 ·exact absurd h.1 hk
theorem su.map{E:Env}{ob:Ob}{v:Value}(h:su E ob v)(hk:ob.k=eU):aav E ob v:=by
 rcases h with h|h
 ·exact absurd hk h.1
 ·exact h.2
theorem su.of_slice{E:Env}{ob:Ob}{v:Value}(h:su E ob v){a:Option Addr}{n c:Nat}(hv:v= .slice a n c):Cj E ob v/\ob.k≠eU:=by
 rcases h with h|⟨_,g,es,cl,h1,_⟩
 ·exact⟨h.2,h.1⟩
 ·rw[hv] at h1; cases h1
def zi:Code->Option (Array Tmp×Code×Code)
 | .rangeFunc _ ps a b=>some (ps,a,b)
 | .seq a b=>match zi a with|some s=>some s|none=>zi b
 | .cond _ a b=>match zi a with|some s=>some s|none=>zi b
 | .block _ b=>zi b
 | .loop b=>zi b
 | .scope b=>zi b
 |_=>none
def aa7(P:Program)(p:Yd):Prop:= ∃ fn c,P.funcs[p.k]? =some fn/\fn.body=some c/\zi c=some (p.r.params,p.r.assign,p.r.body)
def NU{P:Program}(F:Nat->Prop)(E:Env):Prop:= ∀ p:Yd,E.y=some p->(p.r.state= .ready/\p.r.pending=none)/\aa7 P p/\F p.l/\E.w.heap[p.l]? =some (.loop p.r)
structure oP{P:Program}(F:Fr P)(E:Env):Prop where
 obs: ∀ i ob,E.h i=some ob->su E ob (E.φ i)/\E.κ i=ob.k/\0<bC ob.k
 out: ∀ i ob g,E.h i=some ob->rowB (E.φ i)=some g-> ¬ E.S g/\ ¬ F g
 sep: ∀ i j oi oj g,i≠j->E.h i=some oi->E.h j=some oj->rowB (E.φ i)=some g->rowB (E.φ j)=some g->False
 slt: ∀ g,E.S g->g<E.w.heap.size
 flt: ∀ g,F g->g<E.w.heap.size
 sf: ∀ g,E.S g->F g->False
 gl:(∀ g cs,wO P g=some cs->F g/\ ∃ ty m,E.w.heap[g]? =some (.cells cs ty m))/\NU (P:=P) F.s E
def mD(M:Nat->Prop)(h:Hp):Prop:= ∀ i ob,h i=some ob->M i/\T.aO M ob.l
structure Rel{P:Program}(F:Fr P)(M:Nat->Prop)(E:Env)(s:AS)(a:Act):Prop where
 hk:oP F E
 he:E.h=s.hp
 fr:bD E s.fr a.tmps.toList
 df:a.defers=F.dl
 mf:T.aO M s.fr
 mh:mD M s.hp
structure Ext{P:Program}(F:Fr P)(E E':Env):Prop where
 s: ∀ g,E.S g->E'.S g
 w: ∀ g,E.S g\/F g->E'.w.heap[g]? =E.w.heap[g]?
 size:E.w.heap.size<=E'.w.heap.size
 os:E'.w.os=E.w.os
 tape:E'.w.tape=E.w.tape
 output:E'.w.output=E.w.output
 y:E'.y=E.y
theorem NU.of{P:Program}{F F':Nat->Prop}{E E':Env}(h:NU (P:=P) F E)(hf: ∀ g,F g->F' g)(hw: ∀ g,F g->E'.w.heap[g]? =E.w.heap[g]?)(hy:E'.y=E.y):NU (P:=P) F' E':=fun p hp=>by
 obtain⟨h0,h1,h2,h3⟩:=h p (hy.symm.trans hp)
 exact⟨h0,h1,hf _ h2,(hw _ h2).trans h3⟩
theorem Ext.gl{P:Program}{F:Fr P}{E E':Env}(h:Ext F E E')(hk:oP F E):(∀ g cs,wO P g=some cs->F g/\ ∃ ty m,E'.w.heap[g]? =some (.cells cs ty m))/\NU (P:=P) F.s E':=⟨fun g cs hg=>by
 obtain⟨h1,ty,m,h2⟩:=hk.gl.1 g cs hg
 exact⟨h1,ty,m,by rw[h.w g (.inr h1)]; exact h2⟩,hk.gl.2.of (fun _ h=>h) (fun g hg=>h.w g (.inr hg)) h.y⟩
theorem Ext.refl{P:Program}(F:Fr P)(E:Env):Ext F E E:=⟨fun _ h=>h,fun _ _=>rfl,Nat.le_refl _,rfl,rfl,rfl,rfl⟩
theorem Ext.trans{P:Program}{F:Fr P}{E E' YE:Env}(h:Ext F E E')(h':Ext F E' YE):Ext F E YE :=
 ⟨fun g hg=>h'.s g (h.s g hg),fun g hg=>(h'.w g (hg.imp (h.s g) id)).trans (h.w g hg),Nat.le_trans h.size h'.size,
  h'.os.trans h.os,h'.tape.trans h.tape,h'.output.trans h.output,h'.y.trans h.y⟩
def Same(E E':Env)(M:Nat->Prop):Prop :=
 ∀ i,M i->(E'.h i).isSome=true->(E.h i).isSome=true/\E'.φ i=E.φ i/\E'.κ i=E.κ i
theorem Keeps.of{P:Program}{F:Fr P}{M:Nat->Prop}{E E':Env}(h:Ext F E E')(hs:Same E E' M):Keeps E E' M :=
 ⟨h.s,fun b hb=>h.w b (.inl hb),hs,h.y⟩
def callable(P:Program)(f:FuncId):Prop:= ∀ args w,Sem.run P (callFunc f args) w= .ok (.enter f args) w
def Ends{P:Program}(F:Fr P)(M:Nat->Prop)(E:Env)(n:Nat)(post:T->Hp->Prop)(e:Ending)(w':World):Prop :=
 ∃ v t E',e= .returned v/\E'.w=w'/\post t E'.h/\je E' t v/\oP F E'/\Ext F E E'/\Same E E' M /\
  t.ids (fun i=>M i\/i=n)/\mD (fun i=>M i\/i=n) E'.h
def aP(P:Program)(f:FuncId)(ts:List T)(h:Hp)(n:Nat)(post:T->Hp->Prop):Prop :=
 (∃ t h',post t h')/\callable P f /\
 ∀ (F:Fr P) (M:Nat->Prop) (E:Env) (vs:List Value),oP F E->E.h=h->bD E ts vs->T.aO M ts->mD M h-> ¬ M n ->
  Calls P f vs.toArray E.w (Ends F M E n post)
theorem aP.mono{P:Program}{f:FuncId}{ts:List T}{h:Hp}{n:Nat}{post post':T->Hp->Prop}
  (H:aP P f ts h n post) (hp: ∀ t h',post t h'->post' t h'):aP P f ts h n post':=by
 obtain⟨⟨t,h',h1⟩,h2,h3⟩:=H
 refine⟨⟨t,h',hp _ _ h1⟩,h2,fun F M E vs a b c d e g=>(h3 F M E vs a b c d e g).mono ?_⟩
 rintro e w' ⟨v,t,E',r1,r2,r3,r4⟩
 exact⟨v,t,E',r1,r2,hp _ _ r3,r4⟩
def HY(P:Program)(t:T)(ts:List T)(h:Hp)(n:Nat)(post:T->Hp->Prop):Prop :=
 (∃ t h',post t h') /\
 ∀ (F:Fr P) (M:Nat->Prop) (E:Env) (v:Value) (vs:List Value),oP F E->E.h=h->je E t v->bD E ts vs->t.ids M->T.aO M ts->mD M h-> ¬ M n ->
  ∀ p:Yd,E.y=some p->YieldAt Fence.wide 0 P p.l vs.toArray E.w (Ends F M E n post)
def acH{P:Program}(F:Fr P)(M:Nat->Prop)(E:Env)(n k:Nat)(post:T->Hp->Prop)(e:Ending)(w':World):Prop :=
 ∃ v t E',e= .returned v/\E'.w=w'/\post t E'.h/\je E' t v/\oP F E'/\Ext F E E'/\Same E E' M /\
  t.ids (fun i=>M i\/n<=i/\i<=n+k)/\mD (fun i=>M i\/n<=i/\i<=n+k) E'.h
def kF(P:Program)(f:FuncId)(ts:List T)(h:Hp)(n k:Nat)(post:T->Hp->Prop):Prop :=
 (∃ t h',post t h')/\callable P f /\
 ∀ (F:Fr P) (M:Nat->Prop) (E:Env) (vs:List Value),oP F E->E.h=h->bD E ts vs->T.aO M ts->mD M h->(∀ i,M i->i<n) ->
  Calls P f vs.toArray E.w (acH F M E n k post)
theorem kF.mono{P:Program}{f:FuncId}{ts:List T}{h:Hp}{n k:Nat}{post post':T->Hp->Prop}
  (H:kF P f ts h n k post) (hp: ∀ t h',post t h'->post' t h'):kF P f ts h n k post':=by
 obtain⟨⟨t,h',h1⟩,h2,h3⟩:=H
 refine⟨⟨t,h',hp _ _ h1⟩,h2,fun F M E vs a b c d e g=>(h3 F M E vs a b c d e g).mono ?_⟩
 rintro e w' ⟨v,t,E',r1,r2,r3,r4⟩
 exact⟨v,t,E',r1,r2,hp _ _ r3,r4⟩
def T.splice(e:T)(off:Nat)(v:T):T:=.agg (e.cells.take off++v.cells++e.cells.drop (off+v.cells.length))
inductive Src where
 |no
 |list (l:List T)
def Qm(h:Hp)(k:Nat):T->Src
 | .sl k' _ l=>match l with|[]=>.list []|x::r=>bif k'==k then .list (x::r) else .no
 | .own o=>match h o with|some ob=>bif ob.k==k then .list ob.l else .no|none=>.no
 |_=>.no
def lU(P:Program)(dr:Bool)(n:Nat)(d:Option Nat)(f:FuncId)(ts:List T)(K:AS->Prop)(s:AS):Prop :=
 aP P f ts s.hp n fun t h=>(dr=true->h=s.hp/\t.free=true)/\K {(s.put d t) with hp:=h}
def lu(P:Program)(dr:Bool)(n:Nat)(d:Option Nat)(op:mO)(K:AS->Prop)(s:AS):Prop :=
 match op with
 | .box ty k x=>((s.ev x).kd==k&&(s.ev x).jS s.hp&&yg k)=true /\
   K {(s.put d (.ptr n 0 0)) with hp:=upd s.hp n (some ⟨ty,k,[s.ev x]⟩)}
 | .al ty k z=>(z.kd==k&&z.jS s.hp&&z.free&&yg k)=true/\K {(s.put d (.ptr n 0 0)) with hp:=upd s.hp n (some ⟨ty,k,[z]⟩)}
 | .make ty k bytes z x y =>
  match s.ev x,s.ev y with
  | .lit (.int _ a),.lit (.int _ b)=>(z.kd==k&&z.jS s.hp&&z.free&&yg k)=true/\(0<=a/\a<=b/\b*bytes<=140737488355328/\b<=1152921504606846976) /\
    K {(s.put d (.own n)) with hp:=upd s.hp n (some ⟨ty,k,List.replicate a.toNat z⟩)}
  |_,_=>False
 | .st k x v =>
  match s.ev x with
  | .ptr i j off =>
   match s.hp i with
   |some ob=>((s.ev v).kd==k&&(s.ev v).jS s.hp)=true/\j<ob.l.length/\((off==0&&ob.k==k)||(!(ob.k==0)&&mZ (bC ob.k) off k))=true /\
     K {s with hp:=upd s.hp i (some ⟨ob.ty,ob.k,ob.l.set j (bif (off==0&&ob.k==k) then s.ev v else(ob.l.getD j .any).splice off (s.ev v))⟩)}
   |none=>False
  |_=>False
 | .app ty k bytes x y =>
  match Qm s.hp k (s.ev y) with
  | .list m =>
   match s.ev x with
   | .sl k' true l=>(k'=k\/l=[])/\((l=[]\/m≠[])\/(dr=false/\K (s.put d (.sl k' true l))))/\(l.length+m.length)*bytes<=140737488355328/\l.length+m.length<=1152921504606846976 /\
     K {(s.put d (.own n)) with hp:=upd s.hp n (some ⟨ty,k,l++m⟩)}
   | .own i =>
    match s.hp i with
    |some ob=>(ob.k==k&&ob.ty==ty)=true/\(ob.l.length+m.length)*bytes<=140737488355328/\ob.l.length+m.length<=1152921504606846976 /\
      K {(s.put d (.own n)) with hp:=upd (upd s.hp i none) n (some ⟨ty,k,ob.l++m⟩)}
    |none=>False
   |_=>False
  | .no=>False
 | .call f xs=>lU P dr n d f (xs.map s.ev) K s
 | .jD x xs=>match s.ev x with| .fn f cap=>(bif Nat.blt f 4096 then lU P dr n d f (xs.map s.ev++cap) K s else Nat.blt f 8192=true/\lU P dr n d (f % 4096) (.agg cap::xs.map s.ev) K s)|_=>False
 | .y9 x =>
  match s.ev x with
  | .sl _ _ l=>(l=[]->K (s.put d (.lit (.bool true))))/\K (s.put d (.lit (.bool false)))
  | .own i=>match s.hp i with
   |some ob=>(ob.l=[]->K (s.put d (.lit (.bool true))))/\K (s.put d (.lit (.bool false)))/\ob.k≠eU
   |none=>False
  |_=>False
 | .Um ty=>K {(s.put d (.own n)) with hp:=upd s.hp n (some ⟨ty,eU,[]⟩)}
 | .NQ x i v =>
  match s.ev x,s.ev i with
  | .own o,.lit (.int .i64 m) =>
   match s.hp o with
   |some ob=>ob.k=eU/\((s.ev v).kd==0&&(s.ev v).xg s.hp)=true/\K {s with hp:=upd s.hp o (some ⟨ob.ty,ob.k,zh m (s.ev v) ob.l⟩)}
   |none=>False
  |_,_=>False
 | .Qk k z x =>
  match s.ev x with
  | .ru i lo hi=>match s.hp i with
   |some ob=>(ob.k==k&&z.kd==k&&z.jS s.hp&&z.free)=true/\hi<=ob.l.length/\K {(s.put d T.un) with hp:=upd s.hp i (some ⟨ob.ty,ob.k,ob.l.take lo++List.replicate (hi-lo) z++ob.l.drop hi⟩)}
   |none=>False
  |_=>False
 | .FI ty k z m ps=>((z.kd==k)&&z.free&&Hr k m (ps.map fun p=>(p.1,s.ev p.2))&&uS s.hp (ps.map fun p=>s.ev p.2)&&Nat.ble (m*bC k) 16777216&&yg k)=true /\
   K {(s.put d (.own n)) with hp:=upd s.hp n (some ⟨ty,k,qg (List.replicate m z) (ps.map fun p=>(p.1,s.ev p.2))⟩)}
 | .bot=>False
 |op=>qc s op/\K (s.put d (qt s op))
mutual
def T.lt(n:Nat):T->Bool
 | .own i=>Nat.blt i n
 | .ptr i _ _=>Nat.blt i n
 | .ru i _ _=>Nat.blt i n
 | .agg l=>T.Nr n l
 | .fn _ cap=>T.Nr n cap
 | .fH l=>T.Nr n l
 |_=>true
def T.Nr(n:Nat):List T->Bool
 |[]=>true
 |t::ts=>T.lt n t&&T.Nr n ts
end
mutual
def T.nid(i:Nat):T->Bool
 | .own j=> !(j==i)
 | .ptr j _ _=> !(j==i)
 | .ru j _ _=> !(j==i)
 | .agg l=>T.Un i l
 | .fn _ cap=>T.Un i cap
 | .fH l=>T.Un i l
 |_=>true
def T.Un(i:Nat):List T->Bool
 |[]=>true
 |t::ts=>T.nid i t&&T.Un i ts
end
def T.newer(n:Nat):T->Bool
 | .own i=>Nat.ble n i
 | .ptr i _ _=>Nat.ble n i
 | .sl _ _ _=>true
 |_=>false
def mO.xs:mO->List X
 | .mv x=>[x]
 | .pick c a b=>[c,a,b]
 | .bin _ x y=>[x,y]
 | .bb _ x y=>[x,y]
 | .not x=>[x]
 | .conv _ x=>[x]
 | .fa _ _ x=>[x]
 | .fv _ _ x=>[x]
 | .ia _ x i=>[x,i]
 | .ch x i=>[x,i]
 | .ld _ x=>[x]
 | .nc x=>[x]
 | .len _ x=>[x]
 | .mx x y=>[x,y]
 | .mn x y=>[x,y]
 | .mk _ ps=>ps.map fun p=>p.2.2
 | .ms _ _ _ _ ps=>ps.map fun p=>p.2
 | .sl _ x lo hi m=>x::(lo.toList++hi.toList++m.toList)
 | .ss x lo hi=>x::(lo.toList++hi.toList)
 | .ex x _=>[x]
 | .mf _ cap=>cap
 | .box _ _ x=>[x]
 | .al .. =>[]
 | .make _ _ _ _ x y=>[x,y]
 | .st _ x v=>[x,v]
 | .app _ _ _ x y=>[x,y]
 | .call _ xs=>xs
 | .jD x xs=>x::xs
 | .y9 x=>[x]
 | .eqs _ _ x y=>[x,y]
 | .Um _=>[]
 | .Za _ x i=>[x,i]
 | .NQ x i v=>[x,i,v]
 | .Pm _ x lo hi m=>x::(lo.toList++hi.toList++m.toList)
 | .Le x=>[x]
 | .Qk _ _ x=>[x]
 | .FI _ _ _ _ ps=>ps.map fun p=>p.2
 | .mb _ x=>[x]
 | .sa _ x=>[x]
 | .bot=>[]
def AS.obj(s:AS)(m:Nat):Option Nat :=
 match s.fr.getD m .any with
 | .ptr i _ _=>some i
 |_=>none
def Et(s:AS)(xs:List X):List Nat->Bool
 |[]=>true
 |m::r=>(bif Nat.blt m 1000000 then(match s.obj m with|some i=>xs.all fun x=>T.nid i (s.ev x)|none=>false)
   else bif Nat.beq m 1000000 then xs.all fun x=>T.lt 10000 (s.ev x) else(match xs with|x::_=>T.newer 10000 (s.ev x)|[]=>false))&&Et s xs r
def iV(o:aN)(s:AS):Prop :=
 (o.fl=true->(match o.op with
  | .st _ x _=>T.newer s.nx (s.ev x)
  | .app _ _ _ x _=>T.newer s.nx (s.ev x)
  | .NQ _ _ _=>false
  | .Qk _ _ _=>false
  | .call _ _=>true
  | .jD _ _=>true
  |op=>op.xs.all fun x=>T.lt s.nx (s.ev x))=true)/\Et s o.op.xs o.ne=true
def aN.dr(o:aN)(dr:Bool):Bool :=
 match o.op with
 | .call _ _=>dr&& !o.fl
 | .jD _ _=>dr&& !o.fl
 |_=>dr
def Eu(g:Option (Nat×Bool))(s:AS)(yes no:AS->Prop):Prop :=
 match g with
 |none=>yes s
 |some (d,want) =>
  match s.fr.getD d .any with
  | .lit (.bool b)=>(b=want->yes (s.put (some d) (.lit (.bool want))))/\(b= !want->no (s.put (some d) (.lit (.bool !want))))
  | .lit (.tuple _)=>no s
  |_=>False
def YF(P:Program)(dr:Bool)(n:Nat)(d:Option Nat)(op:mO)(K:AS->Prop)(s:AS):Prop :=
 match op with
 | .call f xs=>dr=false/\ ∃ k,kF P f (xs.map s.ev) s.hp n k fun t h=>K {(s.put d t) with hp:=h,nx:=s.nx+k}
 | .jD x xs=>dr=false/\match s.ev x with
  | .fn f cap=>Nat.blt f 8192=false/\HY P (.fn f cap) (xs.map s.ev) s.hp n fun t h=>K {(s.put d t) with hp:=h}
  |_=>False
 |_=>False
def gu(h:Hp)(n:Nat):Option Ob->Hp
 |none=>h
 |some ob=>upd h n (some ob)
def WZ(P:Program)(n:Nat)(d:Option Nat)(op:mO)(K:AS->Prop)(s:AS):Prop :=
 match op with
 | .call f xs=> ∃ (t:T) (o:Option Ob),t.ids (fun i=>i=n)/\(∀ ob,o=some ob->T.bZ ob.l=true) /\
   (∀ h:Hp,(∀ i ob,s.hp i=some ob->h i=some ob)->(∀ i ob,s.hp i=some ob->T.aO (fun j=>(h j).isSome=true->(s.hp j).isSome=true) ob.l)->aP P f (xs.map s.ev) h n fun t' h'=>t'=t/\h'=gu h n o)/\K {(s.put d t) with hp:=gu s.hp n o}
 |_=>False
def mkK(o:aN)(s:AS)(K:AS->Prop)(s':AS):Prop:=(o.ad=true-> ∀ i ob,s.hp i=some ob->s'.hp i=some ob)/\K s'
def opR(P:Program)(dr:Bool)(n:Nat)(o:aN)(K:AS->Prop)(s:AS):Prop :=
 (o.ar=false/\lu P (o.dr dr) n o.d o.op (mkK o s K) s)\/(o.ar=true/\o.fl=true/\WZ P n o.d o.op K s)
def qP(P:Program)(dr:Bool)(m:Nat)(K:AS->Prop):List aN->Nat->AS->Prop
 |[],_,s=>K {s with nx:=s.nx+m}
 |o::r,i,s=>Eu o.g s (fun s=>iV o s/\(opR P dr (s.nx+i) o (qP P dr m K r (i+1)) s\/YF P dr (s.nx+i) o.d o.op (qP P dr m K r (i+1)) s)) (fun s=>qP P dr m K r (i+1) (s.put o.d T.un))
mutual
def T.ren(ρ:Nat->Nat):T->T
 | .own i=>.own (ρ i)
 | .ptr i j off=>.ptr (ρ i) j off
 | .ru i lo hi=>.ru (ρ i) lo hi
 | .agg l=>.agg (T.dh ρ l)
 | .fn f cap=>.fn f (T.dh ρ cap)
 | .fH l=>.fH (T.dh ρ l)
 |t=>t
def T.dh(ρ:Nat->Nat):List T->List T
 |[]=>[]
 |t::ts=>T.ren ρ t::T.dh ρ ts
end
mutual
def T.sub(Z:Nat->Prop)(h:Hp):T->T->Prop
 | .any,_=>True
 | .sl k f l,.sl k' f' l'=>(l=l'\/(T.dJ Z h l l'/\ ∀ t∈l,t.kd=k))/\(k=k'\/l=[])/\(f=true->f'=true)
 | .sl k f l,.ru i lo hi=>f=false/\Z i/\T.bZ l=true/\k≠eU/\ ∃ ty l',h i=some ⟨ty,k,l'⟩/\hi<=l'.length/\l=(l'.take hi).drop lo
 | .sl k f l,.own i=>f=false/\Z i/\T.bZ l=true/\k≠eU/\ ∃ ty,h i=some ⟨ty,k,l⟩
 | .ref k t,.ptr i j o=>o=0/\Z i/\T.free t=true/\k≠eU/\ ∃ ty l',h i=some ⟨ty,k,l'⟩/\l'[j]? =some t
 | .agg l,.agg l'=>T.dJ Z h l l'
 | .fH l,.fH l'=>T.dJ Z h l l'
 |t,t'=>t=t'
def T.dJ(Z:Nat->Prop)(h:Hp):List T->List T->Prop
 |[],[]=>True
 |t::ts,t'::ts'=>T.sub Z h t t'/\T.dJ Z h ts ts'
 |_,_=>False
end
def iC:T->Bool
 | .fH [.lit (.int .i64 _),_]=>true
 |_=>false
structure Gj(Z:Nat->Prop)(h:Hp)(ρ:Nat->Nat)(ob ob':Ob):Prop where
 ty:ob'.ty=ob.ty
 k:ob'.k=ob.k
 l:T.dJ Z h (T.dh ρ ob.l) ob'.l
 kd:(ob.k=eU/\ob.l.all iC=true)\/(ob.k≠eU/\ ∀ t∈ob.l,t.kd=ob.k)
structure Zc(Z:Nat->Prop)(ρ:Nat->Nat)(s s':AS):Prop where
 fr:T.dJ Z s'.hp (T.dh ρ s.fr) s'.fr
 hp: ∀ i ob,s.hp i=some ob-> ∃ ob',s'.hp (ρ i)=some ob'/\ ¬ Z (ρ i)/\Gj Z s'.hp ρ ob ob'
 inj: ∀ i j,(s.hp i).isSome=true->(s.hp j).isSome=true->ρ i=ρ j->i=j
 mf:T.aO (· <s.nx) s.fr
 mh:mD (· <s.nx) s.hp
 pin:s.pin=s'.pin
 le:s'.pin<=s.nx
 fix: ∀ i,i<s.pin->(s.hp i).isSome=true->ρ i=i
def Lh(s s':AS):Prop:= ∃ i k' ty k,s'.fr.getD i .any= .sl k' true []/\yg k=true /\
 s= {s' with fr:=s'.fr.set i (.own s'.nx),hp:=upd s'.hp s'.nx (some ⟨ty,k,[]⟩),nx:=s'.nx+1}
def Lj(s s':AS):Prop:= ∃ j c k' ty k oty cs,s'.hp j=some ⟨oty,cs.length+1,[.agg cs]⟩/\c<cs.length/\cs.getD c .any= .sl k' true []/\yg k=true/\j<s'.nx /\
 s= {s' with hp:=upd (upd s'.hp j (some ⟨oty,cs.length+1,[.agg (cs.set c (.own s'.nx))]⟩)) s'.nx (some ⟨ty,k,[]⟩),nx:=s'.nx+1}
def Qn(s s':AS):Prop:= ∃ j k' ty k oty,s'.hp j=some ⟨oty,0,[.sl k' true []]⟩/\yg k=true/\j<s'.nx /\
 s= {s' with hp:=upd (upd s'.hp j (some ⟨oty,0,[.own s'.nx]⟩)) s'.nx (some ⟨ty,k,[]⟩),nx:=s'.nx+1}
def H6(s s':AS):Prop:= ∃ j i hi ob,s'.fr.getD j .any= .ru i 0 hi/\s'.hp i=some ob/\i<s'.nx/\hi<=ob.l.length/\ob.k≠eU /\
 s= {s' with fr:=s'.fr.set j (.own s'.nx),hp:=upd (upd s'.hp i none) s'.nx (some ⟨ob.ty,ob.k,ob.l.take hi⟩),nx:=s'.nx+1}
structure W9(Z:Nat->Prop)(s s':AS):Prop where
 fr:T.dJ Z s'.hp s.fr s'.fr
 hp: ∀ i ob,s.hp i=some ob-> ∃ ob',s'.hp i=some ob'/\ ¬ Z i/\ob'.ty=ob.ty/\ob'.k=ob.k/\T.dJ Z s'.hp ob.l ob'.l/\ob.l.map T.kd=ob'.l.map T.kd/\ob.l.map iC=ob'.l.map iC
 nx:s.nx=s'.nx
 pin:s.pin=s'.pin
inductive FK:AS->AS->Prop
 |refl (s:AS):FK s s
 |slot {s s' s'':AS}:Lh s' s''->FK s s'->FK s s''
 |cell {s s' s'':AS}:Lj s' s''->FK s s'->FK s s''
 |box {s s' s'':AS}:Qn s' s''->FK s s'->FK s s''
 |take {s s' s'':AS}:H6 s' s''->FK s s'->FK s s''
 |fz {s s' s'':AS} {Z:Nat->Prop}:W9 Z s' s''->FK s s'->FK s s''
def Wk(s s':AS):Prop:= ∃ s1,FK s1 s'/\(s=s1\/ ∃ Z ρ,Zc Z ρ s s1)
def yF(body:(oZ->AS->Prop)->AS->Prop)(Q:oZ->AS->Prop)(s:AS):Prop :=
 ∃ (I:AS->Prop) (μ:AS->Nat),(∃ s₀,Wk s₀ s/\I s₀) /\
  ∀ s,I s->body (fun e s'=>match e with| .normal=> ∃ s₁,Wk s₁ s'/\I s₁/\μ s₁<μ s|e=>Q e s') s
def aw(P:Program):fO->(oZ->AS->Prop)->AS->Prop
 | .skip,Q,s=>Q .normal s
 | .reg dr ops,Q,s=>qP P dr ops.length (Q .normal) ops 0 s
 | .seq a b,Q,s=>aw P a (fun e s'=>match e with| .normal=>aw P b Q s'|e=>Q e s') s
 | .cond c a b,Q,s =>
  match s.ev c with
  | .lit (.bool t)=>(t=true->aw P a Q s)/\(t=false->aw P b Q s)
  |_=>False
 | .blk id b,Q,s=>aw P b (fun e s'=>match e with| .exit j=>(bif j==id then Q .normal s' else Q (.exit j) s')|e=>Q e s') s
 | .exit id,Q,s=>Q (.exit id) s
 | .ret,Q,s=>Q .ret s
 | .loop b,Q,s=>yF (aw P b) Q s
def H7:Value->T
 | .slice none 0 0=>.sl 0 true []
 |v=>.lit v
def yG:Value->T
 | .agg cs=>.agg (cs.toList.map H7)
 |v=>H7 v
def Ll:Value->Bool
 | .agg cs=>cs.all (·.oneCell')
 |_=>true
def aV:Operand->Option X
 | .tmp t=>some (.t t)
 | .const v=>if Ll v then some (.c (yG v)) else none
 | .func f=>if f<4096 then some (.c (.fn f [])) else none
 | .global _=>none
def kindOf(P:Program)(ty:TypeId):Option Nat :=
 match P.info? ty,P.underlying ty with
 |some i,some (.struct _)=>if i.size<1000000 then some (i.size+1) else none
 |some i,some (.array _ _)=>if i.size<1000000 then some (i.size+1) else none
 |some i,some _=>if i.size=1 then some 0 else none
 |_,_=>none
def H8(g:TypeId->Option Nat):List Field->Nat->Option Nat
 |[],off=>some off
 |f::fs,off=>if f.name≠ "_" /\ f.offset=off then(match g f.type with|some n=>H8 g fs (off+n)|none=>none) else none
def yj(P:Program):Nat->TypeId->Option Nat
 |0,_=>none
 |d+1,t=>match P.underlying t,kindOf P t with
  |some (.int .i64),some 0=>some 1
  |some (.struct fs),some k=>if P.stoodInHeld t=false/\P.eqGuardType P.depth t=false then(match H8 (yj P d) fs.toList 0 with|some n=>if k=n+1 then some n else none|none=>none) else none
  |_,_=>none
def zeroOf(P:Program)(ty:TypeId):Option Value:=(P.info? ty).bind (·.zero)
def vW(P:Program)(ty:TypeId)(f:Nat):Option (Nat×Nat) :=
 match P.underlying ty with
 |some (.struct fs)=>match fs[f]? with
  |some fd=>match kindOf P fd.type with
   |some k=>if bC k=0 then none else some (fd.offset,k)
   |none=>none
  |none=>none
 |_=>none
def elemOf(P:Program)(ty:TypeId):Option TypeId :=
 match P.underlying ty with
 |some (.slice e)=>some e
 |_=>none
def jL(z:Value):Bool:=z.cells.all (·.oneCell')
def ku:List (Nat×Operand)->Option (List (Nat×X))
 |[]=>some []
 |(i,x)::r=>match aV x,ku r with
  |some x',some r'=>some ((i,x')::r')
  |_,_=>none
def compFields(P:Program)(ty:TypeId):List (Nat×Operand)->Option (List (Nat×Nat×X))
 |[]=>some []
 |(i,x)::r=>match aV x,vW P ty i,compFields P ty r with
  |some x',some (off,k),some r'=>some ((off,bC k,x')::r')
  |_,_,_=>none
def nU:List Operand->Option (List X)
 |[]=>some []
 |x::r=>match aV x,nU r with
  |some x',some r'=>some (x'::r')
  |_,_=>none
def tq:Option Operand->Option (Option X)
 |none=>some none
 |some x=>(aV x).map some
def o7(P:Program)(b:Builtin)(argTypes:List TypeId)(xs:List X):Option mO :=
 match b,argTypes,xs with
 | .len,t::_,[x] =>
  match P.underlying t with
  |some (.slice _)=>some (.len false x)
  |some .string=>some (.len true x)
  |_=>none
 | .cap,t::_,[x] =>
  match P.underlying t with
  |some (.slice _)=>some (.Le x)
  |_=>none
 | .clear,t::_,[x] =>
  match P.underlying t with
  |some (.slice e)=>match kindOf P e,zeroOf P e with
   |some k,some z=>if jL z/\0<bC k then some (.Qk k (yG z) x) else none
   |_,_=>none
  |_=>none
 | .max,_,[x,y]=>some (.mx x y)
 | .min,_,[x,y]=>some (.mn x y)
 | .append,[t,t'],[x,y] =>
  match P.underlying t,P.underlying t' with
  |some (.slice e),some (.slice e') =>
   match kindOf P e,P.info? e with
   |some k,some i=>match i.zero with
    |some z=>if e=e'/\z.cells.size=bC k/\0<bC k then some (.app e k i.bytes x y) else none
    |none=>none
   |_,_=>none
  |_,_=>none
 |_,_,_=>none
def isRow:Value->Bool
 | .slice _ _ _=>true
 |_=>false
def aa8(z:Value):Bool:=z.cells.any isRow
def qp(P:Program)(nd:Bool):Op->Option mO
 | .move x=>(aV x).map .mv
 | .assign x=>(aV x).map .mv
 | .pick c a b=>match aV c,aV a,aV b with
  |some c,some a,some b=>some (.pick c a b)
  |_,_,_=>none
 | .binOp op t x y _=>match aV x,aV y with
  |some x,some y=>match P.underlying t with
   |some (.int _)=>some (.bin op x y)
   |some .string=>some (.bin op x y)
   |some .bool=>match op with
    | .eql=>some (.bb false x y)
    | .neq=>some (.bb true x y)
    |_=>none
   |some (.struct _)=>match yj P 20 t,op with
    |some n,.eql=>some (.eqs false n x y)
    |some n,.neq=>some (.eqs true n x y)
    |_,_=>none
   |some (.slice _)=>match op,y with
    | .eql,.c (.sl 0 true [])=>some (.y9 x)
    |_,_=>none
   |_=>none
  |_,_=>none
 | .makeMap t none=>match P.underlying t with
  |some (.map _ _)=>some (.Um t)
  |_=>none
 | .lookup t x i true=>match aV x,aV i,P.underlying t with
  |some x,some i,some (.map kt et)=>match P.underlying kt,zeroOf P et,kindOf P et with
   |some (.int .i64),some z,some 0=>some (.Za (H7 z) x i)
   |_,_,_=>none
  |_,_,_=>none
 | .makeInterface _ _=>some .bot
 | .panic _=>some .bot
 | .mapUpdate t x i v=>match aV x,aV i,aV v,P.underlying t with
  |some x,some i,some v,some (.map kt _)=>match P.underlying kt with
   |some (.int .i64)=>some (.NQ x i v)
   |_=>none
  |_,_,_,_=>none
 | .unOp .not _ x=>(aV x).map .not
 | .convert src dst x=>match aV x,P.underlying src,P.underlying dst with
  |some x,some _,some (.int k)=>some (.conv k x)
  |_,_,_=>none
 | .fieldAddr ty x f=>match aV x,vW P ty f with
  |some x,some (off,k)=>some (.fa off k x)
  |_,_=>none
 | .field ty x f=>match aV x,vW P ty f with
  |some x,some (off,k)=>some (.fv off k x)
  |_,_=>none
 | .indexAddr ty x i=>match aV x,aV i,elemOf P ty with
  |some x,some i,some e=>(kindOf P e).map fun k=>.ia k x i
  |_,_,_=>none
 | .index ty x i=>match aV x,aV i,P.underlying ty with
  |some x,some i,some .string=>some (.ch x i)
  |_,_,_=>none
 | .load ty x=>match aV x,kindOf P ty with
  |some x,some k=>some (.ld k x)
  |_,_=>none
 | .store ty x v=>match aV x,aV v,kindOf P ty with
  |some x,some v,some k=>some (.st k x v)
  |_,_,_=>none
 | .nilCheck x=>(aV x).map .nc
 | .build ty ps=>match P.underlying ty,zeroOf P ty,compFields P ty ps.toList with
  |some (.struct fs),some (.agg cs),some ps =>
   if jL (.agg cs)/\(fs.toList.mapM (fun f=>(P.info? f.type).map fun i=>(f.offset,i.size))).isSome=true then some (.mk (cs.toList.map H7) ps) else none
  |some (.array _ e),some (.agg cs),_=>match ku ps.toList,kindOf P e with
   |some ps,some 0=>if jL (.agg cs) then some (.mk (cs.toList.map H7) (ps.map fun p=>(p.1,1,p.2))) else none
   |_,_=>none
  |_,_,_=>none
 | .buildSlice ty n ps=>match elemOf P ty,ku ps.toList with
  |some e,some ps=>match kindOf P e,zeroOf P e with
   |some k,some z=>if jL z/\(yG z).kd=k then(if nd=true/\aa8 z=true then some (.FI e k (yG z) n ps) else some (.ms e k (yG z) n ps)) else none
   |_,_=>none
  |_,_=>none
 | .slice ty x lo hi mx=>match aV x,tq lo,tq hi,tq mx with
  |some x,some lo,some hi,some mx=>match P.underlying ty with
   |some (.slice e)=>(kindOf P e).map fun k=>bif nd then .Pm k x lo hi mx else .sl k x lo hi mx
   |some .string=>match mx with
    |none=>some (.ss x lo hi)
    |some _=>none
   |some (.array n e)=>match lo,hi,mx,kindOf P e with
    |none,none,none,some 0=>some (.sa n x)
    |_,_,_,_=>none
   |_=>none
  |_,_,_,_=>none
 | .extract x i=>(aV x).map fun x=>.ex x i
 | .makeFunc (.func f) first cap=>if first.size=0 then(nU cap.toList).map fun c=>.mf f c else
   match first.toList,cap.toList with
   |[x],[]=>(aV x).map fun x=>.mb f x
   |_,_=>none
 | .box ty x=>match aV x,kindOf P ty with
  |some x,some k=>some (.box ty k x)
  |_,_=>none
 | .alloc ty=>match kindOf P ty,zeroOf P ty with
  |some k,some z=>if jL z then some (.al ty k (yG z)) else none
  |_,_=>none
 | .makeSlice ty n c=>match aV n,aV c,elemOf P ty with
  |some n,some c,some e=>match kindOf P e,P.info? e with
   |some k,some i=>match i.zero with
    |some z=>if jL z then some (.make e k i.bytes (yG z) n c) else none
    |none=>none
   |_,_=>none
  |_,_,_=>none
 | .call c=>match nU c.args.toList with
  |some xs=>match c.callee with
   | .value (.func f)=>some (.call f xs)
   | .value x=>(aV x).map fun x=>.jD x xs
   | .builtin b=>o7 P b c.argTypes.toList xs
   | .invoke _ _=>none
  |none=>none
 |_=>none
theorem addr_add(b off n:Nat):(⟨b,off,none⟩:Addr).add n=⟨b,off+n,none⟩:=by
 unfold Addr.add; split<;>simp_all
theorem Lm{w:World}{b:Nat}{cur:Array Value}{e:TypeId}{m:Nat×Nat}(h:w.heap[b]? =some (.cells cur e m))(off:Nat) :
  w.cell? ⟨b,off,none⟩=cur[off]? :=by
 simp[World.cell?,h]
section kinds
variable {P:Program} {ty k:Nat} {w:World}
theorem uj(h:kindOf P ty=some k): ∃ i d,P.info? ty=some i/\P.underlying ty=some d/\i.size=bC k /\
  ((match d with| .struct _=>true| .array _ _=>true|_=>false)=(k !=0)):=by
 unfold kindOf at h
 split at h
 ·rename_i i fs h1 h2
  split at h
  ·cases h; exact⟨i,_,h1,h2,rfl,by simp⟩
  ·cases h
 ·rename_i i n e h1 h2
  split at h
  ·cases h; exact⟨i,_,h1,h2,rfl,by simp⟩
  ·cases h
 ·rename_i i d hs ha h1 h2
  split at h
  ·cases h
   refine⟨i,d,h1,h2,by simpa [bC],?_⟩
   cases d<;>simp_all
  ·cases h
 ·cases h
theorem zk(h:kindOf P ty=some k):k≠eU:=by
 unfold kindOf at h
 split at h
 ·split at h
  ·cases h; simp only[eU]; omega
  ·cases h
 ·split at h
  ·cases h; simp only[eU]; omega
  ·cases h
 ·split at h
  ·cases h; simp only[eU]; omega
  ·cases h
 ·cases h
theorem gK(h:kindOf P ty=some k):(sizeOf ty).run P w= .ok (bC k) w:=by
 obtain⟨i,d,h1,_,h3,_⟩:=uj h
 simp[sizeOf,typeInfo,h1,h3]
theorem uZ(h:kindOf P ty=some k):(isAgg ty).run P w= .ok (k !=0) w:=by
 obtain⟨i,d,_,h2,_,h4⟩:=uj h
 rw[<- h4]
 simp only[isAgg,underlying]
 cases d<;>simp[h2]
theorem Dh(h:kindOf P ty=some k){b off:Nat}{cur:Array Value}{e:TypeId}{m:Nat×Nat}(hh:w.heap[b]? =some (.cells cur e m))
  (hl:off+bC k<=cur.size) :
  (k≠0->(loadVar ty ⟨b,off,none⟩).run P w= .ok (.agg ((cur.toList.drop off).take (bC k)).toArray) w) /\
  (k=0-> ∃ v,cur[off]? =some v/\(loadVar ty ⟨b,off,none⟩).run P w= .ok v w):=by
 constructor
 ·intro hk
  have hlen:((cur.toList.drop off).take (bC k)).length=bC k:=by simp; omega
  have hc:=run_loadCells_list (P:=P) w ⟨b,off,none⟩ ((cur.toList.drop off).take (bC k)) (fun j v hv=>by
   rw[addr_add,Lm hh]
   by_cases hj:j<bC k
   ·rw[List.getElem?_take_of_lt hj,List.getElem?_drop] at hv; simpa using hv
   ·rw[List.getElem?_take_eq_none (by omega)] at hv; cases hv)
  rw[hlen] at hc
  have hk':(k !=0)=true:=by simpa using hk
  simp only[loadVar,Sem.run_bind,uZ h,Result.andThen_ok,hk',if_true,gK h,hc,Sem.run_pure]
 ·rintro rfl
  simp only[bC] at hl
  have hv:cur[off]? =some (cur[off]'(by omega)):=by simp
  refine⟨_,hv,?_⟩
  simp only[loadVar,Sem.run_bind,uZ h,Result.andThen_ok]
  simp[load,Sem.run,Lm hh,hv]
end kinds
section ops
variable {P:Program} {F:Fr P} {M:Nat->Prop} {E:Env} {s:AS} {a:Act}
theorem Di{v:Value}:aJ E (H7 v) [v]:=by
 unfold H7
 split
 ·exact⟨none,0,rfl,by simp,by simp,.inl rfl⟩
 ·simp[aJ]
theorem H9(v:Value):(H7 v).kd=0:=by unfold H7; split<;>rfl
theorem Aa: ∀ {vs:List Value},(∀ v∈vs,v.oneCell'=true)->aW E (vs.map H7) vs:=by
 intro vs
 induction vs with
 |nil=>intro _; simp[aW]
 |cons v vs ih =>
  intro h
  simp only[List.map_cons,aW]
  exact⟨H9 v,v,vs,rfl,h v (by simp),Di,ih fun u hu=>h u (by simp[hu])⟩
theorem Qo{v:Value}(h: ∀ cs,v≠ .agg cs):yG v=H7 v:=by
 cases v<;>first|rfl|exact absurd rfl (h _)
theorem Xa{v:Value}(h:Ll v=true):je E (yG v) v:=by
 cases v with
 |agg cs =>
  rw[yG,xq]
  exact⟨cs,rfl,Aa fun u hu=>by
   simp only[Ll,Array.all_eq_true_iff_forall_mem] at h
   exact h u (by simpa using hu)⟩
 |_=>rw[Qo (by intro cs hcs; cases hcs)]; exact .inr ⟨H9 _,Di⟩
theorem Dj(v:Value):(H7 v).ids (fun _=>False):=by unfold H7; split<;>simp[T.ids]
theorem Zd(v:Value):(yG v).ids (fun _=>False):=by
 cases v with
 |agg cs=>simp only[yG,T.ids]; exact bQ.2 fun t ht=>by obtain⟨u,_,rfl⟩:=List.mem_map.1 ht; exact Dj u
 |_=>rw[Qo (by intro cs hcs; cases hcs)]; exact Dj _
theorem Qp{f:FuncId}(h:f<4096){cs:Array Value}:WX f cs= .func (.func f) #[] cs:=by
 unfold WX; rw[Nat.blt_eq.mpr h]; rfl
theorem RX{f:FuncId}(h: ¬ f<4096){cs:Array Value}:WX f cs= .func (.func (f % 4096)) #[.agg cs] #[]:=by
 unfold WX
 have:Nat.blt f 4096=false:=by
  cases h':Nat.blt f 4096 with
  |false=>rfl
  |true=>rw[Nat.blt_eq] at h'; exact absurd h' h
 rw[this]; rfl
theorem aa9{f:FuncId}(h:f<4096){cs:Array Value}:WX (f+4096) cs= .func (.func f) #[.agg cs] #[]:=by
 rw[RX (fun q=>Nat.not_lt_of_le (Nat.le_add_left 4096 f) q)]
 have e:(f+4096) % 4096=f:=by rw[Nat.add_mod_right]; exact Nat.mod_eq_of_lt h
 rw[e]
theorem Ew(f:FuncId)(cs:Array Value):(f<4096/\WX f cs= .func (.func f) #[] cs)\/(¬ f<4096/\WX f cs= .func (.func (f % 4096)) #[.agg cs] #[]):=by
 by_cases h:f<4096
 ·exact .inl ⟨h,Qp h⟩
 ·exact .inr ⟨h,RX h⟩
theorem bI(R:Rel F M E s a){x:Operand}{x':X}(h:aV x=some x'):je E (s.ev x') (a.eval x):=by
 cases x with
 |tmp t =>
  cases h
  have:=uU R.fr t
  simpa [AS.ev,Act.eval] using this
 |const v =>
  simp only[aV] at h
  split at h
  ·cases h; exact Xa (by assumption)
  ·cases h
 |global g=>cases h
 |func f =>
  simp only[aV] at h
  split at h
  ·rename_i hf
   cases h
   exact .inr ⟨rfl,by simp only[AS.ev,aJ,Act.eval]; exact .inl ⟨Nat.blt_eq.mpr (Nat.lt_trans hf (by decide)),#[],by rw[Qp hf],rfl⟩⟩
  ·cases h
theorem jY(R:Rel F M E s a){x:Operand}{x':X}(h:aV x=some x'):(s.ev x').ids M:=by
 cases x with
 |tmp t=>cases h; exact uf R.mf (by simp[T.ids])
 |const v =>
  simp only[aV] at h
  split at h
  ·cases h; exact T.bG (fun _ hf=>hf.elim) _ (Zd v)
  ·cases h
 |global g=>cases h
 |func f =>
  simp only[aV] at h
  split at h
  ·cases h; simp[AS.ev,T.ids,T.aO]
  ·cases h
def pF(P:Program)(E:Env)(a:Act)(o:Oper)(t:T):Prop :=
 ∃ v,(execOp a.eval o).run P E.w= .ok (.value v) E.w/\je E t v
theorem acI(R:Rel F M E s a){x:Operand}{x':X}(hx:aV x=some x'){o:Oper}(ho:o.op= .move x\/o.op= .assign x):pF P E a o (s.ev x'):=by
 refine⟨_,?_,bI R hx⟩
 rcases ho with ho|ho<;>simp[execOp,ho]
theorem FV{t:T}(h:isBool t=true): ∃ b,t= .lit (.bool b):=by
 unfold isBool at h; split at h
 ·exact⟨_,rfl⟩
 ·cases h
theorem abb(R:Rel F M E s a){c x y:Operand}{c' x' y':X}(hc:aV c=some c')(hx:aV x=some x')(hy:aV y=some y'){o:Oper}
  (ho:o.op= .pick c x y) (h:qc s (.pick c' x' y')):pF P E a o (qt s (.pick c' x' y')):=by
 have rc:=bI R hc; have rx:=bI R hx; have ry:=bI R hy
 obtain⟨b,hb⟩:=FV h
 rw[hb,aK] at rc
 refine⟨if b then a.eval x else a.eval y,?_,?_⟩
 ·simp[execOp,ho,rc,asBool]
 ·simp only[qt,hb,zf]
  split
  ·rename_i e1 e2; rw[e1,aK] at rx; rw[e2,aK] at ry; rw[rx,ry,aK]; cases b<;>rfl
  ·cases b<;>simpa
theorem abd{k k':IntKind}(h:YC k k'=true):k=k':=by cases k<;>cases k'<;>first|rfl|cases h
theorem Ze{op:BinOp}{u v r:Value}(h:Ar op u v=some r)(t:TypeId)(x y:Operand)(w:World) :
  (do eqGuard op t x y u v; binOp op t u v:Sem Value).run P w= .ok r w:=by
 unfold Ar at h
 split at h
 ·rename_i k c k' d
  by_cases hsh:op= .shr
  ·subst hsh
   have hg:eqGuard BinOp.shr t x y (.int k c) (.int k' d)=pure ():=by unfold eqGuard; rfl
   rw[hg]
   have h':(bif decide (0<=d) then some (Value.int k (c.fdiv (2 ^ min d.toNat k.bits))) else none)=some r:=by cases hk:YC k k'<;>rw[hk] at h<;>exact h
   by_cases hd:0<=d
   ·simp only[hd,decide_true,cond_true,Option.some.injEq] at h'
    subst h'
    have hd': ¬ d<0:=by omega
    simp[binOp,Op.shift,hd']
   ·simp[hd] at h'
  cases hk:YC k k' with
  |false=>rw[hk] at h; cases op<;>first|(exact absurd rfl hsh)|(simp at h)
  |true =>
   have:=abd hk
   subst this
   have hg:eqGuard op t x y (.int k c) (.int k d)=pure ():=by
    unfold eqGuard; cases op<;>rfl
   rw[hg]
   rw[hk] at h
   by_cases hr:op= .rem
   ·subst hr
    by_cases hd:d=0
    ·simp[hd] at h
    ·simp only[hd,decide_false,cond_false,Option.some.injEq] at h
     subst h
     simp[binOp,Op.intDiv,hd]
   cases op<;>first|(exact absurd rfl hsh)|(exact absurd rfl hr)|(simp at h<;>subst h<;>simp[binOp,Op.intArith,Op.intCmp,Op.intBits,aa6])
 ·rename_i c d
  have hg:eqGuard op t x y (.string c) (.string d)=pure ():=by
   unfold eqGuard; cases op<;>rfl
  rw[hg]
  by_cases ha:op= .add
  ·subst ha
   by_cases hs:(((c.size+d.size:Nat):Int)<=9223372036854775807)
   ·simp only[hs,decide_true,cond_true,Option.some.injEq] at h
    subst h
    have hn: ¬ (((c.size+d.size:Nat):Int)>IntKind.i64.max):=by
     have:IntKind.i64.max=9223372036854775807:=by decide
     rw[this]; omega
    show Sem.run P (do pure (); if((c.size+d.size:Nat):Int)>IntKind.i64.max then _ else pure (Value.string (c++d))) w=_
    rw[if_neg hn]; rfl
   ·simp only[hs,decide_false,cond_false] at h; cases h
  cases op<;>first|(exact absurd rfl ha)|(simp at h<;>subst h<;>simp[binOp,Op.stringOp])
 ·cases h
theorem aaw(R:Rel F M E s a){op:BinOp}{t ty':TypeId}{x y:Operand}{x' y':X}(hx:aV x=some x')(hy:aV y=some y'){o:Oper}
  (ho:o.op= .binOp op t x y ty') (h:qc s (.bin op x' y')):pF P E a o (qt s (.bin op x' y')):=by
 have rx:=bI R hx; have ry:=bI R hy
 simp only[qc] at h
 split at h
 ·rename_i u v e1 e2
  rw[e1,aK] at rx; rw[e2,aK] at ry
  cases hb:Ar op u v with
  |none=>rw[hb] at h; cases h
  |some r =>
   refine⟨r,?_,?_⟩
   ·simp only[execOp,ho,rx,ry]
    have:=Ze (P:=P) hb t x y E.w
    simp only[Sem.run_bind] at this ⊢
    rw[this]; rfl
   ·simp only[qt,e1,e2,hb,aK]
 ·exact h.elim
theorem acJ(R:Rel F M E s a){op:BinOp}{t ty':TypeId}{ne:Bool}{x y:Operand}{x' y':X}(hx:aV x=some x')(hy:aV y=some y'){o:Oper}
  (ho:o.op= .binOp op t x y ty') (hop:op=if ne then .neq else .eql) (ht:P.underlying t=some .bool) (h:qc s (.bb ne x' y')):pF P E a o (qt s (.bb ne x' y')):=by
 have rx:=bI R hx; have ry:=bI R hy
 simp only[qc,Bool.and_eq_true] at h
 obtain⟨b,hb⟩:=FV h.1
 obtain⟨c,hc⟩:=FV h.2
 rw[hb,aK] at rx; rw[hc,aK] at ry
 refine⟨.bool (bif ne then !(b==c) else b==c),?_,by simp only[qt,hb,hc,aK]⟩
 have heq:(Op.equal t (.bool b) (.bool c)).run P E.w= .ok (b==c) E.w:=by
  have h: ∀ d,(Op.equalIn (d+1) t (.bool b) (.bool c)).run P E.w= .ok (b==c) E.w:=fun d=>by
   simp only[Op.equalIn,underlying,Sem.run_bind,run_program,Result.andThen_ok,ht,Sem.run_pure]
  exact h 9999
 have hg:eqGuard op t x y (.bool b) (.bool c)=pure ():=by
  unfold eqGuard; cases op<;>rfl
 cases ne
 ·simp only[hop,Bool.false_eq_true,if_false] at ho hg ⊢
  simp only[execOp,ho,rx,ry,hg,binOp,Sem.run_bind,Sem.run_pure,Result.andThen_ok,heq,cond_false]
 ·simp only[hop,if_true] at ho hg ⊢
  simp only[execOp,ho,rx,ry,hg,binOp,Sem.run_bind,Sem.run_pure,Result.andThen_ok,heq,cond_true]
theorem acK(R:Rel F M E s a){t:TypeId}{x:Operand}{x':X}(hx:aV x=some x'){o:Oper}
  (ho:o.op= .unOp .not t x) (h:qc s (.not x')):pF P E a o (qt s (.not x')):=by
 have rx:=bI R hx
 obtain⟨b,hb⟩:=FV h
 rw[hb,aK] at rx
 exact⟨.bool !b,by simp[execOp,ho,rx,Op.unary],by simp only[qt,hb,aK]⟩
theorem abe(R:Rel F M E s a){src dst:TypeId}{k:IntKind}{d:TypeDesc}{x:Operand}{x':X}(hx:aV x=some x'){o:Oper}
  (ho:o.op= .convert src dst x) (h1:P.underlying src=some d) (h2:P.underlying dst=some (.int k)) (h:qc s (.conv k x')):pF P E a o (qt s (.conv k x')):=by
 have rx:=bI R hx
 simp only[qc] at h
 split at h
 ·rename_i k' n e1
  rw[e1,aK] at rx
  refine⟨.int k (k.wrap n),?_,by simp only[qt,e1,aK]⟩
  simp[execOp,ho,rx,convert,underlying,h1,h2,Conv.intToInt]
 ·exact h.elim
theorem Bz{ty f off k:Nat}(h:vW P ty f=some (off,k)): ∃ fs fd,P.underlying ty=some (.struct fs)/\fs[f]? =some fd/\kindOf P fd.type=some k/\bC k≠0/\fd.offset=off:=by
 unfold vW at h
 split at h
 ·rename_i fs h1
  split at h
  ·rename_i fd h2
   split at h
   ·rename_i k' h3
    split at h
    ·cases h
    ·rename_i h4; cases h; exact⟨fs,fd,h1,h2,h3,h4,rfl⟩
   ·cases h
  ·cases h
 ·cases h
theorem EY{ty f off k:Nat}(h:vW P ty f=some (off,k))(b o:Nat)(w:World) :
  (Instr.fieldAt ty (.pointer (some ⟨b,o,none⟩)) f).run P w= .ok (.pointer (some ⟨b,o+off,none⟩)) w:=by
 obtain⟨fs,fd,h1,h2,h3,h4,rfl⟩:=Bz h
 simp only[Instr.fieldAt,underlying,Sem.run_bind,run_program,Result.andThen_ok,h1,Sem.run_pure,h2,Instr.sureAddr,fieldPlace,gK h3,h4,if_false,addr_add]
theorem adL(R:Rel F M E s a){ty f off k:Nat}{x:Operand}{x':X}(hx:aV x=some x'){o:Oper}
  (ho:o.op= .fieldAddr ty x f) (hf:vW P ty f=some (off,k)) (h:qc s (.fa off k x')):pF P E a o (qt s (.fa off k x')):=by
 have rx:=bI R hx
 simp only[qc] at h
 split at h
 ·rename_i i j oo e1
  rw[e1,aA rfl] at rx
  simp only[aJ] at rx
  obtain⟨u,hu,hlive⟩:=rx
  obtain⟨b,n,c,hφ,hu'⟩:=hlive (by rw[R.he]; exact h)
  have ha:a.eval x= .pointer (some ⟨b,j*bC (E.κ i)+oo,none⟩):=by rw[<- hu']; simpa using hu
  refine⟨.pointer (some ⟨b,j*bC (E.κ i)+oo+off,none⟩),?_,?_⟩
  ·simp[execOp,ho,ha,EY hf]
  ·simp only[qt,e1]
   rw[aA rfl]
   simp only[aJ]
   exact⟨_,rfl,fun _=>⟨b,n,c,hφ,by rw[Nat.add_assoc]⟩⟩
 ·rename_i kt t e1
  rw[e1,aA rfl] at rx
  simp only[aJ] at rx
  obtain⟨b,off',cur,e,m,hu,hS,hh,hk,hid,hl,hr⟩:=rx
  simp only[Bool.and_eq_true,Bool.not_eq_true',beq_eq_false_iff_ne,ne_eq] at h
  have ha:a.eval x= .pointer (some ⟨b,off',none⟩):=by simpa using hu
  have hkt:t.kd≠0:=by rw[hk]; exact h.1
  have hp:=Es hr hkt (off:=off) (k:=k) (by rw[<- ng,hk]; exact h.2)
  refine⟨.pointer (some ⟨b,off'+off,none⟩),?_,?_⟩
  ·simp[execOp,ho,ha,EY hf]
  ·simp only[qt,e1]
   rw[aA rfl]
   simp only[aJ]
   refine⟨b,off'+off,cur,e,m,rfl,hS,hh,hp.2.1,Ht hid _ _,?_,?_⟩
   ·have:=hp.2.2
    simp only[List.length_take,List.length_drop] at this hl ⊢; omega
   ·have h1:=hp.1
    rw[List.drop_take,List.take_take,List.drop_drop] at h1
    have h2:=h.2
    simp only[mZ,Nat.ble_eq] at h2
    rw[Nat.min_eq_left (by omega)] at h1
    exact h1
 ·exact h.elim
theorem adM(R:Rel F M E s a){ty f off k:Nat}{x:Operand}{x':X}(hx:aV x=some x'){o:Oper}
  (ho:o.op= .field ty x f) (hf:vW P ty f=some (off,k)) (h:qc s (.fv off k x')):pF P E a o (qt s (.fv off k x')):=by
 have rx:=bI R hx
 obtain⟨fs,fd,h1,h2,h3,h4,rfl⟩:=Bz hf
 simp only[qc,Bool.and_eq_true,Bool.not_eq_true',beq_eq_false_iff_ne,ne_eq] at h
 obtain⟨hk,hp⟩:=h
 rcases rx with ⟨_,cs,ha,hr⟩|⟨hk',_⟩
 ·have hpt:=Es hr hk (off:=fd.offset) (k:=k) (by rw[<- ng]; exact hp)
  have hlen:=hpt.2.2
  simp only[Array.length_toList] at hlen
  simp only[pF,qt]
  cases k with
  |zero =>
   simp only[bC] at hlen hpt
   have hget:cs[fd.offset]? =some (cs[fd.offset]'(by omega)):=by simp
   refine⟨cs[fd.offset]'(by omega),?_,?_⟩
   ·simp only[execOp,ho,ha,Instr.field,underlying,Sem.run_bind,run_program,Result.andThen_ok,h1,Sem.run_pure,h2,asAgg,part,uZ h3]
    simp[hget]
   ·refine .inr ⟨hpt.2.1,?_⟩
    have:=hpt.1
    rw[List.drop_eq_getElem_cons (by simp; omega),List.take_succ_cons,List.take_zero] at this
    simpa using this
  |succ m =>
   refine⟨.agg (cs.extract fd.offset (fd.offset+m)),?_,?_⟩
   ·have hz:(sizeOf fd.type).run P E.w= .ok m E.w:=gK h3
    simp only[execOp,ho,ha,Instr.field,underlying,Sem.run_bind,run_program,Result.andThen_ok,h1,Sem.run_pure,h2,asAgg,part,uZ h3]
    simp[hz]
   ·refine .inl ⟨by rw[hpt.2.1]; simp,_,rfl,?_⟩
    have:=hpt.1
    simp only[bC] at this
    rw[Array.toList_extract,List.extract_eq_take_drop,Nat.add_sub_cancel_left]
    exact this
 ·exact absurd hk' hk
theorem um{ty e:Nat}(h:elemOf P ty=some e):P.underlying ty=some (.slice e):=by
 unfold elemOf at h
 split at h
 ·rename_i e' h1; cases h; exact h1
 ·cases h
theorem run_indexAt{ty e k:Nat}(he:elemOf P ty=some e)(hk:kindOf P e=some k){b off len cap:Nat}{kd:IntKind}{n:Int}(h0:0<=n)(h1:n<len)(w:World) :
  (Instr.indexAt ty (.slice (some ⟨b,off,none⟩) len cap) (.int kd n)).run P w= .ok (.pointer (some ⟨b,off+n.toNat*bC k,none⟩)) w:=by
 have hu:=um he
 simp[Instr.indexAt,asIntOf,underlying,hu,h0,h1,gK hk,addr_add]
theorem adN(R:Rel F M E s a){ty e k:Nat}{x i:Operand}{x' i':X}(hx:aV x=some x')(hi:aV i=some i'){o:Oper}
  (ho:o.op= .indexAddr ty x i) (he:elemOf P ty=some e) (hk:kindOf P e=some k) (h:qc s (.ia k x' i')):pF P E a o (qt s (.ia k x' i')):=by
 have rx:=bI R hx; have ri:=bI R hi
 simp only[qc] at h
 split at h
 ·rename_i k' full l kd n e1 e2
  obtain⟨rfl,h0,h1⟩:=h
  rw[e2,aK] at ri
  rw[e1,aA rfl] at rx
  simp only[aJ] at rx
  obtain⟨ad,c,hu,hlc,hfull,hrow⟩:=rx
  have hne:l≠[]:=by rintro rfl; simp at h1; omega
  obtain⟨b,off,cur,te,m,rfl,hS,hh,hid,hr⟩:=hrow.resolve_left hne
  have ha:a.eval x= .slice (some ⟨b,off,none⟩) l.length c:=by simpa using hu
  have hg:=vV hr (j:=n.toNat) (by omega)
  refine⟨.pointer (some ⟨b,off+n.toNat*bC k',none⟩),?_,?_⟩
  ·simp[execOp,ho,ha,ri,run_indexAt he hk h0 h1]
  ·simp only[qt,e1,e2]
   rw[aA rfl]
   simp only[aJ]
   refine⟨b,_,cur,te,m,rfl,hS,hh,hg.1,uf hid (by simp[T.ids]),?_,?_⟩
   ·have:=hg.2.1
    simp only[List.length_drop] at this ⊢; omega
   ·rw[<- List.drop_drop]; exact hg.2.2.2
 ·rename_i oo kd n e1 e2
  split at h
  ·rename_i ob hob
   obtain⟨rfl,h0,h1⟩:=h
   rw[e2,aK] at ri
   rw[e1,aA rfl] at rx
   simp only[aJ] at rx
   obtain⟨u,hu,hlive⟩:=rx
   have dS:E.h oo=some ob:=by rw[R.he]; exact hob
   have hφ:=hlive (by rw[dS]; rfl)
   obtain⟨hok,Cm,hsz⟩:=R.hk.obs oo ob dS
   have ha:a.eval x=E.φ oo:=by rw[<- hφ]; simpa using hu
   rcases hok.row (zk hk) with ⟨ad,_,hnil⟩|⟨g,c,cur,hv,hc,_,hh,hcs,hr⟩
   ·rw[hnil] at h1; simp at h1; omega
   ·refine⟨.pointer (some ⟨g,0+n.toNat*bC ob.k,none⟩),?_,?_⟩
    ·simp[execOp,ho,ha,hv,ri,run_indexAt he hk h0 h1]
    ·simp only[qt,e1,e2]
     rw[aA rfl]
     simp only[aJ]
     exact⟨_,rfl,fun _=>⟨g,_,_,hv,by rw[Cm]; simp⟩⟩
  ·exact h.elim
 ·rename_i oo lo hi' kd n e1 e2
  split at h
  ·rename_i ob hob
   obtain⟨rfl,h0,h1⟩:=h
   rw[e2,aK] at ri
   rw[e1,aA rfl] at rx
   simp only[aJ] at rx
   obtain⟨u,hu,hlive⟩:=rx
   have dS:E.h oo=some ob:=by rw[R.he]; exact hob
   obtain⟨ad,m,c,hφ,hl1,hl2,hl3,hu'⟩:=hlive (by rw[dS]; rfl)
   obtain⟨hok,Cm,hsz⟩:=R.hk.obs oo ob dS
   have ha:a.eval x=u:=by simpa using hu
   rcases hok.row (zk hk) with ⟨ad',hv,hnil⟩|⟨g,c',cur,hv,hc,_,hh,hcs,hr⟩
   ·rw[hφ] at hv; simp at hv; omega
   ·rw[hφ] at hv
    simp only[Value.slice.injEq] at hv
    obtain⟨rfl,rfl,rfl⟩:=hv
    rw[if_neg (by omega),Cm] at hu'
    simp only[Option.map_some,addr_add,Nat.zero_add] at hu'
    have h1':n<((hi'-lo:Nat):Int):=h1
    refine⟨.pointer (some ⟨g,lo*bC ob.k+n.toNat*bC ob.k,none⟩),?_,?_⟩
    ·simp[execOp,ho,ha,hu',ri,run_indexAt he hk h0 h1']
    ·simp only[qt,e1,e2]
     rw[aA rfl]
     simp only[aJ]
     exact⟨_,rfl,fun _=>⟨g,_,_,hφ,by rw[Cm]; simp[Nat.add_mul]⟩⟩
  ·exact h.elim
 ·exact h.elim
theorem adO(R:Rel F M E s a){ty:Nat}{x i:Operand}{x' i':X}(hx:aV x=some x')(hi:aV i=some i'){o:Oper}
  (ho:o.op= .index ty x i) (ht:P.underlying ty=some .string) (h:qc s (.ch x' i')):pF P E a o (qt s (.ch x' i')):=by
 have rx:=bI R hx; have ri:=bI R hi
 simp only[qc] at h
 split at h
 ·rename_i b kd n e1 e2
  rw[e1,aK] at rx; rw[e2,aK] at ri
  obtain⟨h0,h1⟩:=h
  have hlt:n.toNat<b.size:=by omega
  have hb:b[n.toNat]? =some (b[n.toNat]'hlt):=by simp[getElem?_pos,hlt]
  refine⟨.int .u8 (b[n.toNat]'hlt).toNat,?_,?_⟩
  ·simp[execOp,ho,rx,ri,Instr.index,asIntOf,underlying,ht,h0,hb]
  ·simp only[qt,e1,e2,aK]
   have:b.data.getD n.toNat 0=b[n.toNat]'hlt:=by
    rw[Array.getD_eq_getD_getElem?,Array.getElem?_eq_getElem (by simpa using hlt)]; rfl
   rw[this]
 ·exact h.elim
theorem q_ld(R:Rel F M E s a){ty k:Nat}{x:Operand}{x':X}(hx:aV x=some x'){o:Oper}
  (ho:o.op= .load ty x) (hk:kindOf P ty=some k) (h:qc s (.ld k x')):pF P E a o (qt s (.ld k x')):=by
 have rx:=bI R hx
 have key: ∀ (t:T) (b off:Nat) (cur:Array Value) (e:TypeId) (m:Nat×Nat),E.w.heap[b]? =some (.cells cur e m)->0<bC k->t.kd=k ->
   off+bC k<=cur.size->aJ E t ((cur.toList.drop off).take (bC k))->a.eval x= .pointer (some ⟨b,off,none⟩)->pF P E a o t:=by
  intro t b off cur e m hh hpos hkd hl hr ha
  obtain⟨g1,g2⟩:=Dh (P:=P) (w:=E.w) hk hh hl
  by_cases h0:k=0
  ·obtain⟨v,hv,hrun⟩:=g2 h0
   refine⟨v,by simp[execOp,ho,ha,Instr.loadAt,Instr.sureAddr,hrun],.inr ⟨by rw[hkd,h0],?_⟩⟩
   subst h0
   simp only[bC] at hr hl
   rw[List.drop_eq_getElem_cons (by simp; omega),List.take_succ_cons,List.take_zero] at hr
   have:cur.toList[off]'(by simp; omega)=v:=by
    rw[Array.getElem?_eq_some_iff] at hv; obtain⟨_,hv⟩:=hv; simpa using hv
   rwa [this] at hr
  ·exact⟨_,by simp[execOp,ho,ha,Instr.loadAt,Instr.sureAddr,g1 h0]; rfl,.inl ⟨by rw[hkd]; exact h0,_,rfl,by simpa using hr⟩⟩
 simp only[qc] at h
 split at h
 ·rename_i k' t e1
  simp only[Bool.and_eq_true,beq_iff_eq,Nat.blt_eq] at h
  obtain⟨rfl,hpos⟩:=h
  rw[e1,aA rfl] at rx
  simp only[aJ] at rx
  obtain⟨b,off,cur,e,m,hu,hS,hh,hkd,hid,hl,hr⟩:=rx
  simp only[List.length_drop,Array.length_toList] at hl
  simp only[qt,e1]
  exact key t b off cur e m hh hpos hkd (by omega) hr (by simpa using hu)
 ·rename_i i j off e1
  split at h
  ·rename_i ob hob
   obtain⟨hj,hcond⟩:=h
   rw[e1,aA rfl] at rx
   simp only[aJ] at rx
   obtain⟨u,hu,hlive⟩:=rx
   have dS:E.h i=some ob:=by rw[R.he]; exact hob
   obtain⟨b,n,c,hφ,hu'⟩:=hlive (by rw[dS]; rfl)
   obtain⟨hok,Cm,hsz⟩:=R.hk.obs i ob dS
   rcases(hok.of_slice hφ).1 with ⟨ad,_,hnil⟩|⟨g,c',cur,hv,hc,_,hh,hcs,hr⟩
   ·rw[hnil] at hj; simp at hj
   ·rw[hφ] at hv
    have hbg:b=g:=by simp at hv; exact hv.1
    subst hbg
    have ha:a.eval x= .pointer (some ⟨b,j*bC ob.k+off,none⟩):=by rw[<- Cm,<- hu']; simpa using hu
    obtain⟨r1,r2,r3,r4⟩:=vV hr hj
    simp only[Array.length_toList] at r2
    simp only[qt,e1,hob]
    cases hw:(off==0&&ob.k==k) with
    |true =>
     simp only[Bool.and_eq_true,beq_iff_eq] at hw
     obtain⟨rfl,rfl⟩:=hw
     simp only[cond_true]
     exact key _ b _ cur ob.ty (0,0) hh hsz r1 (by omega) (by simpa using r4) ha
    |false =>
     rw[hw,Bool.false_or,Bool.and_eq_true,Bool.not_eq_true',beq_eq_false_iff_ne] at hcond
     simp only[cond_false]
     have abf:(ob.l.getD j .any).kd≠0:=by rw[r1]; exact hcond.1
     have hp:=Es r4 abf (off:=off) (k:=k) (by rw[<- ng,r1]; exact hcond.2)
     have hpo:=hcond.2
     simp only[mZ,Nat.ble_eq] at hpo
     by_cases hpos:0<bC k
     ·refine key _ b _ cur ob.ty (0,0) hh hpos hp.2.1 (by omega) ?_ ha
      have h1:=hp.1
      rw[List.drop_take,List.take_take,List.drop_drop,Nat.min_eq_left (by omega)] at h1
      exact h1
     ·have hk1:k=1:=by
       cases k with
       |zero=>simp[bC] at hpos
       |succ m=>simp only[bC] at hpos; omega
      subst hk1
      obtain⟨g1,_⟩:=Dh (P:=P) (w:=E.w) hk hh (off:=j*bC ob.k+off) (by have e0:bC 1=0:=rfl; rw[e0] at hpo ⊢; omega)
      refine⟨_,by simp[execOp,ho,ha,Instr.loadAt,Instr.sureAddr,g1 (by omega)]; rfl,.inl ⟨by rw[hp.2.1]; omega,_,rfl,?_⟩⟩
      simp[T.part,aJ,aW,bC]
  ·exact h.elim
 ·exact h.elim
theorem adP(R:Rel F M E s a){x:Operand}{x':X}(hx:aV x=some x'){o:Oper}(ho:o.op= .nilCheck x)(h:qc s (.nc x')):pF P E a o (qt s (.nc x')):=by
 have rx:=bI R hx
 refine⟨a.eval x,?_,rx⟩
 simp only[qc] at h
 split at h
 ·rename_i i j off e1
  rw[e1,aA rfl] at rx
  simp only[aJ] at rx
  obtain⟨u,hu,hlive⟩:=rx
  obtain⟨b,n,c,hφ,hu'⟩:=hlive (by rw[R.he]; exact h)
  have ha:a.eval x= .pointer (some ⟨b,j*bC (E.κ i)+off,none⟩):=by rw[<- hu']; simpa using hu
  simp[execOp,ho,ha]
 ·rename_i k t e1
  rw[e1,aA rfl] at rx
  simp only[aJ] at rx
  obtain⟨b,off,cur,e,m,hu,_⟩:=rx
  have ha:a.eval x= .pointer (some ⟨b,off,none⟩):=by simpa using hu
  simp[execOp,ho,ha]
 ·rename_i f cap e1
  rw[e1,aA rfl] at rx
  simp only[aJ] at rx
  rcases rx with ⟨_,cs,hu,_⟩|⟨_,p,_,_,hu,_⟩
  ·have ha:a.eval x=WX f cs:=by simpa using hu
   rcases Ew f cs with ⟨_,h1⟩|⟨_,h1⟩<;>rw[h1] at ha<;>simp[execOp,ho,ha]
  ·have ha:a.eval x= .func (.yield p.l) #[] #[]:=by simpa using hu
   simp[execOp,ho,ha]
 ·exact h.elim
theorem FW{at':Array TypeId}{t:TypeId}{x:Operand}{o:Oper}(ho:o.op= .call {callee:=.builtin .len,args:= #[x],argTypes:=at'})(h0:at'[0]? =some t){n:Nat}
  (h:(P.underlying t=some .string/\ ∃ b,a.eval x= .string b/\b.size=n)\/(∃ e,P.underlying t=some (.slice e)/\ ∃ ad c,a.eval x= .slice ad n c)) :
  (execOp a.eval o).run P E.w= .ok (.value (.int .i64 n)) E.w:=by
 rcases h with ⟨h1,b,h2,rfl⟩|⟨e,h1,ad,c,h2⟩ <;>
  simp[execOp,ho,resolve,invoke,builtin,Builtin.len_,h0,h2,underlying,h1,goInt]
theorem q_len(R:Rel F M E s a){at':Array TypeId}{t:TypeId}{str:Bool}{x:Operand}{x':X}(hx:aV x=some x'){o:Oper}
  (ho:o.op= .call {callee:=.builtin .len,args:= #[x],argTypes:=at'}) (h0:at'[0]? =some t)
  (ht:if str then P.underlying t=some .string else ∃ e,P.underlying t=some (.slice e)) (h:qc s (.len str x')):pF P E a o (qt s (.len str x')):=by
 have rx:=bI R hx
 simp only[qc] at h
 split at h
 ·rename_i k f l e1
  subst h
  rw[e1,aA rfl] at rx
  simp only[aJ] at rx
  obtain⟨ad,c,hu,_⟩:=rx
  simp only[Bool.false_eq_true,if_false] at ht
  obtain⟨e,ht⟩:=ht
  refine⟨.int .i64 l.length,FW ho h0 (.inr ⟨e,ht,ad,c,by simpa using hu⟩),by simp only[qt,e1,aK]⟩
 ·rename_i oo e1
  split at h
  ·rename_i ob hob
   obtain⟨rfl,hnm⟩:=h
   rw[e1,aA rfl] at rx
   simp only[aJ] at rx
   obtain⟨u,hu,hlive⟩:=rx
   have dS:E.h oo=some ob:=by rw[R.he]; exact hob
   have hφ:=hlive (by rw[dS]; rfl)
   obtain⟨hok,Cm,hsz⟩:=R.hk.obs oo ob dS
   have ha:a.eval x=E.φ oo:=by rw[<- hφ]; simpa using hu
   simp only[Bool.false_eq_true,if_false] at ht
   obtain⟨e,ht⟩:=ht
   refine⟨.int .i64 ob.l.length,FW ho h0 (.inr ⟨e,ht,?_⟩),by simp only[qt,e1,hob,aK]⟩
   rcases hok.row hnm with ⟨ad,hv,hnil⟩|⟨g,c,cur,hv,_⟩
   ·exact⟨ad,0,by rw[ha,hv,hnil]; rfl⟩
   ·exact⟨_,_,by rw[ha,hv]⟩
  ·exact h.elim
 ·rename_i oo lo hi' e1
  obtain⟨rfl,hsome⟩:=h
  rw[e1,aA rfl] at rx
  simp only[aJ] at rx
  obtain⟨u,hu,hlive⟩:=rx
  obtain⟨ad,m,c,hφ,hl1,hl2,hl3,hu'⟩:=hlive (by rw[R.he]; exact hsome)
  have ha:a.eval x=u:=by simpa using hu
  simp only[Bool.false_eq_true,if_false] at ht
  obtain⟨e,ht⟩:=ht
  exact⟨.int .i64 ((hi'-lo:Nat):Int),FW ho h0 (.inr ⟨e,ht,_,_,by rw[ha,hu']⟩),by simp only[qt,e1,aK]⟩
 ·rename_i b e1
  subst h
  rw[e1,aK] at rx
  simp only[if_true] at ht
  exact⟨.int .i64 b.size,FW ho h0 (.inl ⟨ht,b,rx,rfl⟩),by simp only[qt,e1,aK]⟩
 ·exact h.elim
theorem adQ(R:Rel F M E s a){at':Array TypeId}{x y:Operand}{x' y':X}(hx:aV x=some x')(hy:aV y=some y'){o:Oper}
  (ho:o.op= .call {callee:=.builtin .max,args:= #[x,y],argTypes:=at'}) (h:qc s (.mx x' y')):pF P E a o (qt s (.mx x' y')):=by
 have rx:=bI R hx; have ry:=bI R hy
 simp only[qc] at h
 split at h
 ·rename_i k n k' m e1 e2
  rw[e1,aK] at rx; rw[e2,aK] at ry
  refine⟨.int k (if n<m then m else n),?_,by simp only[qt,e1,e2,aK]⟩
  simp[execOp,ho,resolve,invoke,builtin,Builtin.max_,Builtin.max2,rx,ry]
 ·exact h.elim
theorem adR(R:Rel F M E s a){at':Array TypeId}{x y:Operand}{x' y':X}(hx:aV x=some x')(hy:aV y=some y'){o:Oper}
  (ho:o.op= .call {callee:=.builtin .min,args:= #[x,y],argTypes:=at'}) (h:qc s (.mn x' y')):pF P E a o (qt s (.mn x' y')):=by
 have rx:=bI R hx; have ry:=bI R hy
 simp only[qc] at h
 split at h
 ·rename_i k n k' m e1 e2
  rw[e1,aK] at rx; rw[e2,aK] at ry
  refine⟨.int k (if m<n then m else n),?_,by simp only[qt,e1,e2,aK]⟩
  simp[execOp,ho,resolve,invoke,builtin,Builtin.min_,Builtin.min2,rx,ry]
 ·exact h.elim
theorem adS(R:Rel F M E s a){i:Nat}{x:Operand}{x':X}(hx:aV x=some x'){o:Oper}(ho:o.op= .extract x i)(h:qc s (.ex x' i)):pF P E a o (qt s (.ex x' i)):=by
 have rx:=bI R hx
 simp only[qc] at h
 split at h
 ·rename_i l e1
  rw[e1,aA rfl] at rx
  simp only[aJ] at rx
  obtain⟨cs,hu,hr⟩:=rx
  have ha:a.eval x= .tuple cs:=by simpa using hu
  have hlen:=nJ hr
  simp only[Array.length_toList] at hlen
  rw[Nat.blt_eq] at h
  have hg:=uU hr i
  have hci:cs[i]? =some (cs[i]'(by omega)):=by simp
  refine⟨cs[i]'(by omega),by simp[execOp,ho,ha,Instr.extract,hci],?_⟩
  simp only[qt,e1]
  have e2:l.getD i T.un=l.getD i .any:=by simp[List.getD_eq_getElem?_getD,h]
  have e3:cs.toList.getD i undef=cs[i]'(by omega):=by simp[List.getD_eq_getElem?_getD,hci]
  rw[e2,e3] at hg; exact hg
 ·exact h.elim
theorem vg{xs:List Operand}{xs':List X}(h:nU xs=some xs')(R:Rel F M E s a):bD E (xs'.map s.ev) (xs.map a.eval)/\T.aO M (xs'.map s.ev):=by
 induction xs generalizing xs' with
 |nil=>cases h; simp[bD,T.aO]
 |cons x r ih =>
  simp only[nU] at h
  split at h
  ·rename_i x' r' h1 h2
   cases h
   obtain⟨i1,i2⟩:=ih h2
   rw[List.map_cons,List.map_cons,bK]
   exact⟨⟨_,_,rfl,bI R h1,i1⟩,by simp only[T.aO]; exact⟨jY R h1,i2⟩⟩
  ·cases h
theorem Ia{t:T}{v:Value}(hk:oP F E)(h:je E t v)(h1:t.xg E.h=true):t.kd=0/\v.oneCell'=true/\aJ E t [v]:=by
 have hkd:t.kd=0:=by cases t<;>simp_all[T.xg,T.kd]
 rw[aA hkd] at h
 refine⟨hkd,?_,h⟩
 cases t with
 |lit u=>simp only[aJ] at h; simp only[T.xg] at h1; simp at h; rw[h]; exact h1
 |sl k f l=>simp only[aJ] at h; obtain⟨ad,c,hu,_⟩:=h; simp at hu; rw[hu]; rfl
 |ref k t=>simp only[aJ] at h; obtain⟨b,off,cur,e,m,hu,_⟩:=h; simp at hu; rw[hu]; rfl
 |fn f cap =>
  simp only[aJ] at h
  rcases h with ⟨_,cs,hu,_⟩|⟨_,p,_,_,hu,_⟩<;>simp at hu<;>rw[hu]
  ·rcases Ew f cs with ⟨_,h1⟩|⟨_,h1⟩<;>rw[h1]<;>rfl
  ·rfl
 |own i =>
  simp only[aJ] at h; obtain⟨u,hu,hl⟩:=h
  simp only[T.xg] at h1
  have:=hl h1
  simp at hu; rw[hu,this]
  obtain⟨ob,hob⟩:=Option.isSome_iff_exists.1 h1
  rcases(hk.obs i ob hob).1 with ⟨_,⟨ad,hv,_⟩|⟨g,c,cur,hv,_⟩⟩|⟨_,g,es,cl,hv,_⟩<;>rw[hv]<;>rfl
 |ptr i j off =>
  simp only[aJ] at h; obtain⟨u,hu,hl⟩:=h
  simp only[T.xg] at h1
  obtain⟨b,n,c,_,hu'⟩:=hl h1
  simp at hu; rw[hu,hu']; rfl
 |ru i lo hi =>
  simp only[aJ] at h; obtain⟨u,hu,hl⟩:=h
  simp only[T.xg] at h1
  obtain⟨ad,n,c,_,_,_,_,hu'⟩:=hl h1
  simp at hu; rw[hu,hu']; rfl
 |agg l=>simp[T.xg] at h1
 |fH l=>simp[T.xg] at h1
 |any=>simp[T.xg] at h1
theorem vk{t:T}{v:Value}(hk:oP F E)(h:je E t v)(h1:t.jS E.h=true):aW E t.cells v.cells.toList:=by
 refine Ql h fun hkd=>?_
 cases t with
 |agg l=>simp[T.kd] at hkd
 |_=>exact(Ia hk h h1).2.1
theorem Uo(hk:oP F E): ∀ {ts:List T} {vs:List Value},bD E ts vs->x8 E.h ts=true->aW E ts vs:=by
 intro ts
 induction ts with
 |nil=>intro vs h _; simp[bD] at h; subst h; simp[aW]
 |cons t ts ih =>
  intro vs h h1
  rw[bK] at h
  obtain⟨v,r,rfl,h2,h3⟩:=h
  simp only[x8,Bool.and_eq_true] at h1
  obtain⟨g1,g2,g3⟩:=Ia hk h2 h1.1
  simp only[aW]
  exact⟨g1,v,r,rfl,g2,g3,ih h3 h1.2⟩
theorem adT(R:Rel F M E s a){f:FuncId}{first cap:Array Operand}{cap':List X}(hc:nU cap.toList=some cap'){o:Oper}
  (ho:o.op= .makeFunc (.func f) first cap) (hf:first.size=0) (h:qc s (.mf f cap')):pF P E a o (qt s (.mf f cap')):=by
 have hfirst:first= #[]:=Array.eq_empty_of_size_eq_zero hf
 subst hfirst
 simp only[qc,Bool.and_eq_true,Nat.blt_eq] at h
 obtain⟨h,hlt⟩:=h
 refine⟨.func (.func f) #[] (cap.map a.eval),by simp[execOp,ho,Instr.makeFunc],?_⟩
 simp only[qt]
 rw[aA rfl]
 simp only[aJ]
 refine .inl ⟨Nat.blt_eq.mpr (Nat.lt_trans hlt (by decide)),_,by rw[Qp hlt],?_⟩
 rw[<- R.he] at h
 have:=Uo R.hk (vg hc R).1 h
 simpa using this
theorem adU(R:Rel F M E s a){f:FuncId}{first cap:Array Operand}{x:Operand}{x':X}(hx:aV x=some x'){o:Oper}
  (ho:o.op= .makeFunc (.func f) first cap) (hf:first.toList=[x]) (hc:cap.toList=[]) (h:qc s (.mb f x')):pF P E a o (qt s (.mb f x')):=by
 have hfirst:first= #[x]:=Array.ext' (by simpa using hf)
 have hcap:cap= #[]:=Array.ext' (by simpa using hc)
 subst hfirst hcap
 have rx:=bI R hx
 simp only[qc] at h
 split at h
 ·rename_i l e1
  rw[e1,xq] at rx
  obtain⟨cs,hv,hr⟩:=rx
  refine⟨.func (.func f) #[a.eval x] #[],by simp[execOp,ho,Instr.makeFunc],?_⟩
  simp only[qt,e1]
  rw[aA rfl]
  simp only[aJ]
  exact .inl ⟨Nat.blt_eq.mpr (by have:f<4096:=h; show f+4096<8192; exact Nat.add_lt_add_right this 4096),cs,by rw[aa9 h,hv],hr⟩
 ·exact h.elim
end ops
section
variable {P:Program} {F:Fr P} {M:Nat->Prop} {E:Env} {s:AS} {a:Act}
def Lp(P:Program)(t:TypeId)(xs:List Int):Value:=if kindOf P t=some 0 then .int .i64 (xs.getD 0 0) else .agg (xs.map (Value.int .i64)).toArray
theorem AP{t:TypeId}{k:Nat}(hk:kindOf P t=some k){X:List Int}{off n:Nat}(hn:n=bC k)(h:off+n<=X.length)(w:World) :
  (part t (X.map (Value.int .i64)).toArray off).run P w= .ok (Lp P t ((X.drop off).take n)) w:=by
 simp only[part,Sem.run_bind,uZ hk,Result.andThen_ok]
 unfold Lp
 rw[hk]
 cases k with
 |zero =>
  simp only[bC] at hn
  subst hn
  have hlt:off<X.length:=by omega
  simp only[bne_self_eq_false,Bool.false_eq_true,if_false,if_true,List.getElem?_toArray,List.getElem?_map,List.getElem?_eq_getElem hlt,Option.map_some,Sem.run_pure,Result.ok.injEq,Value.int.injEq,true_and,and_true]
  simp[List.getD_eq_getElem?_getD,hlt]
 |succ m =>
  have hne: ¬ (some (m+1)=some 0):=by simp
  have hb:((m+1) !=0)=true:=by simp
  rw[if_neg hne]
  simp only[hb,if_true,Sem.run_bind,gK hk,Result.andThen_ok,Sem.run_pure,Result.ok.injEq,Value.agg.injEq,and_true]
  apply Array.ext'
  simp[hn,List.extract_eq_take_drop,List.map_take,List.map_drop]
theorem Ur: ∀ {d:Nat} {t:TypeId} {n:Nat},yj P d t=some n-> ∃ k,kindOf P t=some k/\n=bC k:=by
 intro d
 cases d with
 |zero=>intro t n h; cases h
 |succ d =>
  intro t n h
  simp only[yj] at h
  split at h
  ·rename_i h1 h2; cases h; exact⟨0,h2,rfl⟩
  ·rename_i fs k h1 h2
   split at h
   ·split at h
    ·split at h
     ·rename_i h3; cases h; exact⟨k,h2,by rw[h3]; rfl⟩
     ·cases h
    ·cases h
   ·cases h
  ·cases h
theorem Jb{g:TypeId->Option Nat}{d:Nat}(hg: ∀ t n,g t=some n->(∃ k,kindOf P t=some k/\n=bC k)/\ ∀ (xs ys:List Int),xs.length=n->ys.length=n-> ∀ w,(Op.equalIn d t (Lp P t xs) (Lp P t ys)).run P w= .ok (decide (xs=ys)) w)
  {X Y:List Int} {N:Nat} (hX:X.length=N) (hY:Y.length=N): ∀ {fs:List Field} {off:Nat},H8 g fs off=some N->off<=N/\ ∀ w,(Op.eqFields d (X.map (Value.int .i64)).toArray (Y.map (Value.int .i64)).toArray fs).run P w= .ok (decide (X.drop off=Y.drop off)) w:=by
 intro fs
 induction fs with
 |nil =>
  intro off h
  simp only[H8,Option.some.injEq] at h
  subst h
  refine⟨Nat.le_refl _,fun w=>?_⟩
  rw[List.drop_of_length_le (by omega),List.drop_of_length_le (by omega)]
  simp[Op.eqFields]
 |cons f fs ih =>
  intro off h
  simp only[H8] at h
  split at h
  ·rename_i hf
   obtain⟨hnm,rfl⟩:=hf
   split at h
   ·rename_i n hn
    obtain⟨⟨k,hk,hnk⟩,hrun⟩:=hg _ _ hn
    obtain⟨hle,hrest⟩:=ih h
    refine⟨by omega,fun w=>?_⟩
    rw[Op.eqFields,if_pos hnm]
    simp only[Sem.run_bind,AP hk hnk (X:=X) (off:=f.offset) (by omega),AP hk hnk (X:=Y) (off:=f.offset) (by omega),Result.andThen_ok]
    rw[hrun _ _ (by simp; omega) (by simp; omega) w]
    simp only[Result.andThen_ok]
    have hsplit: ∀ Z:List Int,Z.drop f.offset=(Z.drop f.offset).take n++Z.drop (f.offset+n):=fun Z=>by rw[<- List.drop_drop]; exact(List.take_append_drop n _).symm
    by_cases he:(X.drop f.offset).take n=(Y.drop f.offset).take n
    ·simp only[he,decide_true,Bool.not_true,Bool.false_eq_true,if_false,hrest]
     congr 1
     rw[hsplit X,hsplit Y,he]
     simp
    ·have hne: ¬ (X.drop f.offset=Y.drop f.offset):=fun e=>he (by rw[e])
     simp[he,hne]
   ·cases h
  ·cases h
theorem NV: ∀ {d:Nat} {t:TypeId} {n:Nat},yj P d t=some n-> ∀ e,d<=e-> ∀ (xs ys:List Int),xs.length=n->ys.length=n-> ∀ w,(Op.equalIn e t (Lp P t xs) (Lp P t ys)).run P w= .ok (decide (xs=ys)) w:=by
 intro d
 induction d with
 |zero=>intro t n h; cases h
 |succ d ih =>
  intro t n h e he xs ys hx hy w
  obtain⟨e,rfl⟩: ∃ e',e=e'+1:=⟨e-1,by omega⟩
  have hfl:=h
  simp only[yj] at h
  split at h
  ·rename_i h1 h2
   cases h
   simp only[Lp,h2,if_true]
   rw[run_equalIn_int w e t .i64 .i64 _ _ h1]
   match xs,ys,hx,hy with
   |[x],[y],_,_=>simp; rfl
  ·rename_i fs k h1 h2
   split at h
   ·rename_i hst
    split at h
    ·rename_i m hm
     split at h
     ·rename_i hk
      cases h
      have hk0: ¬ (kindOf P t=some 0):=by rw[h2,hk]; simp
      simp only[Lp,if_neg hk0]
      have hfo:P.fieldsOf t=fs:=by simp[Program.fieldsOf,h1]
      rw[run_equalIn_struct w e t _ _ (by rw[hfo]; exact h1) hst.1,hfo]
      have:=(Jb (P:=P) (g:=yj P d) (d:=e) (fun t' n' h'=>⟨Ur h',ih h' e (by omega)⟩) hx hy hm).2 w
      simpa using this
     ·cases h
    ·cases h
   ·cases h
  ·cases h
def yt:T->Int
 | .lit (.int _ n)=>n
 |_=>0
theorem Ib: ∀ {l:List T} {vs:List Value},oM l=true->aW E l vs->vs=(l.map yt).map (Value.int .i64):=by
 intro l
 induction l with
 |nil=>intro vs _ h; simpa [aW] using h
 |cons t ts ih =>
  intro vs ha h
  simp only[aW] at h
  obtain⟨_,v,r,rfl,_,h1,h2⟩:=h
  cases t with
  |lit u =>
   cases u with
   |int k n =>
    cases k<;>simp only[oM] at ha<;>first|(cases ha; done)|skip
    rw[ih ha h2]
    simp only[aJ] at h1
    simp at h1
    simp[yt,h1]
   |_=>simp[oM] at ha
  |_=>simp[oM] at ha
theorem Us: ∀ {l l':List T},oM l=true->oM l'=true->rG l l'=decide (l.map yt=l'.map yt):=by
 intro l
 induction l with
 |nil=>intro l' _ h; cases l' with
  |nil=>rfl
  |cons t ts=>simp[rG]
 |cons t ts ih =>
  intro l' ha hb
  cases t with
  |lit u =>
   cases u with
   |int k n =>
    cases k<;>simp only[oM] at ha<;>first|(cases ha; done)|skip
    cases l' with
    |nil=>simp[rG]
    |cons t' ts' =>
     cases t' with
     |lit u' =>
      cases u' with
      |int k' n' =>
       cases k'<;>simp only[oM] at hb<;>first|(cases hb; done)|skip
       simp only[rG,ih ha hb,List.map_cons,yt,List.cons.injEq]
       rw[Bool.eq_iff_iff]; simp
      |_=>simp[oM] at hb
     |_=>simp[oM] at hb
   |_=>simp[oM] at ha
  |_=>simp[oM] at ha
theorem aax(R:Rel F M E s a){op:BinOp}{t ty':TypeId}{fs:Array Field}{ne:Bool}{n:Nat}{x y:Operand}{x' y':X}(hx:aV x=some x')(hy:aV y=some y'){o:Oper}
  (ho:o.op= .binOp op t x y ty') (hop:op=if ne then .neq else .eql) (hs:P.underlying t=some (.struct fs)) (ht:yj P 20 t=some n) (h:qc s (.eqs ne n x' y')):pF P E a o (qt s (.eqs ne n x' y')):=by
 have rx:=bI R hx; have ry:=bI R hy
 simp only[qc] at h
 split at h
 ·rename_i l l' e1 e2
  simp only[Bool.and_eq_true,beq_iff_eq] at h
  obtain⟨⟨⟨h1,h2⟩,h3⟩,h4⟩:=h
  rw[e1,xq] at rx; rw[e2,xq] at ry
  obtain⟨cs,hcs,hr⟩:=rx
  obtain⟨cs',hcs',hr'⟩:=ry
  have g1:=Ib h1 hr
  have g2:=Ib h2 hr'
  have hg:P.eqGuardType P.depth t=false:=by
   unfold yj at ht
   rw[hs] at ht
   generalize kindOf P t=kk at ht
   cases kk with
   |none=>simp at ht
   |some k =>
    simp only at ht
    by_cases hq:P.stoodInHeld t=false/\P.eqGuardType P.depth t=false
    ·exact hq.2
    ·rw[if_neg hq] at ht; cases ht
  have hk0: ¬ (kindOf P t=some 0):=by
   unfold kindOf
   rw[hs]
   cases P.info? t with
   |none=>simp
   |some i=>simp only; split<;>simp
  have heq:=NV ht Op.maxDepth (by unfold Op.maxDepth; omega) (l.map yt) (l'.map yt) (by simp[h3]) (by simp[h4]) E.w
  simp only[Lp,if_neg hk0] at heq
  have c1:(List.map (Value.int IntKind.i64) (List.map yt l)).toArray=cs:=by rw[<- g1]
  have c2:(List.map (Value.int IntKind.i64) (List.map yt l')).toArray=cs':=by rw[<- g2]
  rw[c1,c2] at heq
  refine⟨.bool (bif ne then !(rG l l') else rG l l'),?_,by simp only[qt,e1,e2,aK]⟩
  rw[Us h1 h2]
  have hgd:(eqGuard op t x y (.agg cs) (.agg cs')).run P E.w= .ok () E.w:=by
   subst hop
   unfold eqGuard
   cases ne<;>simp[hg]
  cases ne
  ·simp only[hop,Bool.false_eq_true,if_false] at ho hgd ⊢
   simp only[execOp,ho,hcs,hcs',hgd,binOp,Sem.run_bind,Sem.run_pure,Result.andThen_ok,Op.equal,heq,cond_false]
  ·simp only[hop,if_true] at ho hgd ⊢
   simp only[execOp,ho,hcs,hcs',hgd,binOp,Sem.run_bind,Sem.run_pure,Result.andThen_ok,Op.equal,heq,cond_true]
 ·exact h.elim
theorem EZ{n:Int}: ∀ {l:List T} {es:List MapEntry} (i:Nat),dY E l es ->
  match vU n l with
  |some u=> ∃ j v,Instr.findNow (.int .i64) (.int .i64 n) es i=some (some (i+j,v))/\j<es.length/\(es[j]?).map (·.val)=some v/\aJ E u [v]/\u.kd=0/\v.oneCell'=true/\(es[j]?).map (·.key)=some (.int .i64 n)
  |none=>Instr.findNow (.int .i64) (.int .i64 n) es i=some none:=by
 intro l
 induction l with
 |nil=>intro es i h; simp only[dY] at h; subst h; simp[vU,Instr.findNow]
 |cons t ts ih =>
  intro es i h
  simp only[dY] at h
  obtain⟨m,u,e,r,rfl,rfl,hk,hkd,h1,h2,h3⟩:=h
  simp only[vU]
  cases hb:(n==m) with
  |true =>
   simp only[cond_true]
   have hnm:n=m:=by simpa using hb
   refine⟨0,e.val,?_,by simp,by simp,h2,hkd,h1,by simp[hk,hnm]⟩
   simp[Instr.findNow,Instr.sameNow,hk,hnm]
  |false =>
   simp only[cond_false]
   have hs:Instr.sameNow (.int .i64) (.int .i64 n) e.key=some false:=by simp[Instr.sameNow,hk,hb]
   have:=ih (i+1) h3
   split at this
   ·rename_i u' hu
    obtain⟨j,v,g1,g2,g3,g4⟩:=this
    refine⟨j+1,v,?_,by simp only[List.length_cons]; omega,by simpa using g3,g4.1,g4.2.1,g4.2.2.1,by simpa using g4.2.2.2⟩
    simp only[Instr.findNow,hs,g1]
    congr 3; omega
   ·rename_i hu
    simp only[Instr.findNow,hs,this]
theorem run_checkKey{kt:TypeId}{k:IntKind}(h:P.underlying kt=some (.int k))(b:Bool)(n:Int)(w:World):(Instr.checkKey b 10000 kt (.int k n)).run P w= .ok () w:=by
 have: ∀ d,(Instr.checkKey b (d+1) kt (.int k n)).run P w= .ok () w:=fun d=>by
  simp only[Instr.checkKey,Sem.run_bind,run_underlying h,Result.andThen_ok,Sem.run_pure]
 exact this 9999
theorem acL(R:Rel F M E s a){t kt et:TypeId}{z:Value}{x i:Operand}{x' i':X}(hx:aV x=some x')(hi:aV i=some i'){o:Oper}(ho:o.op= .lookup t x i true)
  (ht:P.underlying t=some (.map kt et)) (hkt:P.underlying kt=some (.int .i64)) (hz:zeroOf P et=some z) (h:qc s (.Za (H7 z) x' i')):pF P E a o (qt s (.Za (H7 z) x' i')):=by
 have rx:=bI R hx; have ri:=bI R hi
 simp only[qc] at h
 split at h
 ·rename_i oo n e1 e2
  split at h
  ·rename_i ob hob
   rw[e2,aK] at ri
   rw[e1,aA rfl] at rx
   simp only[aJ] at rx
   obtain⟨u,hu,hlive⟩:=rx
   have dS:E.h oo=some ob:=by rw[R.he]; exact hob
   have hφ:=hlive (by rw[dS]; rfl)
   obtain⟨hok,Cm,hsz⟩:=R.hk.obs oo ob dS
   have ha:a.eval x=E.φ oo:=by rw[<- hφ]; simpa using hu
   obtain⟨g,es,cl,hv,hh,hr⟩:=hok.map h
   have hget:(getObj g).run P E.w= .ok (.map es cl) E.w:=by simp[getObj,Sem.run,hh]
   have hzero:(zeroValue et).run P E.w= .ok z E.w:=by
    unfold zeroOf at hz
    cases hi':P.info? et with
    |none=>simp[hi'] at hz
    |some it =>
     have hz':it.zero=some z:=by simpa [hi'] using hz
     simp[zeroValue,typeInfo,hi',hz']
   have hf:=EZ (n:=n) 0 hr
   have hrun: ∀ r,Instr.findNow (.int .i64) (.int .i64 n) es.toList 0=some r->(Instr.findKey kt (.int .i64 n) es.toList).run P E.w= .ok r E.w:=by
    intro r hr'
    simp only[Instr.findKey,Sem.run_bind,run_underlying hkt,Result.andThen_ok,hr',Sem.run_pure]
   split at hf
   ·rename_i u' hu'
    obtain⟨j,v,g1,g2,g3,g4,g5,g6,_⟩:=hf
    refine⟨.tuple #[v,.bool true],?_,?_⟩
    ·simp only[execOp,ho,ha,hv,ri,Instr.lookup,Sem.run_bind,run_underlying ht,Result.andThen_ok,hget,Sem.run_pure,run_checkKey hkt,hrun _ g1,if_true]
    ·simp only[qt,e1,e2,hob,hu']
     rw[aA rfl]; simp only[aJ]
     refine⟨_,rfl,?_⟩
     rw[bK]
     refine⟨v,_,rfl,(aA g5).2 g4,?_⟩
     rw[bK]
     exact⟨_,_,rfl,by rw[aK],by simp[bD]⟩
   ·rename_i hu'
    refine⟨.tuple #[z,.bool false],?_,?_⟩
    ·simp only[execOp,ho,ha,hv,ri,Instr.lookup,Sem.run_bind,run_underlying ht,Result.andThen_ok,hget,Sem.run_pure,run_checkKey hkt,hrun _ hf,hzero,if_true]
    ·simp only[qt,e1,e2,hob,hu']
     rw[aA rfl]; simp only[aJ]
     refine⟨_,rfl,?_⟩
     rw[bK]
     refine⟨z,_,rfl,?_,?_⟩
     ·rw[aA (H9 z)]; exact Di
     ·rw[bK]
      exact⟨_,_,rfl,by rw[aK],by simp[bD]⟩
  ·exact h.elim
 ·exact h.elim
end
inductive NW{α β:Type}(R:α->β->Prop):List α->List β->Prop
 |nil:NW R [] []
 |cons {a:α} {b:β} {as:List α} {bs:List β}:R a b->NW R as bs->NW R (a::as) (b::bs)
section ops
variable {P:Program} {F:Fr P} {M:Nat->Prop} {E:Env} {s:AS} {a:Act}
theorem NY(off:Nat): ∀ (xs:List Value) (n:Nat) (cs:Array Value),off+n+xs.length<=cs.size ->
  ((xs.zipIdx n).foldl (fun(cs:Array Value) (p:Value×Nat)=>cs.setIfInBounds (off+p.2) p.1) cs).toList=cs.toList.take (off+n)++xs++cs.toList.drop (off+n+xs.length)
 |[],n,cs,_=>by simp
 |x::xs,n,cs,h=>by
  simp only[List.length_cons] at h
  rw[List.zipIdx_cons,List.foldl_cons,NY off xs (n+1) _ (by simp; omega)]
  simp only[Array.toList_setIfInBounds,List.length_cons]
  have h1:off+n<cs.toList.length:=by simp; omega
  rw[List.drop_set_of_lt (by omega)]
  have e1:(cs.toList.set (off+n) x).take (off+(n+1))=cs.toList.take (off+n)++[x]:=by
   rw[<- Nat.add_assoc,List.take_add_one,List.take_set_of_le (Nat.le_refl _)]
   simp[List.getElem?_set_self h1]
  rw[e1]
  have e2:off+(n+1)+xs.length=off+n+(xs.length+1):=by omega
  rw[e2]; simp
theorem JU(off:Nat)(v:Value)(cs:Array Value)(h:off+v.cells.size<=cs.size) :
  (v.cells.zipIdx.foldl (fun(cs:Array Value) (p:Value×Nat)=>cs.setIfInBounds (off+p.2) p.1) cs).toList=cs.toList.take off++v.cells.toList++cs.toList.drop (off+v.cells.size):=by
 have:=NY off v.cells.toList 0 cs (by simpa using h)
 rw[<- Array.foldl_toList]
 simpa [Array.toList_zipIdx] using this
theorem Dk{z:List T}{zs:List Value}(h:aW E z zs){off n:Nat}{c:List T}{vs:List Value}(hc:aW E c vs) :
  aW E (z.take off++c++z.drop (off+n)) (zs.take off++vs++zs.drop (off+n)):=by
 rw[Df]
 refine⟨zs.take off++vs,_,rfl,?_,Hw h _⟩
 rw[Df]
 exact⟨_,_,rfl,Hu h _,hc⟩
theorem NZ(hk:oP F E)(place:Nat->Option (Nat×Nat)): ∀ (ps:List (Nat×Value)) (qs:List (Nat×Nat×T)) (z:List T) (cs:Array Value),
  NW (fun p q=>place p.1=some (q.1,q.2.1)/\je E q.2.2 p.2/\q.2.2.jS E.h=true) ps qs->aW E z cs.toList->En z qs=true ->
  ∃ cs',Instr.fill place cs ps=some cs'/\aW E (oh z qs) cs'.toList:=by
 intro ps
 induction ps with
 |nil=>intro qs z cs h hz _; cases h; exact⟨cs,rfl,hz⟩
 |cons p ps ih =>
  intro qs z cs h hz hf
  obtain⟨i,v⟩:=p
  cases h with
  |cons hpq hrest =>
   rename_i q qs
   obtain⟨off,n,t⟩:=q
   obtain⟨h1,h2,h3⟩:=hpq
   simp only[En,Bool.and_eq_true,beq_iff_eq,Nat.ble_eq] at hf
   obtain⟨⟨hf1,hf2⟩,hf3⟩:=hf
   have hc:=vk hk h2 h3
   have hlen:=lG hc
   have hzl:=lG hz
   simp only[Array.length_toList] at hlen hzl
   simp only[Instr.fill,h1,oh]
   rw[if_neg (by simp; omega)]
   refine ih _ _ _ hrest ?_ hf3
   rw[JU off v cs (by omega),hlen,hf1]
   exact Dk hz hc
theorem vX(R:Rel F M E s a){ty:TypeId}{fs:Array Field}(hu:P.underlying ty=some (.struct fs)){places:List (Nat×Nat)}
  (hp:fs.toList.mapM (fun f=>(P.info? f.type).map fun i=>(f.offset,i.size))=some places) :
  ∀ {ps:List (Nat×Operand)} {ps':List (Nat×Nat×X)},compFields P ty ps=some ps'->uS s.hp (ps'.map fun p=>s.ev p.2.2)=true ->
   NW (fun(p:Nat×Value) (q:Nat×Nat×T)=>places.toArray[p.1]? =some (q.1,q.2.1)/\je E q.2.2 p.2/\q.2.2.jS E.h=true)
    (ps.map fun p=>(p.1,a.eval p.2)) (ps'.map fun p=>(p.1,p.2.1,s.ev p.2.2))/\T.aO M (ps'.map fun p=>s.ev p.2.2):=by
 intro ps
 induction ps with
 |nil=>intro ps' h _; cases h; exact⟨.nil,by simp[T.aO]⟩
 |cons p ps ih =>
  intro ps' h hst
  obtain⟨i,x⟩:=p
  simp only[compFields] at h
  split at h
  ·rename_i x' off k r' h1 h2 h3
   cases h
   simp only[List.map_cons,uS,Bool.and_eq_true] at hst
   obtain⟨i1,i2⟩:=ih h3 hst.2
   refine⟨.cons ⟨?_,bI R h1,by rw[R.he]; exact hst.1⟩ i1,by simp only[List.map_cons,T.aO]; exact⟨jY R h1,i2⟩⟩
   obtain⟨fs',fd,g1,g2,g3,_,g5⟩:=Bz h2
   rw[hu] at g1; cases g1
   obtain⟨inf,d,k1,_,k3,_⟩:=uj g3
   have hlist:fs.toList[i]? =some fd:=by simpa using g2
   have hpl:places[i]? =some (off,bC k):=by
    have hgen: ∀ (l:List Field) (r:List (Nat×Nat)) (j:Nat),l.mapM (fun f=>(P.info? f.type).map fun i=>(f.offset,i.size))=some r->l[j]? =some fd->r[j]? =some (fd.offset,inf.size):=by
     intro l
     induction l with
     |nil=>intro r j _ hj; simp at hj
     |cons f l ihl =>
      intro r j hm hj
      simp only[List.mapM_cons,Option.bind_eq_bind,Option.pure_def,Option.bind_eq_some_iff] at hm
      obtain⟨y,hy,ys,hys,hr⟩:=hm
      cases hr
      cases j with
      |zero=>simp at hj; subst hj; simp[k1] at hy; simp[hy]
      |succ j=>simpa using ihl ys j hys (by simpa using hj)
    rw[hgen _ _ _ hp hlist,g5,k3]
   simpa using hpl
  ·cases h
theorem JV{z:List T}: ∀ {qs:List (Nat×Nat×T)},T.aO M z->T.aO M (qs.map fun q=>q.2.2)->T.aO M (oh z qs):=by
 intro qs
 induction qs generalizing z with
 |nil=>intro h _; exact h
 |cons q qs ih =>
  obtain⟨off,n,t⟩:=q
  intro h h'
  simp only[List.map_cons,T.aO] at h'
  simp only[oh]
  exact ih (eH.2 ⟨eH.2 ⟨ug h _,uh h'.1⟩,xk h _⟩) h'.2
theorem adV(R:Rel F M E s a){ty:TypeId}{parts:Array (Nat×Operand)}{fs:Array Field}{cs:Array Value}{ps:List (Nat×Nat×X)}{o:Oper}
  (ho:o.op= .build ty parts) (hu:P.underlying ty=some (.struct fs)) (hz:zeroOf P ty=some (.agg cs)) (hc:compFields P ty parts.toList=some ps)
  (hok:jL (.agg cs)=true) (hpl:(fs.toList.mapM (fun f=>(P.info? f.type).map fun i=>(f.offset,i.size))).isSome=true)
  (h:qc s (.mk (cs.toList.map H7) ps)):pF P E a o (qt s (.mk (cs.toList.map H7) ps)):=by
 obtain⟨places,hp⟩:=Option.isSome_iff_exists.1 hpl
 simp only[qc,Bool.and_eq_true] at h
 obtain⟨hF,_⟩:=vX R hu hp hc h.2
 have hzr:aW E (cs.toList.map H7) cs.toList:=Aa fun v hv=>by
  simp only[jL,Value.cells,Array.all_eq_true_iff_forall_mem] at hok
  exact hok v (by simpa using hv)
 obtain⟨cs',h1,h2⟩:=NZ R.hk (fun i=>places.toArray[i]?) _ _ _ cs hF hzr h.1
 have hb:P.built ty ((parts.map fun(i,x)=>(i,a.eval x)).toList)=some cs':=by
  unfold zeroOf at hz
  cases hi:P.info? ty with
  |none=>simp[hi] at hz
  |some it =>
   have hz':it.zero=some (.agg cs):=by simpa [hi] using hz
   simp only[Program.built,hi,hu,hz',hp,Value.cells]
   simpa using h1
 refine⟨.agg cs',?_,?_⟩
 ·simp only[execOp,ho,Sem.run_bind,run_build E.w ty _ cs' hb,Result.andThen_ok,Sem.run_pure]
 ·simp only[qt]; rw[xq]; exact⟨cs',rfl,h2⟩
theorem o8(R:Rel F M E s a){x:Option Operand}{x':Option X}(h:tq x=some x') :
  (x=none/\x'=none)\/ ∃ y y',x=some y/\x'=some y'/\je E (s.ev y') (a.eval y):=by
 cases x with
 |none=>cases h; exact .inl ⟨rfl,rfl⟩
 |some y =>
  simp only[tq,Option.map_eq_some_iff] at h
  obtain⟨y',h1,rfl⟩:=h
  exact .inr ⟨y,y',rfl,rfl,bI R h1⟩
theorem xu{k:Nat}{f':Bool}{l:List T}{ad:Option Addr}{c:Nat}(hlc:l.length<=c)
  (hrow:l=[]\/ ∃ b off cur e m,ad=some ⟨b,off,none⟩/\E.S b/\E.w.heap[b]? =some (.cells cur e m)/\T.aO (fun _=>False) l/\aC E k l (cur.toList.drop off))
  {lo hi mx:Nat} (h1:lo<=hi) (h2:hi<=l.length) (h3:hi<=mx) (_h4:mx<=c) (hfull:f'=true->mx=hi) {k':Nat} (hk:k=k'\/l=[]) :
  aJ E (.sl k' f' ((l.take hi).drop lo)) [.slice (if mx=lo then ad else ad.map (·.add (lo*bC k'))) (hi-lo) (mx-lo)]:=by
 simp only[aJ]
 have hlen:((l.take hi).drop lo).length=hi-lo:=by simp; omega
 refine⟨_,_,by rw[hlen],by omega,fun hf=>by rw[hfull hf,hlen],?_⟩
 by_cases he:lo=hi
 ·exact .inl (List.eq_nil_of_length_eq_zero (by omega))
 ·have hne:l≠[]:=by rintro rfl; simp at h2; omega
  obtain⟨b,off,cur,e,m,rfl,hS,hh,hid,hr⟩:=hrow.resolve_left hne
  have hk':=hk.resolve_right hne
  subst hk'
  refine .inr ⟨b,off+lo*bC k,cur,e,m,?_,hS,hh,xk (ug hid _) _,?_⟩
  ·rw[if_neg (by omega)]; simp[addr_add]
  ·rw[<- List.drop_drop]
   exact yc (tV hr hi) lo (by simp; omega)
theorem o9{ty e k:Nat}(hu:P.underlying ty=some (.slice e))(hk:kindOf P e=some k){ad:Option Addr}{len cap:Nat}{x:Operand}{lo hi mx:Option Operand}{o:Oper}
  (ho:o.op= .slice ty x lo hi mx) (ha:a.eval x= .slice ad len cap) {l h m:Nat} (hb:(Instr.sliceBounds true len cap (lo.map a.eval) (hi.map a.eval) (mx.map a.eval)).run P E.w= .ok (l,h,m) E.w) :
  (execOp a.eval o).run P E.w= .ok (.value (.slice (if m=l then ad else ad.map (·.add (l*bC k))) (h-l) (m-l))) E.w:=by
 simp only[execOp,ho,ha,Instr.sliceAt,Instr.slice,underlying,Sem.run_bind,run_program,Result.andThen_ok,hu,Sem.run_pure,hb,gK hk]
theorem iM{kd:IntKind}{n:Int}{y:Nat}{cde:BoundsCode}(h0:0<=n)(h1:n<=y)(w:World):(Instr.sliceBound (.int kd n) y cde).run P w= .ok n.toNat w:=by
 simp[Instr.sliceBound,asIntOf,h0,h1]
theorem acM(R:Rel F M E s a){ty e k:Nat}{x:Operand}{lo hi mx:Option Operand}{x':X}{lo' hi' mx':Option X}(hx:aV x=some x')(hlo:tq lo=some lo')(hhi:tq hi=some hi')(hmx:tq mx=some mx'){o:Oper}
  (ho:o.op= .slice ty x lo hi mx) (hu:P.underlying ty=some (.slice e)) (hk:kindOf P e=some k) (h:YD k (s.ev x') (lo'.map s.ev) (hi'.map s.ev) (mx'.map s.ev)):pF P E a o (NR k (s.ev x') (lo'.map s.ev) (hi'.map s.ev) (mx'.map s.ev)):=by
 have rx:=bI R hx
 have rl:=o8 R hlo; have rh:=o8 R hhi; have rm:=o8 R hmx
 unfold YD at h
 have row: ∀ {k' f l},s.ev x'= .sl k' f l-> ∃ ad c,a.eval x= .slice ad l.length c/\l.length<=c/\(f=true->c=l.length) /\
   (l=[]\/ ∃ b off cur e m,ad=some ⟨b,off,none⟩/\E.S b/\E.w.heap[b]? =some (.cells cur e m)/\T.aO (fun _=>False) l/\aC E k' l (cur.toList.drop off)):=by
  intro k' f l e1
  rw[e1,aA rfl] at rx
  simp only[aJ] at rx
  obtain⟨ad,c,hu',h1,h2,h3⟩:=rx
  exact⟨ad,c,by simpa using hu',h1,h2,h3⟩
 have kU: ∀ {x:Option Operand} {x':Option X},((x=none/\x'=none)\/ ∃ y y',x=some y/\x'=some y'/\je E (s.ev y') (a.eval y))->x'.map s.ev=none->x=none:=by
  intro x x' h h'
  rcases h with ⟨h,_⟩|⟨y,y',_,rfl,_⟩
  ·exact h
  ·simp at h'
 have nV: ∀ {x:Option Operand} {x':Option X} {kd n},((x=none/\x'=none)\/ ∃ y y',x=some y/\x'=some y'/\je E (s.ev y') (a.eval y))->x'.map s.ev=some (.lit (.int kd n))->x.map a.eval=some (.int kd n):=by
  intro x x' kd n h h'
  rcases h with ⟨_,rfl⟩|⟨y,y',rfl,rfl,h⟩
  ·simp at h'
  ·simp only[Option.map_some,Option.some.injEq] at h' ⊢; rw[h',aK] at h; exact h
 split at h
 ·rename_i k' f l e1 e2 e3 e4
  obtain⟨ad,c,ha,hlc,hf,hrow⟩:=row e1
  have n1:=kU rl e2; have n2:=kU rh e3; have n3:=kU rm e4
  subst n1 n2 n3
  refine⟨_,o9 hu hk ho ha (l:=0) (h:=l.length) (m:=c) (by simp[Instr.sliceBounds]),?_⟩
  simp only[NR,e1,e2,e3,e4]
  rw[aA rfl]
  have:=xu (f':=f) hlc hrow (lo:=0) (hi:=l.length) (mx:=c) (by omega) (by omega) hlc (by omega) hf h
  simpa using this
 ·rename_i k' f l kd n e1 e2 e3 e4
  obtain⟨hkk,h0,h1⟩:=h
  obtain⟨ad,c,ha,hlc,hf,hrow⟩:=row e1
  have n1:=nV rl e2; have n2:=kU rh e3; have n3:=kU rm e4
  subst n2 n3
  refine⟨_,o9 hu hk ho ha (l:=n.toNat) (h:=l.length) (m:=c) (by simp[Instr.sliceBounds,n1,iM h0 h1]),?_⟩
  simp only[NR,e1,e2,e3,e4]
  rw[aA rfl]
  have:=xu (f':=f) hlc hrow (lo:=n.toNat) (hi:=l.length) (mx:=c) (by omega) (by omega) hlc (by omega) hf hkk
  simpa using this
 ·rename_i k' f l kd n e1 e2 e3 e4
  obtain⟨hkk,h0,h1⟩:=h
  obtain⟨ad,c,ha,hlc,hf,hrow⟩:=row e1
  have n1:=kU rl e2; have n2:=nV rh e3; have n3:=kU rm e4
  subst n1 n3
  refine⟨_,o9 hu hk ho ha (l:=0) (h:=n.toNat) (m:=c) (by simp[Instr.sliceBounds,n2,iM h0 (show n<=(c:Int) by omega)]),?_⟩
  simp only[NR,e1,e2,e3,e4]
  rw[aA rfl]
  have:=xu (f':=(f&&decide (n=l.length))) hlc hrow (lo:=0) (hi:=n.toNat) (mx:=c) (by omega) (by omega) (by omega) (by omega) (fun hq=>by simp only[Bool.and_eq_true,decide_eq_true_eq] at hq; have:=hf hq.1; omega) hkk
  simpa using this
 ·rename_i k' f l kd n kd' n' e1 e2 e3 e4
  obtain⟨hkk,h0,h1,h2⟩:=h
  obtain⟨ad,c,ha,hlc,hf,hrow⟩:=row e1
  have n1:=nV rl e2; have n2:=nV rh e3; have n3:=kU rm e4
  subst n3
  refine⟨_,o9 hu hk ho ha (l:=n.toNat) (h:=n'.toNat) (m:=c) (by
   simp[Instr.sliceBounds,n1,n2,iM (show 0<=n' by omega) (show n'<=(c:Int) by omega),iM h0 (show n<=(n'.toNat:Int) by omega)]),?_⟩
  simp only[NR,e1,e2,e3,e4]
  rw[aA rfl]
  have:=xu (f':=false) hlc hrow (lo:=n.toNat) (hi:=n'.toNat) (mx:=c) (by omega) (by omega) (by omega) (by omega) (by simp) hkk
  simpa using this
 ·rename_i k' f l kd n kd' n' e1 e2 e3 e4
  obtain⟨hkk,h0,h1,h2⟩:=h
  obtain⟨ad,c,ha,hlc,hf,hrow⟩:=row e1
  have n1:=kU rl e2; have n2:=nV rh e3; have n3:=nV rm e4
  subst n1
  refine⟨_,o9 hu hk ho ha (l:=0) (h:=n.toNat) (m:=n'.toNat) (by
   simp[Instr.sliceBounds,n2,n3,iM (show 0<=n' by omega) (show n'<=(c:Int) by omega),iM h0 (show n<=(n'.toNat:Int) by omega)]),?_⟩
  simp only[NR,e1,e2,e3,e4]
  rw[aA rfl]
  have:=xu (f':=decide (n=n')) hlc hrow (lo:=0) (hi:=n.toNat) (mx:=n'.toNat) (by omega) (by omega) (by omega) (by omega) (by simp; omega) hkk
  simpa using this
 ·exact h.elim
theorem abg(R:Rel F M E s a){ty e k:Nat}{x:Operand}{lo hi mx:Option Operand}{x':X}{lo' hi' mx':Option X}(hx:aV x=some x')(hlo:tq lo=some lo')(hhi:tq hi=some hi')(hmx:tq mx=some mx'){o:Oper}
  (ho:o.op= .slice ty x lo hi mx) (hu:P.underlying ty=some (.slice e)) (hk:kindOf P e=some k) {i:Nat} {ob:Ob} (ei:s.ev x'= .own i) (hob:s.hp i=some ob) (h:C9 k ob (lo'.map s.ev) (hi'.map s.ev) (mx'.map s.ev)) :
  pF P E a o (yE i ob (lo'.map s.ev) (hi'.map s.ev) (mx'.map s.ev))/\(yE i ob (lo'.map s.ev) (hi'.map s.ev) (mx'.map s.ev)).ids M:=by
 have rx:=bI R hx
 have ix:=jY R hx
 have rl:=o8 R hlo; have rh:=o8 R hhi; have rm:=o8 R hmx
 rw[ei,aA rfl] at rx
 rw[ei] at ix
 simp only[aJ] at rx
 obtain⟨u,hu1,hlive⟩:=rx
 have dS:E.h i=some ob:=by rw[R.he]; exact hob
 have hφ:=hlive (by rw[dS]; rfl)
 obtain⟨hok,Cm,hsz⟩:=R.hk.obs i ob dS
 have ha:a.eval x=E.φ i:=by rw[<- hφ]; simpa using hu1
 have kU: ∀ {x:Option Operand} {x':Option X},((x=none/\x'=none)\/ ∃ y y',x=some y/\x'=some y'/\je E (s.ev y') (a.eval y))->x'.map s.ev=none->x=none:=by
  intro x x' h h'
  rcases h with ⟨h,_⟩|⟨y,y',_,rfl,_⟩
  ·exact h
  ·simp at h'
 have nV: ∀ {x:Option Operand} {x':Option X} {kd n},((x=none/\x'=none)\/ ∃ y y',x=some y/\x'=some y'/\je E (s.ev y') (a.eval y))->x'.map s.ev=some (.lit (.int kd n))->x.map a.eval=some (.int kd n):=by
  intro x x' kd n h h'
  rcases h with ⟨_,rfl⟩|⟨y,y',rfl,rfl,h⟩
  ·simp at h'
  ·simp only[Option.map_some,Option.some.injEq] at h' ⊢; rw[h',aK] at h; exact h
 have row:ob.k=k-> ∃ ad c,E.φ i= .slice ad ob.l.length c/\ob.l.length<=c:=by
  intro hkk
  rcases hok.row (by rw[hkk]; exact zk hk) with ⟨ad,h1,h2⟩|⟨g,c,cur,h1,h2,_⟩
  ·exact⟨ad,0,by rw[h1,h2]; rfl,by rw[h2]; simp⟩
  ·exact⟨_,_,h1,h2⟩
 unfold C9 at h
 split at h
 ·rename_i kd n e2 e3 e4
  obtain⟨hkk,h0,h1⟩:=h
  obtain⟨ad,c,hv,hlc⟩:=row hkk
  have n1:=nV rl e2; have n2:=kU rh e3; have n3:=kU rm e4
  subst n2 n3
  simp only[yE,e2,e3,e4]
  refine⟨⟨_,o9 hu hk ho (ha.trans hv) (l:=n.toNat) (h:=ob.l.length) (m:=c) (by simp[Instr.sliceBounds,n1,iM h0 h1]),?_⟩,ix⟩
  rw[aA rfl]; simp only[aJ]
  exact⟨_,rfl,fun _=>⟨ad,_,c,hv,by omega,Nat.le_refl _,hlc,by rw[Cm,hkk]⟩⟩
 ·rename_i kd n e2 e3 e4
  obtain⟨hkk,h0,h1⟩:=h
  obtain⟨ad,c,hv,hlc⟩:=row hkk
  have n1:=kU rl e2; have n2:=nV rh e3; have n3:=kU rm e4
  subst n1 n3
  simp only[yE,e2,e3,e4]
  refine⟨⟨_,o9 hu hk ho (ha.trans hv) (l:=0) (h:=n.toNat) (m:=c) (by simp[Instr.sliceBounds,n2,iM h0 (show n<=(c:Int) by omega)]),?_⟩,ix⟩
  rw[aA rfl]; simp only[aJ]
  exact⟨_,rfl,fun _=>⟨ad,_,c,hv,by omega,by omega,hlc,by rw[Cm,hkk]⟩⟩
 ·rename_i kd n kd' n' e2 e3 e4
  obtain⟨hkk,h0,h1,h2⟩:=h
  obtain⟨ad,c,hv,hlc⟩:=row hkk
  have n1:=nV rl e2; have n2:=nV rh e3; have n3:=kU rm e4
  subst n3
  simp only[yE,e2,e3,e4]
  refine⟨⟨_,o9 hu hk ho (ha.trans hv) (l:=n.toNat) (h:=n'.toNat) (m:=c) (by
   simp[Instr.sliceBounds,n1,n2,iM (show 0<=n' by omega) (show n'<=(c:Int) by omega),iM h0 (show n<=(n'.toNat:Int) by omega)]),?_⟩,ix⟩
  rw[aA rfl]; simp only[aJ]
  exact⟨_,rfl,fun _=>⟨ad,_,c,hv,by omega,by omega,hlc,by rw[Cm,hkk]⟩⟩
 ·exact h.elim
theorem acN(R:Rel F M E s a){t e:TypeId}{ts:Array TypeId}{x:Operand}{x':X}(hx:aV x=some x'){o:Oper}(ho:o.op= .call {callee:=.builtin .cap,args:= #[x],argTypes:=ts})(h0:ts[0]? =some t)
  (hu:P.underlying t=some (.slice e)) (h:qc s (.Le x')):pF P E a o (qt s (.Le x')):=by
 have rx:=bI R hx
 simp only[qc] at h
 split at h
 ·rename_i k l e1
  rw[e1,aA rfl] at rx
  simp only[aJ] at rx
  obtain⟨ad,c,hu',_,hc,_⟩:=rx
  have ha:a.eval x= .slice ad l.length c:=by simpa using hu'
  have hcl:=hc trivial
  refine⟨.int .i64 l.length,?_,by simp only[qt,e1,aK]⟩
  simp[execOp,ho,resolve,invoke,builtin,Builtin.cap_,h0,ha,run_underlying hu,goInt,hcl]
 ·exact h.elim
theorem Jc{E:Env}: ∀ {l:List T} {vs:List Value},l.length<=vs.length->aW E l (vs.take l.length)->aC E 0 l vs:=by
 intro l
 induction l with
 |nil=>intro vs _ _; simp[aC]
 |cons t r ih =>
  intro vs hl h
  cases vs with
  |nil=>simp at hl
  |cons v vs =>
   simp only[List.length_cons,List.take_succ_cons,aW] at h
   obtain⟨h1,v',r',e,h2,h3,h4⟩:=h
   cases e
   simp only[List.length_cons,Nat.add_le_add_iff_right] at hl
   simp only[aC,bC,List.length_cons,List.take_succ_cons,List.take_zero,List.drop_succ_cons,List.drop_zero,List.mem_singleton,forall_eq]
   exact⟨h1,by omega,h2,h3,ih hl h4⟩
theorem adW(R:Rel F M E s a){ty n e:Nat}{x:Operand}{x':X}(hx:aV x=some x'){o:Oper}(ho:o.op= .slice ty x none none none)
  (hu:P.underlying ty=some (.array n e)) (hk:kindOf P e=some 0) (h:qc s (.sa n x')):pF P E a o (qt s (.sa n x')):=by
 have rx:=bI R hx
 simp only[qc] at h
 split at h
 ·rename_i k l e1
  rw[e1,aA rfl] at rx
  simp only[aJ] at rx
  obtain⟨b,off,cur,e',m,hv,hS,hh,hkd,hid,hlen,hr⟩:=rx
  simp only[Bool.and_eq_true,Nat.blt_eq] at h
  obtain⟨⟨hk1,hl⟩,h0⟩:=h
  have hl:=Nat.eq_of_beq_eq_true hl
  have:=Nat.eq_of_beq_eq_true hk1; subst this
  have ha:a.eval x= .pointer (some ⟨b,off,none⟩):=by simpa using hv
  refine⟨.slice (some ⟨b,off,none⟩) n n,?_,?_⟩
  ·simp[execOp,ho,ha,Instr.sliceAt,run_underlying hu,Instr.sureAddr,Instr.sliceBounds,gK hk,addr_add]
  ·simp only[qt,e1]
   rw[aA rfl]; simp only[aJ]
   refine⟨_,n,by rw[hl],by omega,fun _=>hl.symm,.inr ⟨b,off,cur,e',m,rfl,hS,hh,by simpa [T.ids] using hid,?_⟩⟩
   simp only[bC] at hlen hr
   exact Jc (by omega) (by rw[hl]; exact hr)
 ·exact h.elim
theorem adX(R:Rel F M E s a){ty:Nat}{x:Operand}{lo hi:Option Operand}{x':X}{lo' hi':Option X}(hx:aV x=some x')(hlo:tq lo=some lo')(hhi:tq hi=some hi'){o:Oper}
  (ho:o.op= .slice ty x lo hi none) (hu:P.underlying ty=some .string) (h:qc s (.ss x' lo' hi')):pF P E a o (qt s (.ss x' lo' hi')):=by
 have rx:=bI R hx
 have rl:=o8 R hlo; have rh:=o8 R hhi
 simp only[qc] at h
 have kU: ∀ {x:Option Operand} {x':Option X},((x=none/\x'=none)\/ ∃ y y',x=some y/\x'=some y'/\je E (s.ev y') (a.eval y))->x'.map s.ev=none->x=none:=by
  intro x x' h h'
  rcases h with ⟨h,_⟩|⟨y,y',_,rfl,_⟩
  ·exact h
  ·simp at h'
 have nV: ∀ {x:Option Operand} {x':Option X} {kd n},((x=none/\x'=none)\/ ∃ y y',x=some y/\x'=some y'/\je E (s.ev y') (a.eval y))->x'.map s.ev=some (.lit (.int kd n))->x.map a.eval=some (.int kd n):=by
  intro x x' kd n h h'
  rcases h with ⟨_,rfl⟩|⟨y,y',rfl,rfl,h⟩
  ·simp at h'
  ·simp only[Option.map_some,Option.some.injEq] at h' ⊢; rw[h',aK] at h; exact h
 have run: ∀ {b:ByteArray} {l h m:Nat},a.eval x= .string b->(Instr.sliceBounds false b.size b.size (lo.map a.eval) (hi.map a.eval) none).run P E.w= .ok (l,h,m) E.w ->
   (execOp a.eval o).run P E.w= .ok (.value (.string (b.extract l h))) E.w:=by
  intro b l h m ha hb
  simp only[execOp,ho,ha,Instr.sliceAt,Instr.slice,underlying,Sem.run_bind,run_program,Result.andThen_ok,hu,Sem.run_pure,Option.map_none,Option.isSome_none,Bool.false_eq_true,if_false,hb]
 split at h
 ·rename_i b e1 e2 e3
  rw[e1,aK] at rx
  have n1:=kU rl e2; have n2:=kU rh e3
  subst n1 n2
  exact⟨_,run (l:=0) (h:=b.size) (m:=b.size) rx (by simp[Instr.sliceBounds]),by simp only[qt,e1,e2,e3,aK]⟩
 ·rename_i b kd n e1 e2 e3
  rw[e1,aK] at rx
  have n1:=nV rl e2; have n2:=kU rh e3
  subst n2
  exact⟨_,run (l:=n.toNat) (h:=b.size) (m:=b.size) rx (by simp[Instr.sliceBounds,n1,iM h.1 h.2]),by simp only[qt,e1,e2,e3,aK]⟩
 ·rename_i b kd n e1 e2 e3
  rw[e1,aK] at rx
  have n1:=kU rl e2; have n2:=nV rh e3
  subst n1
  exact⟨_,run (l:=0) (h:=n.toNat) (m:=b.size) rx (by simp[Instr.sliceBounds,n2,iM h.1 h.2]),by simp only[qt,e1,e2,e3,aK]⟩
 ·rename_i b kd n kd' n' e1 e2 e3
  rw[e1,aK] at rx
  have n1:=nV rl e2; have n2:=nV rh e3
  obtain⟨h0,h1,h2⟩:=h
  exact⟨_,run (l:=n.toNat) (h:=n'.toNat) (m:=b.size) rx (by
   simp[Instr.sliceBounds,n1,n2,iM (show 0<=n' by omega) h2,iM h0 (show n<=(n'.toNat:Int) by omega)]),by simp only[qt,e1,e2,e3,aK]⟩
 ·exact h.elim
end ops
end Go.Ab
