/-
 The abstract layer, part 1: abstract values, an intermediate code, its abstract weakest precondition, and the translation into it.
 No condition; definitions alone.
-/
import Derived.Orders
import Derived.Tactics
import Derived.Laws.AppendOwn
import Derived.Below
import Derived.Laws.BytesString
import Derived.Lib.LaidTab
import Derived.Lib.Space
import Derived.RangeFuncSeq
import Derived.Laws.CopyRow
import Derived.Laws.StructEq
namespace Go.Ab
theorem aD:type_of% @Bool.and_eq_true:=@Bool.and_eq_true
theorem aL:type_of% @List.length_append:=@List.length_append
theorem aM:type_of% @of_decide_eq_false:=@of_decide_eq_false
theorem aR:type_of% @Bool.false_ne_true:=@Bool.false_ne_true
theorem ab:type_of% @List.getD_eq_getElem?_getD:=@List.getD_eq_getElem?_getD
theorem ag:type_of% @of_decide_eq_true:=@of_decide_eq_true
theorem ai:type_of% @List.eq_nil_of_length_eq_zero:=@List.eq_nil_of_length_eq_zero
theorem am:type_of% @Option.isSome_iff_exists:=@Option.isSome_iff_exists
theorem ao:type_of% @Nat.zero_le:=@Nat.zero_le
theorem ap:type_of% @cond_false:=@cond_false
theorem aq:type_of% @decide_eq_true_eq:=@decide_eq_true_eq
theorem ax:type_of% @List.mem_map:=@List.mem_map
theorem bA:type_of% @decide_eq_false_iff_not:=@decide_eq_false_iff_not
theorem bB:type_of% @if_neg:=@if_neg
theorem bE:type_of% @cond_true:=@cond_true
theorem bL:type_of% @List.length_map:=@List.length_map
theorem bN:type_of% @Int.toNat_natCast:=@Int.toNat_natCast
theorem bO:type_of% @List.append_assoc:=@List.append_assoc
theorem bR:type_of% @List.length_take:=@List.length_take
theorem bS:type_of% @List.getElem?_eq_getElem:=@List.getElem?_eq_getElem
theorem bX:type_of% @List.length_cons:=@List.length_cons
theorem ba:type_of% @Nat.le_refl:=@Nat.le_refl
theorem bc:type_of% @if_pos:=@if_pos
theorem be:type_of% @Option.map_eq_some_iff:=@Option.map_eq_some_iff
theorem bh:type_of% @List.getElem_mem:=@List.getElem_mem
theorem bi:type_of% @Option.some.injEq:=@Option.some.injEq
theorem bj:type_of% @List.all_eq_true:=@List.all_eq_true
theorem bk:type_of% @Bool.or_eq_false_iff:=@Bool.or_eq_false_iff
theorem bl:type_of% @List.map_cons:=@List.map_cons
theorem bm:type_of% @List.take_of_length_le:=@List.take_of_length_le
theorem bo:type_of% @List.getElem?_eq_some_iff:=@List.getElem?_eq_some_iff
theorem bp:type_of% @Option.map_some:=@Option.map_some
theorem bq:type_of% @Bool.not_eq_true':=@Bool.not_eq_true'
theorem br:type_of% @List.mem_singleton:=@List.mem_singleton
theorem bt:type_of% @beq_iff_eq:=@beq_iff_eq
theorem bu:type_of% @Array.length_toList:=@Array.length_toList
theorem bv:type_of% @List.mem_cons:=@List.mem_cons
theorem bw:type_of% @List.take_succ_eq_append_getElem:=@List.take_succ_eq_append_getElem
theorem bx:type_of% @List.take_length:=@List.take_length
theorem cA:type_of% @List.length_drop:=@List.length_drop
theorem cB:type_of% @decide_eq_false:=@decide_eq_false
theorem cC:type_of% @List.length_nil:=@List.length_nil
theorem cD:type_of% @List.mem_range:=@List.mem_range
theorem cE:type_of% @beq_eq_false_iff_ne:=@beq_eq_false_iff_ne
theorem cF:type_of% @Nat.blt_eq:=@Nat.blt_eq
theorem cG:type_of% @Nat.ne_of_beq_eq_false:=@Nat.ne_of_beq_eq_false
theorem cH:type_of% @Bool.and_eq_false_iff:=@Bool.and_eq_false_iff
theorem cI:type_of% @decide_eq_true:=@decide_eq_true
theorem cJ:type_of% @List.drop_eq_nil_of_le:=@List.drop_eq_nil_of_le
theorem cK:type_of% @List.take_append_drop:=@List.take_append_drop
theorem cL:type_of% @List.any_eq_true:=@List.any_eq_true
theorem cM:type_of% @List.getElem?_map:=@List.getElem?_map
theorem cN:type_of% @List.getElem?_take_of_lt:=@List.getElem?_take_of_lt
theorem cP:type_of% @List.map_append:=@List.map_append
theorem cQ:type_of% @List.take_add_one:=@List.take_add_one
theorem cR:type_of% @Bool.eq_iff_iff:=@Bool.eq_iff_iff
theorem cS:type_of% @List.append_nil:=@List.append_nil
theorem cT:type_of% @List.getElem?_drop:=@List.getElem?_drop
theorem cU:type_of% @Nat.lt_of_lt_of_le:=@Nat.lt_of_lt_of_le
theorem cV:type_of% @Bool.true_and:=@Bool.true_and
theorem cW:type_of% @if_false:=@if_false
theorem cX:type_of% @List.mem_flatMap:=@List.mem_flatMap
theorem cY:type_of% @Bool.or_eq_true:=@Bool.or_eq_true
theorem ce:type_of% @List.map_congr_left:=@List.map_congr_left
theorem ci:type_of% @List.mem_append:=@List.mem_append
theorem cj:type_of% @List.cons_append:=@List.cons_append
theorem ck:type_of% @List.getElem?_append_right:=@List.getElem?_append_right
theorem cm:type_of% @Array.getElem?_eq_some_iff:=@Array.getElem?_eq_some_iff
theorem cn:type_of% @if_true:=@if_true
theorem co:type_of% @List.getElem?_append_left:=@List.getElem?_append_left
theorem cp:type_of% @List.range_succ:=@List.range_succ
theorem cq:type_of% @List.any_eq_false:=@List.any_eq_false
theorem cr:type_of% @Nat.mul_le_mul_right:=@Nat.mul_le_mul_right
theorem cv:type_of% @List.getElem?_eq_none:=@List.getElem?_eq_none
theorem cw:type_of% @Nat.eq_of_beq_eq_true:=@Nat.eq_of_beq_eq_true
theorem cx:type_of% @List.mem_of_getElem?:=@List.mem_of_getElem?
theorem cy:type_of% @List.map_map:=@List.map_map
theorem cz:type_of% @Bool.false_or:=@Bool.false_or
theorem dC:type_of% @congrArg:=@congrArg
theorem dE:type_of% @List.mem_cons_of_mem:=@List.mem_cons_of_mem
theorem dT:type_of% @Nat.lt_succ_of_lt:=@Nat.lt_succ_of_lt
theorem da:type_of% @Bool.false_eq_true:=@Bool.false_eq_true
theorem db:type_of% @List.flatMap_append:=@List.flatMap_append
theorem dc:type_of% @List.Perm.refl:=@List.Perm.refl
theorem de:type_of% @Nat.add_mul:=@Nat.add_mul
theorem dg:type_of% @Bool.not_eq_false':=@Bool.not_eq_false'
theorem di:type_of% @Nat.le_trans:=@Nat.le_trans
theorem dj:type_of% @Array.getD_eq_getD_getElem?:=@Array.getD_eq_getD_getElem?
theorem dm:type_of% @List.drop_drop:=@List.drop_drop
theorem dp:type_of% @List.pairwise_cons:=@List.pairwise_cons
theorem dq:type_of% @List.Pairwise.sublist:=@List.Pairwise.sublist
theorem dt:type_of% @List.getElem_of_mem:=@List.getElem_of_mem
theorem du:type_of% @List.replicate_succ:=@List.replicate_succ
theorem dv:type_of% @List.length_set:=@List.length_set
theorem dx:type_of% @List.not_mem_nil:=@List.not_mem_nil
theorem dy:type_of% @List.getElem?_set_ne:=@List.getElem?_set_ne
theorem dz:type_of% @List.Perm.append_left:=@List.Perm.append_left
theorem eA:type_of% @Option.map_none:=@Option.map_none
theorem eB:type_of% @List.foldl_cons:=@List.foldl_cons
theorem eC:type_of% @List.all_cons:=@List.all_cons
theorem eD:type_of% @List.drop_eq_getElem_cons:=@List.drop_eq_getElem_cons
theorem eE:type_of% @List.mem_filter:=@List.mem_filter
theorem eI:type_of% @List.cons.injEq:=@List.cons.injEq
theorem eJ:type_of% @List.sum_cons:=@List.sum_cons
theorem eK:type_of% @Bool.and_true:=@Bool.and_true
theorem eL:type_of% @Option.getD_some:=@Option.getD_some
theorem eM:type_of% @Nat.succ_mul:=@Nat.succ_mul
theorem eN:type_of% @Nat.sub_self:=@Nat.sub_self
theorem eO:type_of% @List.getElem?_take_eq_none:=@List.getElem?_take_eq_none
theorem eQ:type_of% @List.mem_of_mem_take:=@List.mem_of_mem_take
theorem eR:type_of% @Nat.lt_or_ge:=@Nat.lt_or_ge
theorem eT:type_of% @List.any_append:=@List.any_append
theorem eV:type_of% @List.set_cons_zero:=@List.set_cons_zero
theorem eW:type_of% @List.ext_getElem:=@List.ext_getElem
theorem eZ:type_of% @Array.getElem?_eq_getElem:=@Array.getElem?_eq_getElem
theorem ee:type_of% @List.take_succ_cons:=@List.take_succ_cons
theorem ef:type_of% @List.flatMap_cons:=@List.flatMap_cons
theorem eh:type_of% @List.foldl_append:=@List.foldl_append
theorem ej:type_of% @Nat.le_of_ble_eq_true:=@Nat.le_of_ble_eq_true
theorem ek:type_of% @Nat.mul_le_mul:=@Nat.mul_le_mul
theorem em:type_of% @Nat.min_eq_left:=@Nat.min_eq_left
theorem en:type_of% @List.all_append:=@List.all_append
theorem ep:type_of% @List.getElem_map:=@List.getElem_map
theorem ez:type_of% @List.any_cons:=@List.any_cons
theorem fI:type_of% @Bool.and_self:=@Bool.and_self
theorem fL:type_of% @Bool.or_false:=@Bool.or_false
theorem fS:type_of% @Nat.zero_add:=@Nat.zero_add
theorem fT:type_of% @Bool.false_and:=@Bool.false_and
theorem fW:type_of% @List.mem_take_iff_getElem:=@List.mem_take_iff_getElem
theorem fX:type_of% @List.nil_append:=@List.nil_append
theorem fY:type_of% @Int.mul_le_mul_of_nonneg_right:=@Int.mul_le_mul_of_nonneg_right
theorem fb:type_of% @List.eq_of_mem_replicate:=@List.eq_of_mem_replicate
theorem fc:type_of% @forall_eq_or_imp:=@forall_eq_or_imp
theorem fe:type_of% @Prod.mk.injEq:=@Prod.mk.injEq
theorem ff:type_of% @Nat.ble_eq:=@Nat.ble_eq
theorem fg:type_of% @List.length_pos_iff:=@List.length_pos_iff
theorem fh:type_of% @Bool.not_not:=@Bool.not_not
theorem fk:type_of% @Nat.pow_succ:=@Nat.pow_succ
theorem fo:type_of% @Nat.add_zero:=@Nat.add_zero
theorem fp:type_of% @Int.le_refl:=@Int.le_refl
theorem fq:type_of% @List.filter_cons:=@List.filter_cons
theorem fu:type_of% @List.map_replicate:=@List.map_replicate
theorem fw:type_of% @List.length_filter_le:=@List.length_filter_le
theorem fx:type_of% @List.pairwise_append:=@List.pairwise_append
theorem fy:type_of% @Nat.pow_le_pow_right:=@Nat.pow_le_pow_right
theorem gA:type_of% @Int.natCast_mul:=@Int.natCast_mul
theorem gC:type_of% @List.length_range:=@List.length_range
theorem gD:type_of% @List.drop_append_of_le_length:=@List.drop_append_of_le_length
theorem gE:type_of% @List.length_eq_zero_iff:=@List.length_eq_zero_iff
theorem gF:type_of% @List.getElem?_range:=@List.getElem?_range
theorem gH:type_of% @List.getD_cons_zero:=@List.getD_cons_zero
theorem gL:type_of% @bne_eq_false_iff_eq:=@bne_eq_false_iff_eq
theorem gM:type_of% @Bool.not_false:=@Bool.not_false
theorem gN:type_of% @Nat.le_add_right:=@Nat.le_add_right
theorem gO:type_of% @Nat.one_mul:=@Nat.one_mul
theorem gP:type_of% @List.drop_of_length_le:=@List.drop_of_length_le
theorem gR:type_of% @Nat.add_comm:=@Nat.add_comm
theorem gS:type_of% @Nat.beq_refl:=@Nat.beq_refl
theorem gT:type_of% @Nat.le_antisymm:=@Nat.le_antisymm
theorem ga:type_of% @List.set_append_right:=@List.set_append_right
theorem gb:type_of% @Bool.eq_false_iff:=@Bool.eq_false_iff
theorem ge:type_of% @List.take_sublist:=@List.take_sublist
theorem gg:type_of% @List.drop_sublist:=@List.drop_sublist
theorem gh:type_of% @List.size_toArray:=@List.size_toArray
theorem gk:type_of% @Array.ext':=@Array.ext'
theorem gm:type_of% @Nat.mul_comm:=@Nat.mul_comm
theorem gn:type_of% @Nat.le_of_lt:=@Nat.le_of_lt
theorem gp:type_of% @or_false:=@or_false
theorem gr:type_of% @getElem!_pos:=@getElem!_pos
theorem gt:type_of% @Nat.add_assoc:=@Nat.add_assoc
theorem gw:type_of% @Nat.lt_irrefl:=@Nat.lt_irrefl
theorem hJ:type_of% @forall_eq:=@forall_eq
theorem iA:type_of% @true_and:=@true_and
theorem iB:type_of% @decide_true:=@decide_true
inductive T where
 |lit (v:Value)
 |agg (l:List T)
 |sl (k:Nat) (full:Bool) (l:List T)
 |ref (k:Nat) (t:T)
 |own (i:Nat)
 |ptr (i j off:Nat)
 |rG (i lo hi:Nat)
 |fn (f:FuncId) (cap:List T)
 |dD (l:List T)
 |any
 deriving Inhabited
@[reducible] def T.int(n:Int):T:=.lit (.int .i64 n)
@[reducible] def T.bool(b:Bool):T:=.lit (.bool b)
@[reducible] def T.nil:T:=.sl 0 true []
@[reducible] def T.un:T:=.lit (.tuple #[])
def T.cells:T->List T
 | .agg l=>l
 |t=>[t]
def T.kd:T->Nat
 | .agg l=>l.length+1
 |_=>0
def bD:Nat->Nat
 |0=>1
 |m+1=>m
structure Ob where
 ty:TypeId
 k:Nat
 l:List T
abbrev Hp:=Nat->Option Ob
def upd(h:Hp)(i:Nat)(o:Option Ob):Hp:=fun j=>if j=i then o else h j
structure AS where
 fr:List T
 hp:Hp
 nx:Nat
 pin:Nat
inductive X where
 |t (n:Nat)
 |c (v:T)
 deriving Inhabited
def AS.put(s:AS)(d:Option Tmp)(t:T):AS :=
 match d with
 |some i=> {s with fr:=s.fr.set i t}
 |none=>s
def AS.ev(s:AS):X->T
 | .t n=>s.fr.getD n T.un
 | .c v=>v
inductive o8 where
 |mv (x:X)
 |pick (c a b:X)
 |bin (op:BinOp) (x y:X)
 |bb (ne:Bool) (x y:X)
 |not (x:X)
 |conv (k:IntKind) (x:X)
 |fa (off k:Nat) (x:X)
 |fv (off k:Nat) (x:X)
 |ia (k:Nat) (x i:X)
 |ch (x i:X)
 |ld (k:Nat) (x:X)
 |nc (x:X)
 |len (str:Bool) (x:X)
 |mx (x y:X)
 |mn (x y:X)
 |mk (z:List T) (ps:List (Nat×Nat×X))
 |ms (ty k:Nat) (z:T) (n:Nat) (ps:List (Nat×X))
 |sl (k:Nat) (x:X) (lo hi mx:Option X)
 |ss (x:X) (lo hi:Option X)
 |ex (x:X) (i:Nat)
 |mf (f:FuncId) (cap:List X)
 |box (ty k:Nat) (x:X)
 |al (ty k:Nat) (z:T)
 |make (ty k bytes:Nat) (z:T) (n c:X)
 |st (k:Nat) (x v:X)
 |app (ty k bytes:Nat) (x y:X)
 |call (f:FuncId) (xs:List X)
 |oP (x:X) (xs:List X)
 |Gz (x:X)
 |eqs (ne:Bool) (n:Nat) (x y:X)
 |mmk (ty:TypeId)
 |mlk (b:Bool) (z:T) (x i:X)
 |Vb (b:Bool) (x i v:X)
 |bts (x:X)
 |ZM (ty k bytes:Nat) (y:X)
 |slx (k:Nat) (x:X) (lo hi mx:Option X)
 |TG (x:X)
 |ZN (k:Nat) (z:T) (x:X)
 |mso (ty k:Nat) (z:T) (n:Nat) (ps:List (Nat×X))
 |mb (f:FuncId) (x:X)
 |sa (n:Nat) (x:X)
 |bot
 deriving Inhabited
structure aT where
 d:Option Nat
 op:o8
 g:Option (Nat×Bool)
 fl:Bool:=false
 ne:List Nat:=[]
 ad:Bool:=false
 ar:Bool:=false
 deriving Inhabited
inductive aC where
 |skip
 |reg (draw:Bool) (ops:List aT)
 |seq (a b:aC)
 |cond (c:X) (a b:aC)
 |blk (id:Nat) (b:aC)
 |exit (id:Nat)
 |loop (b:aC)
 |ret
 deriving Inhabited
def T.part(x:T)(off:Nat):Nat->T
 |0=>x.cells.getD off .any
 |m+1=>.agg ((x.cells.drop off).take m)
def o9(n off k:Nat):Bool:=Nat.ble (off+bD k) n
def kEq:IntKind->IntKind->Bool
 | .i8,.i8=>true| .i16,.i16=>true| .i32,.i32=>true| .i64,.i64=>true
 | .u8,.u8=>true| .u16,.u16=>true| .u32,.u32=>true| .u64,.u64=>true
 |_,_=>false
def fnV(f:FuncId)(cs:Array Value):Value:=bif Nat.blt f 4096 then .func (.func f) #[] cs else .func (.func (f % 4096)) #[.agg cs] #[]
def ajU(k:IntKind)(a b:Int):Int:=k.wrap ((BitVec.ofInt k.bits a &&& BitVec.ofInt k.bits b).toNat)
def En(op:BinOp):Value->Value->Option Value
 | .int k a,.int k' b =>
  match kEq k k',op with
  |_,.shr=>bif decide (0<=b) then some (.int k (a.fdiv (2 ^ (min b.toNat k.bits)))) else none
  |true,.add=>some (.int k (k.wrap (a+b)))
  |true,.sub=>some (.int k (k.wrap (a-b)))
  |true,.mul=>some (.int k (k.wrap (a*b)))
  |true,.and=>some (.int k (ajU k a b))
  |true,.eql=>some (.bool (a==b))
  |true,.neq=>some (.bool (a !=b))
  |true,.lss=>some (.bool (decide (a<b)))
  |true,.leq=>some (.bool (decide (a<=b)))
  |true,.gtr=>some (.bool (decide (b<a)))
  |true,.geq=>some (.bool (decide (b<=a)))
  |true,.rem=>bif decide (b=0) then none else some (.int k (a.tmod b))
  |_,_=>none
 | .string a,.string b =>
  match op with
  | .eql=>some (.bool (a.toList==b.toList))
  | .neq=>some (.bool (!(a.toList==b.toList)))
  | .add=>bif decide (((a.size+b.size:Nat):Int)<=9223372036854775807) then some (.string (a++b)) else none
  |_=>none
 |_,_=>none
def EN(c a b:T):T :=
 match c with
 | .lit (.bool t) =>
  match a,b with
  | .lit (.bool x),.lit (.bool y)=>.lit (.bool (bif t then x else y))
  |a,b=>bif t then a else b
 |_=>.any
def isBool:T->Bool
 | .lit (.bool _)=>true
 |_=>false
def inR(n:Int)(l:Nat):Prop:=0<=n/\n<l
def L9(z:List T):List (Nat×Nat×T)->List T
 |[]=>z
 |(off,n,t)::r=>L9 (z.take off++t.cells++z.drop (off+n)) r
def KL(z:List T):List (Nat×Nat×T)->Bool
 |[]=>true
 |(off,n,t)::r=>(t.cells.length==n)&&(Nat.ble (off+n) z.length)&&KL (z.take off++t.cells++z.drop (off+n)) r
def wu(z:List T):List (Nat×T)->List T
 |[]=>z
 |(i,t)::r=>wu (z.set i t) r
def Oo(k n:Nat):List (Nat×T)->Bool
 |[]=>true
 |(i,t)::r=>(t.kd==k)&&Nat.blt i n&&Oo k n r
def T.Ai(h:Hp):T->Bool
 | .lit v=>v.oneCell'
 | .own i=>(h i).isSome
 | .ptr i _ _=>(h i).isSome
 | .rG i _ _=>(h i).isSome
 | .sl _ _ _=>true
 | .ref _ _=>true
 | .fn _ _=>true
 |_=>false
def T.nR(h:Hp):T->Bool
 | .agg _=>true
 |t=>t.Ai h
def zG(h:Hp):List T->Bool
 |[]=>true
 |t::ts=>t.nR h&&zG h ts
def DC(h:Hp):List T->Bool
 |[]=>true
 |t::ts=>t.Ai h&&DC h ts
mutual
def T.free:T->Bool
 | .own _=>false
 | .ptr _ _ _=>false
 | .rG _ _ _=>false
 | .agg l=>T.bn l
 | .fn _ cap=>T.bn cap
 | .dD l=>T.bn l
 |_=>true
def T.bn:List T->Bool
 |[]=>true
 |t::ts=>T.free t&&T.bn ts
end
def uM:List T->Bool
 |[]=>true
 | .lit (.int .i64 _)::r=>uM r
 |_=>false
def wY:List T->List T->Bool
 |[],[]=>true
 | .lit (.int _ a)::r,.lit (.int _ b)::r'=>(a==b)&&wY r r'
 |_,_=>false
def vC:Bool->Value->Bool
 |false,.int .i64 _=>true
 |true,.string _=>true
 |_,_=>false
def Gq:Value->Value->Bool
 | .int _ a,.int _ b=>a==b
 | .string a,.string b=>a.data.toList==b.data.toList
 |_,_=>false
def Mc(b:Bool):T->Bool
 | .dD [.lit q,_]=>vC b q
 |_=>false
def Bq(b:Bool)(q:Value)(l:List T):Bool:=vC b q&&l.all (Mc b)
def yG(q:Value):List T->Option T
 |[]=>none
 | .dD [.lit m,u]::r=>bif Gq q m then some u else yG q r
 |_::r=>yG q r
def DF(q:Value)(v:T):List T->List T
 |[]=>[.dD [.lit q,v]]
 | .dD [.lit m,u]::r=>bif Gq q m then .dD [.lit q,v]::r else .dD [.lit m,u]::DF q v r
 |t::r=>t::DF q v r
def VE:List T->Bool
 |[]=>true
 | .lit (.int .u8 _)::r=>VE r
 |_=>false
def byteOf:T->UInt8
 | .lit (.int _ n)=>UInt8.ofNat n.toNat
 |_=>0
def bytesOf(l:List T):ByteArray:=⟨(l.map byteOf).toArray⟩
def Ec(i:Nat)(ob:Ob):Option T->Option T->Option T->T
 |some (.lit (.int _ a)),none,none=>.rG i a.toNat ob.l.length
 |none,some (.lit (.int _ b)),none=>.rG i 0 b.toNat
 |some (.lit (.int _ a)),some (.lit (.int _ b)),none=>.rG i a.toNat b.toNat
 |_,_,_=>.any
def Jf(k:Nat)(ob:Ob):Option T->Option T->Option T->Prop
 |some (.lit (.int _ a)),none,none=>ob.k=k/\0<=a/\a<=ob.l.length
 |none,some (.lit (.int _ b)),none=>ob.k=k/\0<=b/\b<=ob.l.length
 |some (.lit (.int _ a)),some (.lit (.int _ b)),none=>ob.k=k/\0<=a/\a<=b/\b<=ob.l.length
 |_,_,_=>False
def VF(k:Nat)(x:T)(lo hi mx:Option T):T :=
 match x,lo,hi,mx with
 | .sl _ f l,none,none,none=>.sl k f l
 | .sl _ f l,some (.lit (.int _ a)),none,none=>.sl k f (l.drop a.toNat)
 | .sl _ f l,none,some (.lit (.int _ b)),none=>.sl k (f&&decide (b=l.length)) (l.take b.toNat)
 | .sl _ _ l,some (.lit (.int _ a)),some (.lit (.int _ b)),none=>.sl k false ((l.take b.toNat).drop a.toNat)
 | .sl _ _ l,none,some (.lit (.int _ b)),some (.lit (.int _ m))=>.sl k (decide (b=m)) (l.take b.toNat)
 |_,_,_,_=>.any
def slC(k:Nat)(x:T)(lo hi mx:Option T):Prop :=
 match x,lo,hi,mx with
 | .sl k' _ l,none,none,none=>k'=k\/l=[]
 | .sl k' _ l,some (.lit (.int _ a)),none,none=>(k'=k\/l=[])/\0<=a/\a<=l.length
 | .sl k' _ l,none,some (.lit (.int _ b)),none=>(k'=k\/l=[])/\0<=b/\b<=l.length
 | .sl k' _ l,some (.lit (.int _ a)),some (.lit (.int _ b)),none=>(k'=k\/l=[])/\0<=a/\a<=b/\b<=l.length
 | .sl k' _ l,none,some (.lit (.int _ b)),some (.lit (.int _ m))=>(k'=k\/l=[])/\0<=b/\b<=m/\m<=l.length
 |_,_,_,_=>False
def qt(s:AS):o8->T
 | .mv x=>s.ev x
 | .pick c a b=>EN (s.ev c) (s.ev a) (s.ev b)
 | .bin op x y =>
  match s.ev x,s.ev y with
  | .lit u,.lit v=>match En op u v with|some r=>.lit r|none=>.any
  |_,_=>.any
 | .bb ne x y =>
  match s.ev x,s.ev y with
  | .lit (.bool a),.lit (.bool b)=>.lit (.bool (bif ne then !(a==b) else a==b))
  |_,_=>.any
 | .not x=>match s.ev x with| .lit (.bool b)=>.lit (.bool !b)|_=>.any
 | .conv k x=>match s.ev x with| .lit (.int _ n)=>.lit (.int k (k.wrap n))|_=>.any
 | .fa off k x =>
  match s.ev x with
  | .ptr i j o=>.ptr i j (o+off)
  | .ref _ t=>.ref k (t.part off k)
  |_=>.any
 | .fv off k x=>(s.ev x).part off k
 | .ia k x i =>
  match s.ev x,s.ev i with
  | .sl _ _ l,.lit (.int _ n)=>.ref k (l.getD n.toNat .any)
  | .own o,.lit (.int _ n)=>.ptr o n.toNat 0
  | .rG o lo _,.lit (.int _ n)=>.ptr o (lo+n.toNat) 0
  |_,_=>.any
 | .ch x i =>
  match s.ev x,s.ev i with
  | .lit (.string b),.lit (.int _ n)=>.lit (.int .u8 (b.data.getD n.toNat 0).toNat)
  |_,_=>.any
 | .ld k x =>
  match s.ev x with
  | .ref _ t=>t
  | .ptr i j off =>
   match s.hp i with
   |some ob=>bif (off==0&&ob.k==k) then ob.l.getD j .any else(ob.l.getD j .any).part off k
   |none=>.any
  |_=>.any
 | .nc x=>s.ev x
 | .len _ x =>
  match s.ev x with
  | .sl _ _ l=>.lit (.int .i64 l.length)
  | .own o=>match s.hp o with|some ob=>.lit (.int .i64 ob.l.length)|none=>.any
  | .rG _ lo hi=>.lit (.int .i64 ((hi-lo:Nat):Int))
  | .lit (.string b)=>.lit (.int .i64 b.size)
  |_=>.any
 | .mx x y =>
  match s.ev x,s.ev y with
  | .lit (.int k a),.lit (.int _ b)=>.lit (.int k (if a<b then b else a))
  |_,_=>.any
 | .mn x y =>
  match s.ev x,s.ev y with
  | .lit (.int k a),.lit (.int _ b)=>.lit (.int k (if b<a then b else a))
  |_,_=>.any
 | .mk z ps=>.agg (L9 z (ps.map fun p=>(p.1,p.2.1,s.ev p.2.2)))
 | .ms _ k z n ps=>.sl k true (wu (List.replicate n z) (ps.map fun p=>(p.1,s.ev p.2)))
 | .sl k x lo hi mx=>VF k (s.ev x) (lo.map s.ev) (hi.map s.ev) (mx.map s.ev)
 | .slx k x lo hi mx =>
  match s.ev x with
  | .own i=>match s.hp i with|some ob=>Ec i ob (lo.map s.ev) (hi.map s.ev) (mx.map s.ev)|none=>.any
  |t=>VF k t (lo.map s.ev) (hi.map s.ev) (mx.map s.ev)
 | .sa _ x=>match s.ev x with| .ref _ (.agg l)=>.sl 0 true l|_=>.any
 | .TG x=>match s.ev x with| .sl _ true l=>.lit (.int .i64 l.length)|_=>.any
 | .ss x lo hi =>
  match s.ev x,lo.map s.ev,hi.map s.ev with
  | .lit (.string b),none,none=>.lit (.string (b.extract 0 b.size))
  | .lit (.string b),some (.lit (.int _ i)),none=>.lit (.string (b.extract i.toNat b.size))
  | .lit (.string b),none,some (.lit (.int _ j))=>.lit (.string (b.extract 0 j.toNat))
  | .lit (.string b),some (.lit (.int _ i)),some (.lit (.int _ j))=>.lit (.string (b.extract i.toNat j.toNat))
  |_,_,_=>.any
 | .ex x i=>match s.ev x with| .dD l=>l.getD i .any|_=>.any
 | .mf f cap=>.fn f (cap.map s.ev)
 | .mb f x=>match s.ev x with| .agg l=>.fn (f+4096) l|_=>.any
 | .eqs ne _ x y =>
  match s.ev x,s.ev y with
  | .agg l,.agg l'=>.lit (.bool (bif ne then !(wY l l') else wY l l'))
  |_,_=>.any
 | .bts x =>
  match s.ev x with
  | .own o=>match s.hp o with|some ob=>.lit (.string (bytesOf ob.l))|none=>.any
  |_=>.any
 | .mlk _ z x i =>
  match s.ev x,s.ev i with
  | .own o,.lit n =>
   match s.hp o with
   |some ob=>match yG n ob.l with|some u=>.dD [u,.lit (.bool true)]|none=>.dD [z,.lit (.bool false)]
   |none=>.any
  |_,_=>.any
 |_=>.any
def qc(s:AS):o8->Prop
 | .mv _=>True
 | .pick c _ _=>isBool (s.ev c)=true
 | .bin op x y =>
  match s.ev x,s.ev y with
  | .lit u,.lit v=>(En op u v).isSome=true
  |_,_=>False
 | .bb _ x y=>(isBool (s.ev x)&&isBool (s.ev y))=true
 | .not x=>isBool (s.ev x)=true
 | .conv _ x=>match s.ev x with| .lit (.int _ _)=>True|_=>False
 | .fa off k x =>
  match s.ev x with
  | .ptr i _ _=>(s.hp i).isSome=true
  | .ref kt _=>(!(kt==0)&&o9 (bD kt) off k)=true
  |_=>False
 | .fv off k x=>(!((s.ev x).kd==0)&&o9 (bD (s.ev x).kd) off k)=true
 | .ia k x i =>
  match s.ev x,s.ev i with
  | .sl k' _ l,.lit (.int _ n)=>k'=k/\inR n l.length
  | .own o,.lit (.int _ n)=>match s.hp o with|some ob=>ob.k=k/\inR n ob.l.length|none=>False
  | .rG o lo hi,.lit (.int _ n)=>match s.hp o with|some ob=>ob.k=k/\inR n (hi-lo)|none=>False
  |_,_=>False
 | .ch x i =>
  match s.ev x,s.ev i with
  | .lit (.string b),.lit (.int _ n)=>inR n b.size
  |_,_=>False
 | .ld k x =>
  match s.ev x with
  | .ref k' _=>(k'==k&&Nat.blt 0 (bD k))=true
  | .ptr i j off =>
   match s.hp i with
   |some ob=>j<ob.l.length/\((off==0&&ob.k==k)||(!(ob.k==0)&&o9 (bD ob.k) off k))=true
   |none=>False
  |_=>False
 | .nc x=>match s.ev x with| .ptr i _ _=>(s.hp i).isSome=true| .ref _ _=>True| .fn _ _=>True|_=>False
 | .len str x =>
  match s.ev x with
  | .sl _ _ _=>str=false
  | .own o=>match s.hp o with|some ob=>str=false/\ob.k≠1000000007|none=>False
  | .rG i _ _=>str=false/\(s.hp i).isSome=true
  | .lit (.string _)=>str=true
  |_=>False
 | .mx x y =>
  match s.ev x,s.ev y with
  | .lit (.int _ _),.lit (.int _ _)=>True
  |_,_=>False
 | .mn x y =>
  match s.ev x,s.ev y with
  | .lit (.int _ _),.lit (.int _ _)=>True
  |_,_=>False
 | .mk z ps=>(KL z (ps.map fun p=>(p.1,p.2.1,s.ev p.2.2))&&zG s.hp (ps.map fun p=>s.ev p.2.2))=true
 | .ms _ k z n ps=>((z.kd==k)&&z.free&&Oo k n (ps.map fun p=>(p.1,s.ev p.2))&&zG s.hp (ps.map fun p=>s.ev p.2)&&T.bn (ps.map fun p=>s.ev p.2)&&Nat.ble (n*bD k) 16777216&&Nat.blt 0 (bD k))=true
 | .sl k x lo hi mx=>slC k (s.ev x) (lo.map s.ev) (hi.map s.ev) (mx.map s.ev)
 | .slx k x lo hi mx =>
  match s.ev x with
  | .own i=>match s.hp i with|some ob=>Jf k ob (lo.map s.ev) (hi.map s.ev) (mx.map s.ev)|none=>False
  |t=>slC k t (lo.map s.ev) (hi.map s.ev) (mx.map s.ev)
 | .sa n x=>match s.ev x with| .ref k (.agg l)=>(Nat.beq k (n+1)&&Nat.beq l.length n&&Nat.blt 0 n)=true|_=>False
 | .TG x=>match s.ev x with| .sl _ true _=>True|_=>False
 | .ss x lo hi =>
  match s.ev x,lo.map s.ev,hi.map s.ev with
  | .lit (.string _),none,none=>True
  | .lit (.string b),some (.lit (.int _ i)),none=>0<=i/\i<=b.size
  | .lit (.string b),none,some (.lit (.int _ j))=>0<=j/\j<=b.size
  | .lit (.string b),some (.lit (.int _ i)),some (.lit (.int _ j))=>0<=i/\i<=j/\j<=b.size
  |_,_,_=>False
 | .ex x i=>match s.ev x with| .dD l=>Nat.blt i l.length=true|_=>False
 | .mf f cap=>(DC s.hp (cap.map s.ev)&&Nat.blt f 4096)=true
 | .mb f x=>match s.ev x with| .agg _=>f<4096|_=>False
 | .eqs _ n x y =>
  match s.ev x,s.ev y with
  | .agg l,.agg l'=>(uM l&&uM l'&&(l.length==n)&&(l'.length==n))=true
  |_,_=>False
 | .bts x =>
  match s.ev x with
  | .own o=>match s.hp o with|some ob=>ob.k=0/\ob.l≠[]/\VE ob.l=true|none=>False
  |_=>False
 | .mlk b _ x i =>
  match s.ev x,s.ev i with
  | .own o,.lit q=>match s.hp o with|some ob=>ob.k=1000000007/\Bq b q ob.l=true|none=>False
  |_,_=>False
 |_=>False
def dw:o8->Bool
 | .box .. =>false
 | .al .. =>false
 | .make .. =>false
 | .st .. =>false
 | .app .. =>false
 | .call .. =>false
 | .oP .. =>false
 | .Gz .. =>false
 | .mmk .. =>false
 | .Vb .. =>false
 | .ZN .. =>false
 | .mso .. =>false
 | .ZM .. =>false
 | .bot=>false
 |_=>true
inductive qL where
 |normal
 |exit (id:Nat)
 |ret
structure Yd where
 l:Nat
 r:Loop
 k:Nat
structure Env where
 w:World
 S:Nat->Prop
 φ:Nat->Value
 κ:Nat->Nat
 h:Hp
 y:Option Yd
mutual
def T.ids(M:Nat->Prop):T->Prop
 | .lit _=>True
 | .agg l=>T.aO M l
 | .sl _ _ _=>True
 | .ref _ _=>True
 | .own i=>M i
 | .ptr i _ _=>M i
 | .rG i _ _=>M i
 | .fn _ cap=>T.aO M cap
 | .dD l=>T.aO M l
 | .any=>True
def T.aO(M:Nat->Prop):List T->Prop
 |[]=>True
 |t::ts=>T.ids M t/\T.aO M ts
end
mutual
def aN(E:Env):T->List Value->Prop
 | .lit v,vs=>vs=[v]
 | .agg l,vs=>aX E l vs
 | .sl k full l,vs=> ∃ a c,vs=[.slice a l.length c]/\l.length<=c/\(full=true->c=l.length) /\
   (l=[]\/ ∃ b off cur e m,a=some ⟨b,off,none⟩/\E.S b/\E.w.heap[b]? =some (.cells cur e m)/\T.aO (fun _=>False) l/\aJ E k l (cur.toList.drop off))
 | .ref k t,vs=> ∃ b off cur e m,vs=[.pointer (some ⟨b,off,none⟩)]/\E.S b/\E.w.heap[b]? =some (.cells cur e m)/\t.kd=k/\t.ids (fun _=>False) /\
   bD k<=(cur.toList.drop off).length/\aN E t ((cur.toList.drop off).take (bD k))
 | .own i,vs=> ∃ u,vs=[u]/\((E.h i).isSome=true->u=E.φ i)
 | .ptr i j off,vs=> ∃ u,vs=[u]/\((E.h i).isSome=true-> ∃ b n c,E.φ i= .slice (some ⟨b,0,none⟩) n c/\u= .pointer (some ⟨b,j*bD (E.κ i)+off,none⟩))
 | .rG i lo hi,vs=> ∃ u,vs=[u]/\((E.h i).isSome=true-> ∃ ad n c,E.φ i= .slice ad n c/\lo<=hi/\hi<=n/\n<=c/\u= .slice (if c=lo then ad else ad.map (·.add (lo*bD (E.κ i)))) (hi-lo) (c-lo))
 | .fn f cap,vs=>(Nat.blt f 8192=true/\ ∃ cs:Array Value,vs=[fnV f cs]/\aX E cap cs.toList)\/(Nat.blt f 8192=false/\ ∃ p:Yd,E.y=some p/\p.k+8192=f/\vs=[.func (.yield p.l) #[] #[]]/\bg E cap p.r.tmps.toList)
 | .dD l,vs=> ∃ cs:Array Value,vs=[.tuple cs]/\bg E l cs.toList
 | .any,_=>True
def aX(E:Env):List T->List Value->Prop
 |[],vs=>vs=[]
 |t::ts,vs=>t.kd=0/\ ∃ v r,vs=v::r/\v.oneCell'=true/\aN E t [v]/\aX E ts r
def bg(E:Env):List T->List Value->Prop
 |[],vs=>vs=[]
 |t::ts,vs=> ∃ v r,vs=v::r/\((t.kd≠0/\ ∃ cs:Array Value,v= .agg cs/\aN E t cs.toList)\/(t.kd=0/\aN E t [v]))/\bg E ts r
def aJ(E:Env)(k:Nat):List T->List Value->Prop
 |[],_=>True
 |t::ts,vs=>t.kd=k/\bD k<=vs.length/\(∀ v∈vs.take (bD k),v.oneCell'=true)/\aN E t (vs.take (bD k))/\aJ E k ts (vs.drop (bD k))
end
def lZ(E:Env)(t:T)(v:Value):Prop :=
 (t.kd≠0/\ ∃ cs:Array Value,v= .agg cs/\aN E t cs.toList)\/(t.kd=0/\aN E t [v])
theorem bQ{E:Env}{t:T}{ts:List T}{vs:List Value}:bg E (t::ts) vs↔ ∃ v r,vs=v::r/\lZ E t v/\bg E ts r:=by
 simp only[bg,lZ]
section mono
variable {E E':Env}
structure Keeps(E E':Env)(M:Nat->Prop):Prop where
 s: ∀ b,E.S b->E'.S b
 w: ∀ b,E.S b->E'.w.heap[b]? =E.w.heap[b]?
 i: ∀ i,M i->(E'.h i).isSome=true->(E.h i).isSome=true/\E'.φ i=E.φ i/\E'.κ i=E.κ i
 y:E'.y=E.y
theorem Keeps.no{M:Nat->Prop}(h:Keeps E E' M):Keeps E E' (fun _=>False):=⟨h.s,h.w,fun _ hf=>hf.elim,h.y⟩
mutual
theorem iE:(t:T)->(M:Nat->Prop)->Keeps E E' M->t.ids M->(vs:List Value)->aN E t vs->aN E' t vs
 | .lit v,_,_,_,vs,h=>by simpa [aN] using h
 | .agg l,M,hK,hm,vs,h=>by
  simp only[aN] at h ⊢;exact DI l M hK (by simpa [T.ids] using hm) vs h
 | .sl k full l,M,hK,hm,vs,h=>by
  simp only[aN] at h ⊢;obtain⟨a,c,h1,h2,h3,h4⟩:=h;refine⟨a,c,h1,h2,h3,?_⟩;rcases h4 with h4|⟨b,off,cur,e,m,ha,hb,hh,hf,hr⟩
  ·exact .inl h4
  ·exact .inr ⟨b,off,cur,e,m,ha,hK.s b hb,by rw[hK.w b hb]; exact hh,hf,eX l k _ hK.no hf _ hr⟩
 | .ref k t,M,hK,hm,vs,h=>by
  simp only[aN] at h ⊢;obtain⟨b,off,cur,e,m,h1,hb,hh,hk,hf,hl,hr⟩:=h;exact⟨b,off,cur,e,m,h1,hK.s b hb,by rw[hK.w b hb]; exact hh,hk,hf,hl,iE t _ hK.no hf _ hr⟩
 | .own i,M,hK,hm,vs,h=>by
  simp only[aN] at h ⊢;simp only[T.ids] at hm;obtain⟨u,h1,h2⟩:=h;refine⟨u,h1,fun hd=>?_⟩;obtain⟨g1,g2,g3⟩:=hK.i i hm hd;rw[g2]; exact h2 g1
 | .ptr i j off,M,hK,hm,vs,h=>by
  simp only[aN] at h ⊢;simp only[T.ids] at hm;obtain⟨u,h1,h2⟩:=h;refine⟨u,h1,fun hd=>?_⟩;obtain⟨g1,g2,g3⟩:=hK.i i hm hd;rw[g2,g3]; exact h2 g1
 | .rG i lo hi,M,hK,hm,vs,h=>by
  simp only[aN] at h ⊢;simp only[T.ids] at hm;obtain⟨u,h1,h2⟩:=h;refine⟨u,h1,fun hd=>?_⟩;obtain⟨g1,g2,g3⟩:=hK.i i hm hd;rw[g2,g3]; exact h2 g1
 | .fn f cap,M,hK,hm,vs,h=>by
  simp only[aN] at h ⊢;rcases h with ⟨h0,cs,h1,h2⟩|⟨h0,p,hp,hf,h1,h2⟩
  ·exact .inl ⟨h0,cs,h1,DI cap M hK (by simpa [T.ids] using hm) _ h2⟩
  ·exact .inr ⟨h0,p,hK.y.trans hp,hf,h1,jd cap M hK (by simpa [T.ids] using hm) _ h2⟩
 | .dD l,M,hK,hm,vs,h=>by
  simp only[aN] at h ⊢;obtain⟨cs,h1,h2⟩:=h;exact⟨cs,h1,jd l M hK (by simpa [T.ids] using hm) _ h2⟩
 | .any,_,_,_,vs,h=>by simp[aN]
theorem DI:(l:List T)->(M:Nat->Prop)->Keeps E E' M->T.aO M l->(vs:List Value)->aX E l vs->aX E' l vs
 |[],_,_,_,vs,h=>by simpa [aX] using h
 |t::ts,M,hK,hm,vs,h=>by
  simp only[aX] at h ⊢;simp only[T.aO] at hm;obtain⟨hk,v,r,h1,h0,h2,h3⟩:=h;exact⟨hk,v,r,h1,h0,iE t M hK hm.1 _ h2,DI ts M hK hm.2 _ h3⟩
theorem jd:(l:List T)->(M:Nat->Prop)->Keeps E E' M->T.aO M l->(vs:List Value)->bg E l vs->bg E' l vs
 |[],_,_,_,vs,h=>by simpa [bg] using h
 |t::ts,M,hK,hm,vs,h=>by
  simp only[bg] at h ⊢;simp only[T.aO] at hm;obtain⟨v,r,h1,h2,h3⟩:=h;refine⟨v,r,h1,?_,jd ts M hK hm.2 _ h3⟩;rcases h2 with ⟨hk,cs,h4,h5⟩|⟨hk,h4⟩
  ·exact .inl ⟨hk,cs,h4,iE t M hK hm.1 _ h5⟩
  ·exact .inr ⟨hk,iE t M hK hm.1 _ h4⟩
theorem eX:(l:List T)->(k:Nat)->(M:Nat->Prop)->Keeps E E' M->T.aO M l->(vs:List Value)->aJ E k l vs->aJ E' k l vs
 |[],_,_,_,_,vs,h=>by simp[aJ]
 |t::ts,k,M,hK,hm,vs,h=>by
  simp only[aJ] at h ⊢;simp only[T.aO] at hm;obtain⟨hk,h1,h0,h2,h3⟩:=h;exact⟨hk,h1,h0,iE t M hK hm.1 _ h2,eX ts k M hK hm.2 _ h3⟩
end
theorem KN{M:Nat->Prop}(hK:Keeps E E' M){t:T}(hm:t.ids M){v:Value}(h:lZ E t v):lZ E' t v:=by
 rcases h with ⟨hk,cs,h4,h5⟩|⟨hk,h4⟩
 ·exact .inl ⟨hk,cs,h4,iE t M hK hm _ h5⟩
 ·exact .inr ⟨hk,iE t M hK hm _ h4⟩
end mono
section ids
variable {M M':Nat->Prop}
mutual
theorem T.aW(h: ∀ i,M i->M' i):(t:T)->t.ids M->t.ids M'
 | .lit _,_=>by simp[T.ids]
 | .agg l,hm=>by simp only[T.ids] at hm ⊢; exact T.aA h l hm
 | .sl _ _ _,_=>by simp[T.ids]
 | .ref _ _,_=>by simp[T.ids]
 | .own i,hm=>by simp only[T.ids] at hm ⊢; exact h i hm
 | .ptr i _ _,hm=>by simp only[T.ids] at hm ⊢; exact h i hm
 | .rG i _ _,hm=>by simp only[T.ids] at hm ⊢; exact h i hm
 | .fn _ cap,hm=>by simp only[T.ids] at hm ⊢; exact T.aA h cap hm
 | .dD l,hm=>by simp only[T.ids] at hm ⊢; exact T.aA h l hm
 | .any,_=>by simp[T.ids]
theorem T.aA(h: ∀ i,M i->M' i):(l:List T)->T.aO M l->T.aO M' l
 |[],_=>by simp[T.aO]
 |t::ts,hm=>by simp only[T.aO] at hm ⊢; exact⟨T.aW h t hm.1,T.aA h ts hm.2⟩
end
theorem cu{l:List T}:T.aO M l↔ ∀ t∈l,t.ids M:=by
 induction l with
 |nil=>simp[T.aO]
 |cons t ts ih=>simp[T.aO,ih]
theorem yU{l:List T}(h:T.aO M l){i:Nat}{d:T}(hd:d.ids M):(l.getD i d).ids M:=by
 rw[ab];cases hg:l[i]? with
 |none=>simpa using hd
 |some t=>simpa using cu.1 h t (cx hg)
theorem xW{l:List T}(h:T.aO M l){i:Nat}{t:T}(ht:t.ids M):T.aO M (l.set i t) :=
 cu.2 fun x hx=>by
  rcases List.mem_or_eq_of_mem_set hx with h'|rfl
  ·exact cu.1 h x h'
  ·exact ht
theorem gB{a b:List T}:T.aO M (a++b)↔T.aO M a/\T.aO M b:=by
 simp only[cu,ci];exact⟨fun h=>⟨fun t ht=>h t (.inl ht),fun t ht=>h t (.inr ht)⟩,fun h t ht=>ht.elim (h.1 t) (h.2 t)⟩
theorem yV{l:List T}(h:T.aO M l)(n:Nat):T.aO M (l.take n):=cu.2 fun t ht=>cu.1 h t (eQ ht)
theorem BX{l:List T}(h:T.aO M l)(n:Nat):T.aO M (l.drop n):=cu.2 fun t ht=>cu.1 h t (List.mem_of_mem_drop ht)
theorem yX{t:T}(h:t.ids M):T.aO M t.cells:=by
 cases t<;>simp_all[T.cells,T.ids,T.aO]
theorem Oq{t:T}(h:t.ids M)(off k:Nat):(t.part off k).ids M:=by
 cases k with
 |zero=>exact yU (yX h) (by simp[T.ids])
 |succ m=>simp only[T.part,T.ids]; exact yV (BX (yX h) _) _
end ids
section rep
variable {E:Env}
theorem aQ{v u:Value}:lZ E (.lit v) u↔u=v:=by
 simp[lZ,T.kd,aN]
theorem aB{t:T}(h:t.kd=0){v:Value}:lZ E t v↔aN E t [v]:=by
 simp[lZ,h]
theorem BZ{l:List T}{v:Value}:lZ E (.agg l) v↔ ∃ cs:Array Value,v= .agg cs/\aX E l cs.toList:=by
 simp[lZ,T.kd,aN]
theorem qp: ∀ {l:List T} {vs:List Value},aX E l vs->vs.length=l.length:=by
 intro l;induction l with
 |nil=>intro vs h; simp[aX] at h; simp[h]
 |cons t ts ih =>
  intro vs h;simp only[aX] at h;obtain⟨_,v,r,rfl,_,_,h⟩:=h;simp[ih h]
theorem F5: ∀ {l:List T} {vs:List Value},aX E l vs-> ∀ v∈vs,v.oneCell'=true:=by
 intro l;induction l with
 |nil=>intro vs h; simp[aX] at h; simp[h]
 |cons t ts ih =>
  intro vs h;simp only[aX] at h;obtain⟨_,v,r,rfl,h1,_,h⟩:=h;intro u hu;rcases bv.1 hu with rfl|hu
  ·exact h1
  ·exact ih h u hu
theorem qw: ∀ {l:List T} {vs:List Value},bg E l vs->vs.length=l.length:=by
 intro l;induction l with
 |nil=>intro vs h; simp[bg] at h; simp[h]
 |cons t ts ih =>
  intro vs h;rw[bQ] at h;obtain⟨v,r,rfl,_,h⟩:=h;simp[ih h]
theorem zH: ∀ {l:List T} {vs:List Value},bg E l vs-> ∀ i,lZ E (l.getD i T.un) (vs.getD i undef):=by
 intro l;induction l with
 |nil=>intro vs h i; simp[bg] at h; subst h; simp[aQ,undef]
 |cons t ts ih =>
  intro vs h i;rw[bQ] at h;obtain⟨v,r,rfl,h1,h2⟩:=h;cases i with
  |zero=>simpa using h1
  |succ i=>simpa using ih h2 i
theorem F6: ∀ {l:List T} {vs:List Value},bg E l vs-> ∀ (i:Nat) {t:T} {v:Value},lZ E t v->bg E (l.set i t) (vs.set i v):=by
 intro l;induction l with
 |nil=>intro vs h i t v _; simp[bg] at h; subst h; simp[bg]
 |cons t ts ih =>
  intro vs h i t' v' hv;rw[bQ] at h;obtain⟨v,r,rfl,h1,h2⟩:=h;cases i with
  |zero=>simp only[eV,bQ]; exact⟨v',r,rfl,hv,h2⟩
  |succ i=>simp only[List.set_cons_succ,bQ]; exact⟨v,_,rfl,h1,ih h2 i hv⟩
theorem Jg: ∀ {l l':List T} {vs vs':List Value},bg E l vs->bg E l' vs'->bg E (l++l') (vs++vs'):=by
 intro l;induction l with
 |nil=>intro l' vs vs' h h'; simp[bg] at h; subst h; simpa using h'
 |cons t ts ih =>
  intro l' vs vs' h h';rw[bQ] at h;obtain⟨v,r,rfl,h1,h2⟩:=h;rw[cj,cj,bQ];exact⟨v,_,rfl,h1,ih h2 h'⟩
theorem RH: ∀ {l:List T} {vs:List Value},aX E l vs-> ∀ {i:Nat},i<l.length ->
  ∃ v,vs[i]? =some v/\(l.getD i .any).kd=0/\v.oneCell'=true/\aN E (l.getD i .any) [v]:=by
 intro l;induction l with
 |nil=>intro vs h i hi; simp at hi
 |cons t ts ih =>
  intro vs h i hi;simp only[aX] at h;obtain⟨hk,v,r,rfl,h0,h1,h2⟩:=h;cases i with
  |zero=>exact⟨v,by simp,by simpa using hk,h0,by simpa using h1⟩
  |succ i=>simpa using ih h2 (by simpa using hi)
theorem Jh{l l':List T}{vs:List Value}:aX E (l++l') vs↔ ∃ a b,vs=a++b/\aX E l a/\aX E l' b:=by
 induction l generalizing vs with
 |nil =>
  simp only[fX,aX];exact⟨fun h=>⟨[],vs,rfl,rfl,h⟩,fun⟨a,b,h1,h2,h3⟩=>by subst h2; simp at h1; subst h1; exact h3⟩
 |cons t ts ih =>
  simp only[cj,aX,ih];constructor
  ·rintro⟨hk,v,r,rfl,h0,h1,a,b,rfl,h2,h3⟩;exact⟨v::a,b,rfl,⟨hk,v,a,rfl,h0,h1,h2⟩,h3⟩
  ·rintro⟨a,b,rfl,⟨hk,v,r,rfl,h0,h1,h2⟩,h3⟩;exact⟨hk,v,r++b,rfl,h0,h1,r,b,rfl,h2,h3⟩
theorem Ot{l:List T}{vs:List Value}(h:aX E l vs)(n:Nat):aX E (l.take n) (vs.take n):=by
 induction l generalizing vs n with
 |nil=>simp[aX] at h; subst h; simp[aX]
 |cons t ts ih =>
  simp only[aX] at h;obtain⟨hk,v,r,rfl,h0,h1,h2⟩:=h;cases n with
  |zero=>simp[aX]
  |succ n=>simp only[ee,aX]; exact⟨hk,v,_,rfl,h0,h1,ih h2 n⟩
theorem Ou{l:List T}{vs:List Value}(h:aX E l vs)(n:Nat):aX E (l.drop n) (vs.drop n):=by
 induction l generalizing vs n with
 |nil=>simp[aX] at h; subst h; simp[aX]
 |cons t ts ih =>
  simp only[aX] at h;obtain⟨hk,v,r,rfl,h0,h1,h2⟩:=h;cases n with
  |zero=>simp only[List.drop_zero,aX]; exact⟨hk,v,r,rfl,h0,h1,h2⟩
  |succ n=>simpa using ih h2 n
theorem zI{t:T}{vs:List Value}(hk:t.kd≠0):aN E t vs↔aX E t.cells vs:=by
 cases t<;>simp_all[T.kd,T.cells,aN]
theorem cells_one{v:Value}(h:v.oneCell'=true):v.cells= #[v]:=by
 cases v<;>simp_all[Value.cells,Value.oneCell']
theorem GH{t:T}(h:t.kd=0):t.cells=[t]:=by cases t<;>simp_all[T.kd,T.cells]
theorem Yk{t:T}{v:Value}(h:lZ E t v)(ht:t.kd=0->v.oneCell'=true):aX E t.cells v.cells.toList:=by
 rcases h with ⟨hk,cs,rfl,h⟩|⟨hk,h⟩
 ·rw[zI hk] at h; simpa [Value.cells] using h
 ·rw[GH hk,cells_one (ht hk)];simp only[aX];exact⟨hk,v,[],rfl,ht hk,h,rfl⟩
theorem rP(t:T):bD t.kd=t.cells.length:=by cases t<;>simp[T.kd,bD,T.cells]
theorem VG{t:T}{vs:List Value}(h:aN E t vs)(hk:t.kd≠0):vs.length=bD t.kd:=by
 rw[zI hk] at h; rw[rP]; exact qp h
theorem ag8{t:T}{off k:Nat}(h:o9 t.cells.length off k=true)(hs:k=0->(t.cells.getD off .any).kd=0):(t.part off k).kd=k:=by
 cases k with
 |zero=>exact hs rfl
 |succ m =>
  simp only[T.part,T.kd,o9,bD,ff] at h ⊢;simp only[bR,cA]; omega
theorem KO{t:T}{vs:List Value}(h:aN E t vs)(hk:t.kd≠0){off k:Nat}(ho:o9 t.cells.length off k=true) :
  aN E (t.part off k) ((vs.drop off).take (bD k))/\(t.part off k).kd=k/\off+bD k<=vs.length:=by
 have hl:=VG h hk;rw[rP] at hl;rw[zI hk] at h;have ho':=ho;simp only[o9,ff] at ho';cases k with
 |zero =>
  simp only[bD] at ho' ⊢;obtain⟨v,hv,hkd,_,hr⟩:=RH h (i:=off) (by omega);refine⟨?_,hkd,by omega⟩
  have:(vs.drop off).take 1=[v]:=by
   rw[bo] at hv;obtain⟨hlt,rfl⟩:=hv;rw[eD hlt,ee,List.take_zero]
  rw[this]; exact hr
 |succ m =>
  refine⟨?_,ag8 ho (by simp),by omega⟩;simp only[T.part,aN,bD];exact Ot (Ou h _) _
theorem vF: ∀ {k:Nat} {l:List T} {vs:List Value},aJ E k l vs-> ∀ {j:Nat},j<l.length ->
  (l.getD j .any).kd=k/\j*bD k+bD k<=vs.length/\(∀ v∈(vs.drop (j*bD k)).take (bD k),v.oneCell'=true)/\aN E (l.getD j .any) ((vs.drop (j*bD k)).take (bD k)):=by
 intro k l;induction l with
 |nil=>intro vs _ j hj; simp at hj
 |cons t ts ih =>
  intro vs h j hj;simp only[aJ] at h;obtain⟨hk,hl,h0,h1,h2⟩:=h;cases j with
  |zero=>simpa using ⟨hk,hl,h0,h1⟩
  |succ j =>
   obtain⟨g1,g2,g0,g3⟩:=ih h2 (j:=j) (by simpa using hj);rw[dm,show bD k+j*bD k=(j+1)*bD k by rw[de]; omega] at g3 g0;refine⟨by simpa using g1,?_,g0,by simpa using g3⟩;rw[cA] at g2; rw[de]; omega
theorem zJ{n:Nat}{vs ws:List Value}(he: ∀ i,i<n->ws[i]? =vs[i]?):ws.take n=vs.take n:=by
 apply List.ext_getElem?;intro i;by_cases hi:i<n
 ·rw[cN hi,cN hi]; exact he i hi
 ·rw[eO (by omega),eO (by omega)]
theorem kL: ∀ {k:Nat} {l:List T} {vs ws:List Value},aJ E k l vs->(∀ i,i<l.length*bD k->ws[i]? =vs[i]?)->aJ E k l ws:=by
 intro k l;induction l with
 |nil=>intro vs ws _ _; simp[aJ]
 |cons t ts ih =>
  intro vs ws h he;simp only[aJ] at h ⊢;obtain⟨hk,hl,h0,h1,h2⟩:=h;have hlen:(t::ts).length*bD k=ts.length*bD k+bD k:=by rw[bX,de]; omega
  have htake:ws.take (bD k)=vs.take (bD k):=zJ fun i hi=>he i (by omega)
  refine⟨hk,?_,by rw[htake]; exact h0,by rw[htake]; exact h1,ih h2 fun i hi=>?_⟩
  ·have:=dC List.length htake;simp only[bR] at this; omega
  ·rw[cT,cT]; exact he _ (by omega)
theorem zK: ∀ {k:Nat} {l:List T} {vs:List Value},aJ E k l vs->l.length*bD k<=vs.length:=by
 intro k l;induction l with
 |nil=>intro vs _; simp
 |cons t ts ih =>
  intro vs h;simp only[aJ] at h;obtain⟨_,h1,_,_,h2⟩:=h;have:=ih h2;rw[cA] at this;rw[bX,de]; omega
theorem VH: ∀ {k:Nat} {l:List T} {vs:List Value},aJ E k l vs-> ∀ v∈vs.take (l.length*bD k),v.oneCell'=true:=by
 intro k l;induction l with
 |nil=>intro vs _; simp
 |cons t ts ih =>
  intro vs h;simp only[aJ] at h;obtain⟨_,h1,h0,_,h2⟩:=h;intro v hv;rw[bX,de,gO,gR,List.take_add] at hv;rcases ci.1 hv with hv|hv
  ·exact h0 v hv
  ·exact ih h2 v hv
theorem yL: ∀ {k:Nat} {l:List T} {vs:List Value},aJ E k l vs-> ∀ n,aJ E k (l.take n) vs:=by
 intro k l;induction l with
 |nil=>intro vs _ n; simp[aJ]
 |cons t ts ih =>
  intro vs h n;cases n with
  |zero=>simp[aJ]
  |succ n =>
   simp only[aJ,ee] at h ⊢;exact⟨h.1,h.2.1,h.2.2.1,h.2.2.2.1,ih h.2.2.2.2 n⟩
theorem DJ: ∀ {k:Nat} {l:List T} {vs:List Value},aJ E k l vs-> ∀ n,n<=l.length->aJ E k (l.drop n) (vs.drop (n*bD k)):=by
 intro k l;induction l with
 |nil=>intro vs _ n _; simp[aJ]
 |cons t ts ih =>
  intro vs h n hn;cases n with
  |zero=>simpa using h
  |succ n =>
   simp only[aJ] at h;have:=ih h.2.2.2.2 n (by simpa using hn);rw[dm,show bD k+n*bD k=(n+1)*bD k by rw[de]; omega] at this;simpa using this
theorem wz: ∀ {k:Nat} {l l':List T} {vs:List Value},aJ E k (l++l') vs↔aJ E k l vs/\aJ E k l' (vs.drop (l.length*bD k)):=by
 intro k l;induction l with
 |nil=>intro l' vs; simp[aJ]
 |cons t ts ih =>
  intro l' vs;simp only[cj,aJ,ih,dm,bX];rw[show bD k+ts.length*bD k=(ts.length+1)*bD k by rw[de]; omega];constructor
  ·rintro⟨h1,h2,h0,h3,h4,h5⟩; exact⟨⟨h1,h2,h0,h3,h4⟩,h5⟩
  ·rintro⟨⟨h1,h2,h0,h3,h4⟩,h5⟩; exact⟨h1,h2,h0,h3,h4,h5⟩
theorem Md: ∀ {k:Nat} {l:List T} {vs ws:List Value},aJ E k l vs-> ∀ {j:Nat} {t:T},t.kd=k->j<l.length ->
  ws.length=vs.length->(∀ v∈(ws.drop (j*bD k)).take (bD k),v.oneCell'=true)->aN E t ((ws.drop (j*bD k)).take (bD k)) ->
  (∀ i,i<j*bD k\/j*bD k+bD k<=i->ws[i]? =vs[i]?)->aJ E k (l.set j t) ws:=by
 intro k l;induction l with
 |nil=>intro vs ws _ j t _ hj; simp at hj
 |cons t ts ih =>
  intro vs ws h j t' hk' hj hlen ho hr he;simp only[aJ] at h;obtain⟨hk,hl,h0,h1,h2⟩:=h;cases j with
  |zero =>
   simp only[eV,aJ];refine⟨hk',by omega,by simpa using ho,by simpa using hr,kL h2 fun i _=>?_⟩;rw[cT,cT]; exact he _ (.inr (by omega))
  |succ j =>
   have e1:(j+1)*bD k=j*bD k+bD k:=by rw[de]; omega
   simp only[List.set_cons_succ,aJ];have htake:ws.take (bD k)=vs.take (bD k):=zJ fun i hi=>he i (.inl (by omega))
   have e2:bD k+j*bD k=(j+1)*bD k:=by omega
   refine⟨hk,by omega,by rw[htake]; exact h0,by rw[htake]; exact h1,ih h2 hk' (by simpa using hj) (by simp[hlen]) ?_ ?_ fun i hi=>?_⟩
   ·rw[dm,e2]; exact ho
   ·rw[dm,e2]; exact hr
   ·rw[cT,cT]; exact he _ (by omega)
theorem zL{k:Nat}{t:T}{vs:List Value}(hk:t.kd=k)(hl:vs.length=bD k)(h1: ∀ v∈vs,v.oneCell'=true)(h:aN E t vs):aJ E k [t] vs:=by
 simp only[aJ]
 have:vs.take (bD k)=vs:=by rw[<- hl,bx]
 rw[this];exact⟨hk,by omega,h1,h,trivial⟩
end rep
@[reducible] def gK:Nat:=1000000007
def Bv(k:Nat):Bool:=Nat.blt 0 (bD k)&&Nat.blt k 1000000007
theorem DK{k:Nat}(h:Bv k=true):0<bD k/\k≠gK:=by
 simp only[Bv,aD,cF] at h;exact⟨h.1,by simp only[gK]; omega⟩
structure Fr(P:Program) where
 s:Nat->Prop
 dl:List Deferred:=[]
instance {P:Program}:CoeFun (Fr P) (fun _=>Nat->Prop):=⟨Fr.s⟩
def wZ(P:Program)(g:Nat):Option (Array Value) :=
 if P.globalNamed "strings.asciiSpace" = some g then some (Lib.asciiSpaceTab.map fun z=>Value.int .u8 z).toArray else none
def rowB:Value->Option Nat
 | .slice (some a) _ (_+1)=>some a.block
 | .map (some g)=>some g
 |_=>none
def fK(E:Env):List T->List MapEntry->Prop
 |[],es=>es=[]
 |t::ts,es=> ∃ n u e r,t= .dD [.lit n,u]/\es=e::r/\e.key=n/\u.kd=0/\e.val.oneCell'=true/\aN E u [e.val]/\fK E ts r
def VI(E:Env)(ob:Ob)(v:Value):Prop :=
 (∃ a,v= .slice a 0 0/\ob.l=[]) \/
 ∃ g c cur,v= .slice (some ⟨g,0,none⟩) ob.l.length (c+1)/\ob.l.length<=c+1/\c+1<=maxLen/\E.w.heap[g]? =some (.cells cur ob.ty (0,0)) /\
  cur.size=(c+1)*bD ob.k/\aJ E ob.k ob.l cur.toList
def ajn(E:Env)(ob:Ob)(v:Value):Prop :=
 ∃ g es clock,v= .map (some g)/\E.w.heap[g]? =some (.map es clock)/\fK E ob.l es.toList
def uN(E:Env)(ob:Ob)(v:Value):Prop:=(ob.k≠gK/\VI E ob v)\/(ob.k=gK/\ajn E ob v)
theorem uN.row{E:Env}{ob:Ob}{v:Value}(h:uN E ob v)(hk:ob.k≠gK):VI E ob v:=by
 rcases h with h|h
 ·exact h.2
 ·exact absurd h.1 hk
theorem uN.map{E:Env}{ob:Ob}{v:Value}(h:uN E ob v)(hk:ob.k=gK):ajn E ob v:=by
 rcases h with h|h
 ·exact absurd hk h.1
 ·exact h.2
theorem uN.of_slice{E:Env}{ob:Ob}{v:Value}(h:uN E ob v){a:Option Addr}{n c:Nat}(hv:v= .slice a n c):VI E ob v/\ob.k≠gK:=by
 rcases h with h|⟨_,g,es,cl,h1,_⟩
 ·exact⟨h.2,h.1⟩
 ·rw[hv] at h1; cases h1
def rQ:Code->Option (Array Tmp×Code×Code)
 | .rangeFunc _ ps a b=>some (ps,a,b)
 | .seq a b=>match rQ a with|some s=>some s|none=>rQ b
 | .cond _ a b=>match rQ a with|some s=>some s|none=>rQ b
 | .block _ b=>rQ b
 | .loop b=>rQ b
 | .scope b=>rQ b
 |_=>none
def ajV(P:Program)(p:Yd):Prop:= ∃ fn c,P.funcs[p.k]? =some fn/\fn.body=some c/\rQ c=some (p.r.params,p.r.assign,p.r.body)
def Me{P:Program}(F:Nat->Prop)(E:Env):Prop:= ∀ p:Yd,E.y=some p->(p.r.state= .ready/\p.r.pending=none)/\ajV P p/\F p.l/\E.w.heap[p.l]? =some (.loop p.r)
structure qY{P:Program}(F:Fr P)(E:Env):Prop where
 obs: ∀ i ob,E.h i=some ob->uN E ob (E.φ i)/\E.κ i=ob.k/\0<bD ob.k
 out: ∀ i ob g,E.h i=some ob->rowB (E.φ i)=some g-> ¬ E.S g/\ ¬ F g
 sep: ∀ i j oi oj g,i≠j->E.h i=some oi->E.h j=some oj->rowB (E.φ i)=some g->rowB (E.φ j)=some g->False
 slt: ∀ g,E.S g->g<E.w.heap.size
 flt: ∀ g,F g->g<E.w.heap.size
 sf: ∀ g,E.S g->F g->False
 gl:(∀ g cs,wZ P g=some cs->F g/\ ∃ ty m,E.w.heap[g]? =some (.cells cs ty m))/\Me (P:=P) F.s E
def pq(M:Nat->Prop)(h:Hp):Prop:= ∀ i ob,h i=some ob->M i/\T.aO M ob.l
structure Rel{P:Program}(F:Fr P)(M:Nat->Prop)(E:Env)(s:AS)(a:Act):Prop where
 hk:qY F E
 he:E.h=s.hp
 fr:bg E s.fr a.tmps.toList
 df:a.defers=F.dl
 mf:T.aO M s.fr
 mh:pq M s.hp
structure Ext{P:Program}(F:Fr P)(E E':Env):Prop where
 s: ∀ g,E.S g->E'.S g
 w: ∀ g,E.S g\/F g->E'.w.heap[g]? =E.w.heap[g]?
 size:E.w.heap.size<=E'.w.heap.size
 os:E'.w.os=E.w.os
 tape:E'.w.tape=E.w.tape
 output:E'.w.output=E.w.output
 dr:E.w.drawn<=E'.w.drawn
 y:E'.y=E.y
theorem Me.of{P:Program}{F F':Nat->Prop}{E E':Env}(h:Me (P:=P) F E)(hf: ∀ g,F g->F' g)(hw: ∀ g,F g->E'.w.heap[g]? =E.w.heap[g]?)(hy:E'.y=E.y):Me (P:=P) F' E':=fun p hp=>by
 obtain⟨h0,h1,h2,h3⟩:=h p (hy.symm.trans hp);exact⟨h0,h1,hf _ h2,(hw _ h2).trans h3⟩
theorem Ext.gl{P:Program}{F:Fr P}{E E':Env}(h:Ext F E E')(hk:qY F E):(∀ g cs,wZ P g=some cs->F g/\ ∃ ty m,E'.w.heap[g]? =some (.cells cs ty m))/\Me (P:=P) F.s E':=⟨fun g cs hg=>by
 obtain⟨h1,ty,m,h2⟩:=hk.gl.1 g cs hg
 exact⟨h1,ty,m,by rw[h.w g (.inr h1)]; exact h2⟩,hk.gl.2.of (fun _ h=>h) (fun g hg=>h.w g (.inr hg)) h.y⟩
theorem Ext.refl{P:Program}(F:Fr P)(E:Env):Ext F E E:=⟨fun _ h=>h,fun _ _=>rfl,ba _,rfl,rfl,rfl,ba _,rfl⟩
theorem Ext.trans{P:Program}{F:Fr P}{E E' E'':Env}(h:Ext F E E')(h':Ext F E' E''):Ext F E E'' :=
 ⟨fun g hg=>h'.s g (h.s g hg),fun g hg=>(h'.w g (hg.imp (h.s g) id)).trans (h.w g hg),di h.size h'.size,
  h'.os.trans h.os,h'.tape.trans h.tape,h'.output.trans h.output,di h.dr h'.dr,h'.y.trans h.y⟩
def Same(E E':Env)(M:Nat->Prop):Prop :=
 ∀ i,M i->(E'.h i).isSome=true->(E.h i).isSome=true/\E'.φ i=E.φ i/\E'.κ i=E.κ i
theorem Keeps.of{P:Program}{F:Fr P}{M:Nat->Prop}{E E':Env}(h:Ext F E E')(hs:Same E E' M):Keeps E E' M :=
 ⟨h.s,fun b hb=>h.w b (.inl hb),hs,h.y⟩
def callable(P:Program)(f:FuncId):Prop:= ∀ args w,Sem.run P (callFunc f args) w= .ok (.enter f args) w
def Ends{P:Program}(F:Fr P)(M:Nat->Prop)(E:Env)(n:Nat)(post:T->Hp->Prop)(e:Ending)(w':World):Prop :=
 ∃ v t E',e= .returned v/\E'.w=w'/\post t E'.h/\lZ E' t v/\qY F E'/\Ext F E E'/\Same E E' M /\
  t.ids (fun i=>M i\/i=n)/\pq (fun i=>M i\/i=n) E'.h
def aP(P:Program)(f:FuncId)(ts:List T)(h:Hp)(n:Nat)(post:T->Hp->Prop):Prop :=
 (∃ t h',post t h')/\callable P f /\
 ∀ (F:Fr P) (M:Nat->Prop) (E:Env) (vs:List Value),qY F E->E.h=h->bg E ts vs->T.aO M ts->pq M h-> ¬ M n ->
  Calls P f vs.toArray E.w (Ends F M E n post)
theorem aP.mono{P:Program}{f:FuncId}{ts:List T}{h:Hp}{n:Nat}{post post':T->Hp->Prop}
  (H:aP P f ts h n post) (hp: ∀ t h',post t h'->post' t h'):aP P f ts h n post':=by
 obtain⟨⟨t,h',h1⟩,h2,h3⟩:=H;refine⟨⟨t,h',hp _ _ h1⟩,h2,fun F M E vs a b c d e g=>(h3 F M E vs a b c d e g).mono ?_⟩;rintro e w' ⟨v,t,E',r1,r2,r3,r4⟩;exact⟨v,t,E',r1,r2,hp _ _ r3,r4⟩
def yD(P:Program)(t:T)(ts:List T)(h:Hp)(n:Nat)(post:T->Hp->Prop):Prop :=
 (∃ t h',post t h') /\
 ∀ (F:Fr P) (M:Nat->Prop) (E:Env) (v:Value) (vs:List Value),qY F E->E.h=h->lZ E t v->bg E ts vs->t.ids M->T.aO M ts->pq M h-> ¬ M n ->
  ∀ p:Yd,E.y=some p->YieldAt Fence.wide 0 P p.l vs.toArray E.w (Ends F M E n post)
def alL{P:Program}(F:Fr P)(M:Nat->Prop)(E:Env)(n k:Nat)(post:T->Hp->Prop)(e:Ending)(w':World):Prop :=
 ∃ v t E',e= .returned v/\E'.w=w'/\post t E'.h/\lZ E' t v/\qY F E'/\Ext F E E'/\Same E E' M /\
  t.ids (fun i=>M i\/n<=i/\i<=n+k)/\pq (fun i=>M i\/n<=i/\i<=n+k) E'.h
def jr(P:Program)(f:FuncId)(ts:List T)(h:Hp)(n k:Nat)(post:T->Hp->Prop):Prop :=
 (∃ t h',post t h')/\callable P f /\
 ∀ (F:Fr P) (M:Nat->Prop) (E:Env) (vs:List Value),qY F E->E.h=h->bg E ts vs->T.aO M ts->pq M h->(∀ i,M i->i<n) ->
  Calls P f vs.toArray E.w (alL F M E n k post)
theorem jr.mono{P:Program}{f:FuncId}{ts:List T}{h:Hp}{n k:Nat}{post post':T->Hp->Prop}
  (H:jr P f ts h n k post) (hp: ∀ t h',post t h'->post' t h'):jr P f ts h n k post':=by
 obtain⟨⟨t,h',h1⟩,h2,h3⟩:=H;refine⟨⟨t,h',hp _ _ h1⟩,h2,fun F M E vs a b c d e g=>(h3 F M E vs a b c d e g).mono ?_⟩;rintro e w' ⟨v,t,E',r1,r2,r3,r4⟩;exact⟨v,t,E',r1,r2,hp _ _ r3,r4⟩
def T.splice(e:T)(off:Nat)(v:T):T:=.agg (e.cells.take off++v.cells++e.cells.drop (off+v.cells.length))
inductive Src where
 |no
 |list (l:List T)
def TI(h:Hp)(k:Nat):T->Src
 | .sl k' _ l=>match l with|[]=>.list []|x::r=>bif k'==k then .list (x::r) else .no
 | .own o=>match h o with|some ob=>bif ob.k==k then .list ob.l else .no|none=>.no
 |_=>.no
def qM(P:Program)(dr:Bool)(n:Nat)(d:Option Nat)(f:FuncId)(ts:List T)(K:AS->Prop)(s:AS):Prop :=
 aP P f ts s.hp n fun t h=>(dr=true->h=s.hp/\t.free=true)/\K {(s.put d t) with hp:=h}
def nS(P:Program)(dr:Bool)(n:Nat)(d:Option Nat)(op:o8)(K:AS->Prop)(s:AS):Prop :=
 match op with
 | .box ty k x=>((s.ev x).kd==k&&(s.ev x).nR s.hp&&Bv k)=true /\
   K {(s.put d (.ptr n 0 0)) with hp:=upd s.hp n (some ⟨ty,k,[s.ev x]⟩)}
 | .al ty k z=>(z.kd==k&&z.nR s.hp&&z.free&&Bv k)=true/\K {(s.put d (.ptr n 0 0)) with hp:=upd s.hp n (some ⟨ty,k,[z]⟩)}
 | .make ty k bytes z x y =>
  match s.ev x,s.ev y with
  | .lit (.int _ a),.lit (.int _ b)=>(z.kd==k&&z.nR s.hp&&z.free&&Bv k)=true/\(0<=a/\a<=b/\b*bytes<=140737488355328/\b<=1152921504606846976) /\
    K {(s.put d (.own n)) with hp:=upd s.hp n (some ⟨ty,k,List.replicate a.toNat z⟩)}
  |_,_=>False
 | .st k x v =>
  match s.ev x with
  | .ptr i j off =>
   match s.hp i with
   |some ob=>((s.ev v).kd==k&&(s.ev v).nR s.hp)=true/\j<ob.l.length/\((off==0&&ob.k==k)||(!(ob.k==0)&&o9 (bD ob.k) off k))=true /\
     K {s with hp:=upd s.hp i (some ⟨ob.ty,ob.k,ob.l.set j (bif (off==0&&ob.k==k) then s.ev v else(ob.l.getD j .any).splice off (s.ev v))⟩)}
   |none=>False
  |_=>False
 | .app ty k bytes x y =>
  match TI s.hp k (s.ev y) with
  | .list m =>
   match s.ev x with
   | .sl k' true l=>(k'=k\/l=[])/\((l=[]\/m≠[])\/(dr=false/\K (s.put d (.sl k' true l))))/\(l.length+m.length)*bytes<=140737488355328/\l.length+m.length<=1152921504606846976 /\
     K {(s.put d (.own n)) with hp:=upd s.hp n (some ⟨ty,k,l++m⟩)}
   | .own i =>
    match s.hp i with
    |some ob=>(ob.k==k&&ob.ty==ty)=true/\(ob.l.length+m.length)*bytes<=140737488355328/\ob.l.length+m.length<=1152921504606846976 /\
      K {(s.put d (.own n)) with hp:=upd (upd s.hp i none) n (some ⟨ty,k,ob.l++m⟩)}
    |none=>False
   |_=>False
  | .no=>False
 | .call f xs=>qM P dr n d f (xs.map s.ev) K s
 | .oP x xs=>match s.ev x with| .fn f cap=>(bif Nat.blt f 4096 then qM P dr n d f (xs.map s.ev++cap) K s else Nat.blt f 8192=true/\qM P dr n d (f % 4096) (.agg cap::xs.map s.ev) K s)|_=>False
 | .Gz x =>
  match s.ev x with
  | .sl _ _ l=>(l=[]->K (s.put d (.lit (.bool true))))/\K (s.put d (.lit (.bool false)))
  | .own i=>match s.hp i with
   |some ob=>(ob.l=[]->K (s.put d (.lit (.bool true))))/\K (s.put d (.lit (.bool false)))/\ob.k≠gK
   |none=>False
  |_=>False
 | .mmk ty=>K {(s.put d (.own n)) with hp:=upd s.hp n (some ⟨ty,gK,[]⟩)}
 | .Vb b x i v =>
  match s.ev x,s.ev i with
  | .own o,.lit m =>
   match s.hp o with
   |some ob=>ob.k=gK/\Bq b m ob.l=true/\((s.ev v).kd==0&&(s.ev v).Ai s.hp)=true/\K {s with hp:=upd s.hp o (some ⟨ob.ty,ob.k,DF m (s.ev v) ob.l⟩)}
   |none=>False
  |_,_=>False
 | .ZN k z x =>
  match s.ev x with
  | .rG i lo hi=>match s.hp i with
   |some ob=>(ob.k==k&&z.kd==k&&z.nR s.hp&&z.free)=true/\hi<=ob.l.length/\K {(s.put d T.un) with hp:=upd s.hp i (some ⟨ob.ty,ob.k,ob.l.take lo++List.replicate (hi-lo) z++ob.l.drop hi⟩)}
   |none=>False
  |_=>False
 | .mso ty k z m ps=>((z.kd==k)&&z.free&&Oo k m (ps.map fun p=>(p.1,s.ev p.2))&&zG s.hp (ps.map fun p=>s.ev p.2)&&Nat.ble (m*bD k) 16777216&&Bv k)=true /\
   K {(s.put d (.own n)) with hp:=upd s.hp n (some ⟨ty,k,wu (List.replicate m z) (ps.map fun p=>(p.1,s.ev p.2))⟩)}
 | .ZM ty k bytes y =>
  match s.ev y with
  | .sl k' _ m=>((k'=k\/m=[])/\T.aO (fun _=>False) m)/\(m.length*bytes<=140737488355328/\m.length<=1152921504606846976)/\K {(s.put d (.own n)) with hp:=upd s.hp n (some ⟨ty,k,m⟩)}
  |_=>False
 | .bot=>False
 |op=>qc s op/\K (s.put d (qt s op))
mutual
def T.lt(n:Nat):T->Bool
 | .own i=>Nat.blt i n
 | .ptr i _ _=>Nat.blt i n
 | .rG i _ _=>Nat.blt i n
 | .agg l=>T.Em n l
 | .fn _ cap=>T.Em n cap
 | .dD l=>T.Em n l
 |_=>true
def T.Em(n:Nat):List T->Bool
 |[]=>true
 |t::ts=>T.lt n t&&T.Em n ts
end
mutual
def T.nid(i:Nat):T->Bool
 | .own j=> !(j==i)
 | .ptr j _ _=> !(j==i)
 | .rG j _ _=> !(j==i)
 | .agg l=>T.abw i l
 | .fn _ cap=>T.abw i cap
 | .dD l=>T.abw i l
 |_=>true
def T.abw(i:Nat):List T->Bool
 |[]=>true
 |t::ts=>T.nid i t&&T.abw i ts
end
def T.newer(n:Nat):T->Bool
 | .own i=>Nat.ble n i
 | .ptr i _ _=>Nat.ble n i
 | .sl _ _ _=>true
 |_=>false
def o8.xs:o8->List X
 | .mv x=>[x]
 | .pick c a b=>[c,a,b]
 | .bin _ x y=>[x,y]
 | .bb _ x y=>[x,y]
 | .not x=>[x]
 | .conv _ x=>[x]
 | .fa _ _ x=>[x]
 | .fv _ _ x=>[x]
 | .ia _ x i=>[x,i]
 | .ch x i=>[x,i]
 | .ld _ x=>[x]
 | .nc x=>[x]
 | .len _ x=>[x]
 | .mx x y=>[x,y]
 | .mn x y=>[x,y]
 | .mk _ ps=>ps.map fun p=>p.2.2
 | .ms _ _ _ _ ps=>ps.map fun p=>p.2
 | .sl _ x lo hi m=>x::(lo.toList++hi.toList++m.toList)
 | .ss x lo hi=>x::(lo.toList++hi.toList)
 | .ex x _=>[x]
 | .mf _ cap=>cap
 | .box _ _ x=>[x]
 | .al .. =>[]
 | .make _ _ _ _ x y=>[x,y]
 | .st _ x v=>[x,v]
 | .app _ _ _ x y=>[x,y]
 | .call _ xs=>xs
 | .oP x xs=>x::xs
 | .Gz x=>[x]
 | .eqs _ _ x y=>[x,y]
 | .mmk _=>[]
 | .mlk _ _ x i=>[x,i]
 | .Vb _ x i v=>[x,i,v]
 | .bts x=>[x]
 | .ZM _ _ _ y=>[y]
 | .slx _ x lo hi m=>x::(lo.toList++hi.toList++m.toList)
 | .TG x=>[x]
 | .ZN _ _ x=>[x]
 | .mso _ _ _ _ ps=>ps.map fun p=>p.2
 | .mb _ x=>[x]
 | .sa _ x=>[x]
 | .bot=>[]
def AS.obj(s:AS)(m:Nat):Option Nat :=
 match s.fr.getD m .any with
 | .ptr i _ _=>some i
 |_=>none
def KP(s:AS)(xs:List X):List Nat->Bool
 |[]=>true
 |m::r=>(bif Nat.blt m 1000000 then(match s.obj m with|some i=>xs.all fun x=>T.nid i (s.ev x)|none=>false)
   else bif Nat.beq m 1000000 then xs.all fun x=>T.lt 10000 (s.ev x) else(match xs with|x::_=>T.newer 10000 (s.ev x)|[]=>false))&&KP s xs r
def lH(o:aT)(s:AS):Prop :=
 (o.fl=true->(match o.op with
  | .st _ x _=>T.newer s.nx (s.ev x)
  | .app _ _ _ x _=>T.newer s.nx (s.ev x)
  | .Vb _ _ _ _=>false
  | .ZN _ _ _=>false
  | .call _ _=>true
  | .oP _ _=>true
  |op=>op.xs.all fun x=>T.lt s.nx (s.ev x))=true)/\KP s o.op.xs o.ne=true
def aT.dr(o:aT)(dr:Bool):Bool :=
 match o.op with
 | .call _ _=>dr&& !o.fl
 | .oP _ _=>dr&& !o.fl
 |_=>dr
def KQ(g:Option (Nat×Bool))(s:AS)(yes no:AS->Prop):Prop :=
 match g with
 |none=>yes s
 |some (d,want) =>
  match s.fr.getD d .any with
  | .lit (.bool b)=>(b=want->yes (s.put (some d) (.lit (.bool want))))/\(b= !want->no (s.put (some d) (.lit (.bool !want))))
  | .lit (.tuple _)=>no s
  |_=>False
def opW(P:Program)(dr:Bool)(n:Nat)(d:Option Nat)(op:o8)(K:AS->Prop)(s:AS):Prop :=
 match op with
 | .call f xs=>dr=false/\ ∃ k,jr P f (xs.map s.ev) s.hp n k fun t h=>K {(s.put d t) with hp:=h,nx:=s.nx+k}
 | .oP x xs=>dr=false/\match s.ev x with
  | .fn f cap=>Nat.blt f 8192=false/\yD P (.fn f cap) (xs.map s.ev) s.hp n fun t h=>K {(s.put d t) with hp:=h}
  |_=>False
 |_=>False
def jM(h:Hp)(n:Nat):Option Ob->Hp
 |none=>h
 |some ob=>upd h n (some ob)
def opF(P:Program)(n:Nat)(d:Option Nat)(op:o8)(K:AS->Prop)(s:AS):Prop :=
 match op with
 | .call f xs=> ∃ (t:T) (o:Option Ob),t.ids (fun i=>i=n)/\(∀ ob,o=some ob->T.bn ob.l=true) /\
   (∀ h:Hp,(∀ i ob,s.hp i=some ob->h i=some ob)->(∀ i ob,s.hp i=some ob->T.aO (fun j=>(h j).isSome=true->(s.hp j).isSome=true) ob.l)->aP P f (xs.map s.ev) h n fun t' h'=>t'=t/\h'=jM h n o)/\K {(s.put d t) with hp:=jM s.hp n o}
 |_=>False
def mkK(o:aT)(s:AS)(K:AS->Prop)(s':AS):Prop:=(o.ad=true-> ∀ i ob,s.hp i=some ob->s'.hp i=some ob)/\K s'
def opR(P:Program)(dr:Bool)(n:Nat)(o:aT)(K:AS->Prop)(s:AS):Prop :=
 (o.ar=false/\nS P (o.dr dr) n o.d o.op (mkK o s K) s)\/(o.ar=true/\o.fl=true/\opF P n o.d o.op K s)
def wR(P:Program)(dr:Bool)(m:Nat)(K:AS->Prop):List aT->Nat->AS->Prop
 |[],_,s=>K {s with nx:=s.nx+m}
 |o::r,i,s=>KQ o.g s (fun s=>lH o s/\(opR P dr (s.nx+i) o (wR P dr m K r (i+1)) s\/opW P dr (s.nx+i) o.d o.op (wR P dr m K r (i+1)) s)) (fun s=>wR P dr m K r (i+1) (s.put o.d T.un))
mutual
def T.ren(ρ:Nat->Nat):T->T
 | .own i=>.own (ρ i)
 | .ptr i j off=>.ptr (ρ i) j off
 | .rG i lo hi=>.rG (ρ i) lo hi
 | .agg l=>.agg (T.dF ρ l)
 | .fn f cap=>.fn f (T.dF ρ cap)
 | .dD l=>.dD (T.dF ρ l)
 |t=>t
def T.dF(ρ:Nat->Nat):List T->List T
 |[]=>[]
 |t::ts=>T.ren ρ t::T.dF ρ ts
end
mutual
def T.sub(Z:Nat->Prop)(h:Hp):T->T->Prop
 | .any,_=>True
 | .sl k f l,.sl k' f' l'=>(l=l'\/(T.dY Z h l l'/\ ∀ t∈l,t.kd=k))/\(k=k'\/l=[])/\(f=true->f'=true)
 | .sl k f l,.rG i lo hi=>f=false/\Z i/\T.bn l=true/\k≠gK/\ ∃ ty l',h i=some ⟨ty,k,l'⟩/\hi<=l'.length/\l=(l'.take hi).drop lo
 | .sl k f l,.own i=>f=false/\Z i/\T.bn l=true/\k≠gK/\ ∃ ty,h i=some ⟨ty,k,l⟩
 | .ref k t,.ptr i j o=>o=0/\Z i/\T.free t=true/\k≠gK/\ ∃ ty l',h i=some ⟨ty,k,l'⟩/\l'[j]? =some t
 | .agg l,.agg l'=>T.dY Z h l l'
 | .dD l,.dD l'=>T.dY Z h l l'
 |t,t'=>t=t'
def T.dY(Z:Nat->Prop)(h:Hp):List T->List T->Prop
 |[],[]=>True
 |t::ts,t'::ts'=>T.sub Z h t t'/\T.dY Z h ts ts'
 |_,_=>False
end
def iw:T->Bool
 | .dD [.lit _,_]=>true
 |_=>false
structure Ov(Z:Nat->Prop)(h:Hp)(ρ:Nat->Nat)(ob ob':Ob):Prop where
 ty:ob'.ty=ob.ty
 k:ob'.k=ob.k
 l:T.dY Z h (T.dF ρ ob.l) ob'.l
 kd:(ob.k=gK/\ob.l.all iw=true)\/(ob.k≠gK/\ ∀ t∈ob.l,t.kd=ob.k)
structure ag9(Z:Nat->Prop)(ρ:Nat->Nat)(s s':AS):Prop where
 fr:T.dY Z s'.hp (T.dF ρ s.fr) s'.fr
 hp: ∀ i ob,s.hp i=some ob-> ∃ ob',s'.hp (ρ i)=some ob'/\ ¬ Z (ρ i)/\Ov Z s'.hp ρ ob ob'
 inj: ∀ i j,(s.hp i).isSome=true->(s.hp j).isSome=true->ρ i=ρ j->i=j
 mf:T.aO (· <s.nx) s.fr
 mh:pq (· <s.nx) s.hp
 pin:s.pin=s'.pin
 le:s'.pin<=s.nx
 fix: ∀ i,i<s.pin->(s.hp i).isSome=true->ρ i=i
def TJ(s s':AS):Prop:= ∃ i k' ty k,s'.fr.getD i .any= .sl k' true []/\Bv k=true /\
 s= {s' with fr:=s'.fr.set i (.own s'.nx),hp:=upd s'.hp s'.nx (some ⟨ty,k,[]⟩),nx:=s'.nx+1}
def TK(s s':AS):Prop:= ∃ j c k' ty k oty cs,s'.hp j=some ⟨oty,cs.length+1,[.agg cs]⟩/\c<cs.length/\cs.getD c .any= .sl k' true []/\Bv k=true/\j<s'.nx /\
 s= {s' with hp:=upd (upd s'.hp j (some ⟨oty,cs.length+1,[.agg (cs.set c (.own s'.nx))]⟩)) s'.nx (some ⟨ty,k,[]⟩),nx:=s'.nx+1}
def Yl(s s':AS):Prop:= ∃ j k' ty k oty,s'.hp j=some ⟨oty,0,[.sl k' true []]⟩/\Bv k=true/\j<s'.nx /\
 s= {s' with hp:=upd (upd s'.hp j (some ⟨oty,0,[.own s'.nx]⟩)) s'.nx (some ⟨ty,k,[]⟩),nx:=s'.nx+1}
def Ox(s s':AS):Prop:= ∃ j i hi ob,s'.fr.getD j .any= .rG i 0 hi/\s'.hp i=some ob/\i<s'.nx/\hi<=ob.l.length/\ob.k≠gK /\
 s= {s' with fr:=s'.fr.set j (.own s'.nx),hp:=upd (upd s'.hp i none) s'.nx (some ⟨ob.ty,ob.k,ob.l.take hi⟩),nx:=s'.nx+1}
structure adU(Z:Nat->Prop)(s s':AS):Prop where
 fr:T.dY Z s'.hp s.fr s'.fr
 hp: ∀ i ob,s.hp i=some ob-> ∃ ob',s'.hp i=some ob'/\ ¬ Z i/\ob'.ty=ob.ty/\ob'.k=ob.k/\T.dY Z s'.hp ob.l ob'.l/\ob.l.map T.kd=ob'.l.map T.kd/\ob.l.map iw=ob'.l.map iw
 nx:s.nx=s'.nx
 pin:s.pin=s'.pin
inductive IJ:AS->AS->Prop
 |refl (s:AS):IJ s s
 |slot {s s' s'':AS}:TJ s' s''->IJ s s'->IJ s s''
 |cell {s s' s'':AS}:TK s' s''->IJ s s'->IJ s s''
 |box {s s' s'':AS}:Yl s' s''->IJ s s'->IJ s s''
 |take {s s' s'':AS}:Ox s' s''->IJ s s'->IJ s s''
 |fz {s s' s'':AS} {Z:Nat->Prop}:adU Z s' s''->IJ s s'->IJ s s''
def Wk(s s':AS):Prop:= ∃ s1,IJ s1 s'/\(s=s1\/ ∃ Z ρ,ag9 Z ρ s s1)
def Cb(body:(qL->AS->Prop)->AS->Prop)(Q:qL->AS->Prop)(s:AS):Prop :=
 ∃ (I:AS->Prop) (μ:AS->Nat),(∃ s₀,Wk s₀ s/\I s₀) /\
  ∀ s,I s->body (fun e s'=>match e with| .normal=> ∃ s₁,Wk s₁ s'/\I s₁/\μ s₁<μ s|e=>Q e s') s
def aw(P:Program):aC->(qL->AS->Prop)->AS->Prop
 | .skip,Q,s=>Q .normal s
 | .reg dr ops,Q,s=>wR P dr ops.length (Q .normal) ops 0 s
 | .seq a b,Q,s=>aw P a (fun e s'=>match e with| .normal=>aw P b Q s'|e=>Q e s') s
 | .cond c a b,Q,s =>
  match s.ev c with
  | .lit (.bool t)=>(t=true->aw P a Q s)/\(t=false->aw P b Q s)
  |_=>False
 | .blk id b,Q,s=>aw P b (fun e s'=>match e with| .exit j=>(bif j==id then Q .normal s' else Q (.exit j) s')|e=>Q e s') s
 | .exit id,Q,s=>Q (.exit id) s
 | .ret,Q,s=>Q .ret s
 | .loop b,Q,s=>Cb (aw P b) Q s
def MQ:Value->T
 | .slice none 0 0=>.sl 0 true []
 |v=>.lit v
def Ed:Value->T
 | .agg cs=>.agg (cs.toList.map MQ)
 |v=>MQ v
def TM:Value->Bool
 | .agg cs=>cs.toList.all (·.oneCell')
 |_=>true
def aY:Operand->Option X
 | .tmp t=>some (.t t)
 | .const v=>if TM v then some (.c (Ed v)) else none
 | .func f=>if f<4096 then some (.c (.fn f [])) else none
 | .global _=>none
def kindOf(P:Program)(ty:TypeId):Option Nat :=
 match P.info? ty,P.underlying ty with
 |some i,some (.struct _)=>if i.size<1000000 then some (i.size+1) else none
 |some i,some (.array _ _)=>if i.size<1000000 then some (i.size+1) else none
 |some i,some _=>if i.size=1 then some 0 else none
 |_,_=>none
def Oy(g:TypeId->Option Nat):List Field->Nat->Option Nat
 |[],off=>some off
 |f::fs,off=>if f.name≠ "_" /\ f.offset=off then(match g f.type with|some n=>Oy g fs (off+n)|none=>none) else none
def DL(P:Program):Nat->TypeId->Option Nat
 |0,_=>none
 |d+1,t=>match P.underlying t,kindOf P t with
  |some (.int .i64),some 0=>some 1
  |some (.struct fs),some k=>if P.stoodInHeld t=false/\P.eqGuardType P.depth t=false then(match Oy (DL P d) fs.toList 0 with|some n=>if k=n+1 then some n else none|none=>none) else none
  |_,_=>none
def zeroOf(P:Program)(ty:TypeId):Option Value:=(P.info? ty).bind (·.zero)
def AL(P:Program)(ty:TypeId)(f:Nat):Option (Nat×Nat) :=
 match P.underlying ty with
 |some (.struct fs)=>match fs[f]? with
  |some fd=>match kindOf P fd.type with
   |some k=>if bD k=0 then none else some (fd.offset,k)
   |none=>none
  |none=>none
 |_=>none
def elemOf(P:Program)(ty:TypeId):Option TypeId :=
 match P.underlying ty with
 |some (.slice e)=>some e
 |_=>none
def nN(z:Value):Bool:=z.cells.toList.all (·.oneCell')
def nY:List (Nat×Operand)->Option (List (Nat×X))
 |[]=>some []
 |(i,x)::r=>match aY x,nY r with
  |some x',some r'=>some ((i,x')::r')
  |_,_=>none
def compFields(P:Program)(ty:TypeId):List (Nat×Operand)->Option (List (Nat×Nat×X))
 |[]=>some []
 |(i,x)::r=>match aY x,AL P ty i,compFields P ty r with
  |some x',some (off,k),some r'=>some ((off,bD k,x')::r')
  |_,_,_=>none
def tC:List Operand->Option (List X)
 |[]=>some []
 |x::r=>match aY x,tC r with
  |some x',some r'=>some (x'::r')
  |_,_=>none
def yH:Option Operand->Option (Option X)
 |none=>some none
 |some x=>(aY x).map some
def vG(P:Program)(b:Builtin)(argTypes:List TypeId)(xs:List X):Option o8 :=
 match b,argTypes,xs with
 | .len,t::_,[x] =>
  match P.underlying t with
  |some (.slice _)=>some (.len false x)
  |some .string=>some (.len true x)
  |_=>none
 | .cap,t::_,[x] =>
  match P.underlying t with
  |some (.slice _)=>some (.TG x)
  |_=>none
 | .clear,t::_,[x] =>
  match P.underlying t with
  |some (.slice e)=>match kindOf P e,zeroOf P e with
   |some k,some z=>if nN z/\0<bD k then some (.ZN k (Ed z) x) else none
   |_,_=>none
  |_=>none
 | .max,_,[x,y]=>some (.mx x y)
 | .min,_,[x,y]=>some (.mn x y)
 | .append,[t,t'],[x,y] =>
  match P.underlying t,P.underlying t' with
  |some (.slice e),some (.slice e') =>
   match kindOf P e,P.info? e with
   |some k,some i=>match i.zero with
    |some z=>if e=e'/\z.cells.size=bD k/\0<bD k then some (.app e k i.bytes x y) else none
    |none=>none
   |_,_=>none
  |_,_=>none
 |_,_,_=>none
def isRow:Value->Bool
 | .slice _ _ _=>true
 |_=>false
def ajW(z:Value):Bool:=z.cells.toList.any isRow
def Oz(nd:Bool):o8->o8
 | .app ty k b (.c (.sl 0 true [])) y=>bif nd then .app ty k b (.c (.sl 0 true [])) y else .ZM ty k b y
 |op=>op
def wB(P:Program)(nd:Bool):Op->Option o8
 | .move x=>(aY x).map .mv
 | .assign x=>(aY x).map .mv
 | .pick c a b=>match aY c,aY a,aY b with
  |some c,some a,some b=>some (.pick c a b)
  |_,_,_=>none
 | .binOp op t x y _=>match aY x,aY y with
  |some x,some y=>match P.underlying t with
   |some (.int _)=>some (.bin op x y)
   |some .string=>some (.bin op x y)
   |some .bool=>match op with
    | .eql=>some (.bb false x y)
    | .neq=>some (.bb true x y)
    |_=>none
   |some (.struct _)=>match DL P 20 t,op with
    |some n,.eql=>some (.eqs false n x y)
    |some n,.neq=>some (.eqs true n x y)
    |_,_=>none
   |some (.slice _)=>match op,y with
    | .eql,.c (.sl 0 true [])=>some (.Gz x)
    |_,_=>none
   |_=>none
  |_,_=>none
 | .makeMap t none=>match P.underlying t with
  |some (.map _ _)=>some (.mmk t)
  |_=>none
 | .lookup t x i true=>match aY x,aY i,P.underlying t with
  |some x,some i,some (.map kt et)=>match P.underlying kt,zeroOf P et,kindOf P et with
   |some (.int .i64),some z,some 0=>some (.mlk false (MQ z) x i)
   |some .string,some z,some 0=>some (.mlk true (MQ z) x i)
   |_,_,_=>none
  |_,_,_=>none
 | .makeInterface _ _=>some .bot
 | .panic _=>some .bot
 | .mapUpdate t x i v=>match aY x,aY i,aY v,P.underlying t with
  |some x,some i,some v,some (.map kt _)=>match P.underlying kt with
   |some (.int .i64)=>some (.Vb false x i v)
   |some .string=>some (.Vb true x i v)
   |_=>none
  |_,_,_,_=>none
 | .unOp .not _ x=>(aY x).map .not
 | .convert src dst x=>match aY x,P.underlying src,P.underlying dst with
  |some x,some _,some (.int k)=>some (.conv k x)
  |some x,some (.slice e),some .string=>match P.underlying e,kindOf P e with
   |some (.int .u8),some 0=>some (.bts x)
   |_,_=>none
  |_,_,_=>none
 | .fieldAddr ty x f=>match aY x,AL P ty f with
  |some x,some (off,k)=>some (.fa off k x)
  |_,_=>none
 | .field ty x f=>match aY x,AL P ty f with
  |some x,some (off,k)=>some (.fv off k x)
  |_,_=>none
 | .indexAddr ty x i=>match aY x,aY i,elemOf P ty with
  |some x,some i,some e=>(kindOf P e).map fun k=>.ia k x i
  |_,_,_=>none
 | .index ty x i=>match aY x,aY i,P.underlying ty with
  |some x,some i,some .string=>some (.ch x i)
  |_,_,_=>none
 | .load ty x=>match aY x,kindOf P ty with
  |some x,some k=>some (.ld k x)
  |_,_=>none
 | .store ty x v=>match aY x,aY v,kindOf P ty with
  |some x,some v,some k=>some (.st k x v)
  |_,_,_=>none
 | .nilCheck x=>(aY x).map .nc
 | .build ty ps=>match P.underlying ty,zeroOf P ty,compFields P ty ps.toList with
  |some (.struct fs),some (.agg cs),some ps =>
   if nN (.agg cs)/\(fs.toList.mapM (fun f=>(P.info? f.type).map fun i=>(f.offset,i.size))).isSome=true then some (.mk (cs.toList.map MQ) ps) else none
  |some (.array _ e),some (.agg cs),_=>match nY ps.toList,kindOf P e with
   |some ps,some 0=>if nN (.agg cs) then some (.mk (cs.toList.map MQ) (ps.map fun p=>(p.1,1,p.2))) else none
   |_,_=>none
  |_,_,_=>none
 | .buildSlice ty n ps=>match elemOf P ty,nY ps.toList with
  |some e,some ps=>match kindOf P e,zeroOf P e with
   |some k,some z=>if nN z/\(Ed z).kd=k then(if nd=true/\ajW z=true then some (.mso e k (Ed z) n ps) else some (.ms e k (Ed z) n ps)) else none
   |_,_=>none
  |_,_=>none
 | .slice ty x lo hi mx=>match aY x,yH lo,yH hi,yH mx with
  |some x,some lo,some hi,some mx=>match P.underlying ty with
   |some (.slice e)=>(kindOf P e).map fun k=>bif nd then .slx k x lo hi mx else .sl k x lo hi mx
   |some .string=>match mx with
    |none=>some (.ss x lo hi)
    |some _=>none
   |some (.array n e)=>match lo,hi,mx,kindOf P e with
    |none,none,none,some 0=>some (.sa n x)
    |_,_,_,_=>none
   |_=>none
  |_,_,_,_=>none
 | .extract x i=>(aY x).map fun x=>.ex x i
 | .makeFunc (.func f) first cap=>if first.size=0 then(tC cap.toList).map fun c=>.mf f c else
   match first.toList,cap.toList with
   |[x],[]=>(aY x).map fun x=>.mb f x
   |_,_=>none
 | .box ty x=>match aY x,kindOf P ty with
  |some x,some k=>some (.box ty k x)
  |_,_=>none
 | .alloc ty=>match kindOf P ty,zeroOf P ty with
  |some k,some z=>if nN z then some (.al ty k (Ed z)) else none
  |_,_=>none
 | .makeSlice ty n c=>match aY n,aY c,elemOf P ty with
  |some n,some c,some e=>match kindOf P e,P.info? e with
   |some k,some i=>match i.zero with
    |some z=>if nN z then some (.make e k i.bytes (Ed z) n c) else none
    |none=>none
   |_,_=>none
  |_,_,_=>none
 | .call c=>match tC c.args.toList with
  |some xs=>match c.callee with
   | .value (.func f)=>some (.call f xs)
   | .value x=>(aY x).map fun x=>.oP x xs
   | .builtin b=>(vG P b c.argTypes.toList xs).map (Oz nd)
   | .invoke _ _=>none
  |none=>none
 |_=>none
theorem addr_add(b off n:Nat):(⟨b,off,none⟩:Addr).add n=⟨b,off+n,none⟩:=by
 unfold Addr.add; split<;>simp_all
theorem Nv{w:World}{b:Nat}{cur:Array Value}{e:TypeId}{m:Nat×Nat}(h:w.heap[b]? =some (.cells cur e m))(off:Nat) :
  w.cell? ⟨b,off,none⟩=cur[off]? :=by
 simp[World.cell?,h]
section kinds
variable {P:Program} {ty k:Nat} {w:World}
theorem yY(h:kindOf P ty=some k): ∃ i d,P.info? ty=some i/\P.underlying ty=some d/\i.size=bD k /\
  ((match d with| .struct _=>true| .array _ _=>true|_=>false)=(k !=0)):=by
 unfold kindOf at h;split at h
 ·rename_i i fs h1 h2;split at h
  ·cases h; exact⟨i,_,h1,h2,rfl,by simp⟩
  ·cases h
 ·rename_i i n e h1 h2;split at h
  ·cases h; exact⟨i,_,h1,h2,rfl,by simp⟩
  ·cases h
 ·rename_i i d hs ha h1 h2;split at h
  ·cases h;refine⟨i,d,h1,h2,by simpa [bD],?_⟩;cases d<;>simp_all
  ·cases h
 ·cases h
theorem EO(h:kindOf P ty=some k):k≠gK:=by
 unfold kindOf at h;split at h
 ·split at h
  ·cases h; simp only[gK]; omega
  ·cases h
 ·split at h
  ·cases h; simp only[gK]; omega
  ·cases h
 ·split at h
  ·cases h; simp only[gK]; omega
  ·cases h
 ·cases h
theorem jo(h:kindOf P ty=some k):(sizeOf ty).run P w= .ok (bD k) w:=by
 obtain⟨i,d,h1,_,h3,_⟩:=yY h;simp[sizeOf,typeInfo,h1,h3]
theorem wX(h:kindOf P ty=some k):(isAgg ty).run P w= .ok (k !=0) w:=by
 obtain⟨i,d,_,h2,_,h4⟩:=yY h;rw[<- h4];simp only[isAgg,underlying];cases d<;>simp[h2]
theorem Ji(h:kindOf P ty=some k){b off:Nat}{cur:Array Value}{e:TypeId}{m:Nat×Nat}(hh:w.heap[b]? =some (.cells cur e m))
  (hl:off+bD k<=cur.size) :
  (k≠0->(loadVar ty ⟨b,off,none⟩).run P w= .ok (.agg ((cur.toList.drop off).take (bD k)).toArray) w) /\
  (k=0-> ∃ v,cur[off]? =some v/\(loadVar ty ⟨b,off,none⟩).run P w= .ok v w):=by
 constructor
 ·intro hk;have hlen:((cur.toList.drop off).take (bD k)).length=bD k:=by simp; omega
  have hc:=run_loadCells_list (P:=P) w ⟨b,off,none⟩ ((cur.toList.drop off).take (bD k)) (fun j v hv=>by
   rw[addr_add,Nv hh];by_cases hj:j<bD k
   ·rw[cN hj,cT] at hv; simpa using hv
   ·rw[eO (by omega)] at hv; cases hv)
  rw[hlen] at hc;have hk':(k !=0)=true:=by simpa using hk
  simp only[loadVar,Sem.run_bind,wX h,Result.andThen_ok,hk',cn,jo h,hc,Sem.run_pure]
 ·rintro rfl;simp only[bD] at hl;have hv:cur[off]? =some (cur[off]'(by omega)):=by simp
  refine⟨_,hv,?_⟩;simp only[loadVar,Sem.run_bind,wX h,Result.andThen_ok];simp[load,Sem.run,Nv hh,hv]
end kinds
section ops
variable {P:Program} {F:Fr P} {M:Nat->Prop} {E:Env} {s:AS} {a:Act}
theorem Jj{v:Value}:aN E (MQ v) [v]:=by
 unfold MQ;split
 ·exact⟨none,0,rfl,by simp,by simp,.inl rfl⟩
 ·simp[aN]
theorem OA(v:Value):(MQ v).kd=0:=by unfold MQ; split<;>rfl
theorem F7: ∀ {vs:List Value},(∀ v∈vs,v.oneCell'=true)->aX E (vs.map MQ) vs:=by
 intro vs;induction vs with
 |nil=>intro _; simp[aX]
 |cons v vs ih =>
  intro h;simp only[bl,aX];exact⟨OA v,v,vs,rfl,h v (by simp),Jj,ih fun u hu=>h u (by simp[hu])⟩
theorem Ym{v:Value}(h: ∀ cs,v≠ .agg cs):Ed v=MQ v:=by
 cases v<;>first|rfl|exact absurd rfl (h _)
theorem adV{v:Value}(h:TM v=true):lZ E (Ed v) v:=by
 cases v with
 |agg cs =>
  rw[Ed,BZ]
  exact⟨cs,rfl,F7 fun u hu=>by
   simp only[TM,bj,Array.mem_toList_iff] at h
   exact h u (by simpa using hu)⟩
 |_=>rw[Ym (by intro cs hcs; cases hcs)]; exact .inr ⟨OA _,Jj⟩
theorem Jk(v:Value):(MQ v).ids (fun _=>False):=by unfold MQ; split<;>simp[T.ids]
theorem aha(v:Value):(Ed v).ids (fun _=>False):=by
 cases v with
 |agg cs=>simp only[Ed,T.ids]; exact cu.2 fun t ht=>by obtain⟨u,_,rfl⟩:=ax.1 ht; exact Jk u
 |_=>rw[Ym (by intro cs hcs; cases hcs)]; exact Jk _
theorem OB{f:FuncId}(h:f<4096){cs:Array Value}:fnV f cs= .func (.func f) #[] cs:=by
 unfold fnV; rw[cF.mpr h]; rfl
theorem ZO{f:FuncId}(h: ¬ f<4096){cs:Array Value}:fnV f cs= .func (.func (f % 4096)) #[.agg cs] #[]:=by
 unfold fnV
 have:Nat.blt f 4096=false:=by
  cases h':Nat.blt f 4096 with
  |false=>rfl
  |true=>rw[cF] at h'; exact absurd h' h
 rw[this]; rfl
theorem ajX{f:FuncId}(h:f<4096){cs:Array Value}:fnV (f+4096) cs= .func (.func f) #[.agg cs] #[]:=by
 rw[ZO (fun q=>Nat.not_lt_of_le (Nat.le_add_left 4096 f) q)];have e:(f+4096) % 4096=f:=by rw[Nat.add_mod_right]; exact Nat.mod_eq_of_lt h
 rw[e]
theorem KR(f:FuncId)(cs:Array Value):(f<4096/\fnV f cs= .func (.func f) #[] cs)\/(¬ f<4096/\fnV f cs= .func (.func (f % 4096)) #[.agg cs] #[]):=by
 by_cases h:f<4096
 ·exact .inl ⟨h,OB h⟩
 ·exact .inr ⟨h,ZO h⟩
theorem bY(R:Rel F M E s a){x:Operand}{x':X}(h:aY x=some x'):lZ E (s.ev x') (a.eval x):=by
 cases x with
 |tmp t =>
  cases h;have:=zH R.fr t;simpa [AS.ev,Act.eval] using this
 |const v =>
  simp only[aY] at h;split at h
  ·cases h; exact adV (by assumption)
  ·cases h
 |global g=>cases h
 |func f =>
  simp only[aY] at h;split at h
  ·rename_i hf;cases h;exact .inr ⟨rfl,by simp only[AS.ev,aN,Act.eval]; exact .inl ⟨cF.mpr (Nat.lt_trans hf (by decide)),#[],by rw[OB hf],rfl⟩⟩
  ·cases h
theorem mX(R:Rel F M E s a){x:Operand}{x':X}(h:aY x=some x'):(s.ev x').ids M:=by
 cases x with
 |tmp t=>cases h; exact yU R.mf (by simp[T.ids])
 |const v =>
  simp only[aY] at h;split at h
  ·cases h; exact T.aW (fun _ hf=>hf.elim) _ (aha v)
  ·cases h
 |global g=>cases h
 |func f =>
  simp only[aY] at h;split at h
  ·cases h; simp[AS.ev,T.ids,T.aO]
  ·cases h
def uO(P:Program)(E:Env)(a:Act)(o:Oper)(t:T):Prop :=
 ∃ v,(execOp a.eval o).run P E.w= .ok (.value v) E.w/\lZ E t v
theorem alM(R:Rel F M E s a){x:Operand}{x':X}(hx:aY x=some x'){o:Oper}(ho:o.op= .move x\/o.op= .assign x):uO P E a o (s.ev x'):=by
 refine⟨_,?_,bY R hx⟩;rcases ho with ho|ho<;>simp[execOp,ho]
theorem Nw{t:T}(h:isBool t=true): ∃ b,t= .lit (.bool b):=by
 unfold isBool at h; split at h
 ·exact⟨_,rfl⟩
 ·cases h
theorem ajY(R:Rel F M E s a){c x y:Operand}{c' x' y':X}(hc:aY c=some c')(hx:aY x=some x')(hy:aY y=some y'){o:Oper}
  (ho:o.op= .pick c x y) (h:qc s (.pick c' x' y')):uO P E a o (qt s (.pick c' x' y')):=by
 have rc:=bY R hc; have rx:=bY R hx; have ry:=bY R hy;obtain⟨b,hb⟩:=Nw h;rw[hb,aQ] at rc;refine⟨if b then a.eval x else a.eval y,?_,?_⟩
 ·simp[execOp,ho,rc,asBool]
 ·simp only[qt,hb,EN];split
  ·rename_i e1 e2; rw[e1,aQ] at rx; rw[e2,aQ] at ry; rw[rx,ry,aQ]; cases b<;>rfl
  ·cases b<;>simpa
theorem ajZ{k k':IntKind}(h:kEq k k'=true):k=k':=by cases k<;>cases k'<;>first|rfl|cases h
theorem ahb{op:BinOp}{u v r:Value}(h:En op u v=some r)(t:TypeId)(x y:Operand)(w:World) :
  (do eqGuard op t x y u v; binOp op t u v:Sem Value).run P w= .ok r w:=by
 unfold En at h;split at h
 ·rename_i k c k' d;by_cases hsh:op= .shr
  ·subst hsh;have hg:eqGuard BinOp.shr t x y (.int k c) (.int k' d)=pure ():=by unfold eqGuard; rfl
   rw[hg];have h':(bif decide (0<=d) then some (Value.int k (c.fdiv (2 ^ min d.toNat k.bits))) else none)=some r:=by cases hk:kEq k k'<;>rw[hk] at h<;>exact h
   by_cases hd:0<=d
   ·simp only[hd,iB,bE,bi] at h';subst h';have hd': ¬ d<0:=by omega
    simp[binOp,Op.shift,hd']
   ·simp[hd] at h'
  cases hk:kEq k k' with
  |false=>rw[hk] at h; cases op<;>first|(exact absurd rfl hsh)|(simp at h)
  |true =>
   have:=ajZ hk;subst this;have hg:eqGuard op t x y (.int k c) (.int k d)=pure ():=by
    unfold eqGuard; cases op<;>rfl
   rw[hg];rw[hk] at h;by_cases hr:op= .rem
   ·subst hr;by_cases hd:d=0
    ·simp[hd] at h
    ·simp only[hd,decide_false,ap,bi] at h;subst h;simp[binOp,Op.intDiv,hd]
   cases op<;>first|(exact absurd rfl hsh)|(exact absurd rfl hr)|(simp at h<;>subst h<;>simp[binOp,Op.intArith,Op.intCmp,Op.intBits,ajU])
 ·rename_i c d;have hg:eqGuard op t x y (.string c) (.string d)=pure ():=by
   unfold eqGuard; cases op<;>rfl
  rw[hg];by_cases ha:op= .add
  ·subst ha;by_cases hs:(((c.size+d.size:Nat):Int)<=9223372036854775807)
   ·simp only[hs,iB,bE,bi] at h;subst h;have hn: ¬ (((c.size+d.size:Nat):Int)>IntKind.i64.max):=by
     have:IntKind.i64.max=9223372036854775807:=by decide
     rw[this]; omega
    show Sem.run P (do pure (); if((c.size+d.size:Nat):Int)>IntKind.i64.max then _ else pure (Value.string (c++d))) w=_;rw[bB hn]; rfl
   ·simp only[hs,decide_false,ap] at h; cases h
  cases op<;>first|(exact absurd rfl ha)|(simp at h<;>subst h<;>simp[binOp,Op.stringOp])
 ·cases h
theorem ajo(R:Rel F M E s a){op:BinOp}{t ty':TypeId}{x y:Operand}{x' y':X}(hx:aY x=some x')(hy:aY y=some y'){o:Oper}
  (ho:o.op= .binOp op t x y ty') (h:qc s (.bin op x' y')):uO P E a o (qt s (.bin op x' y')):=by
 have rx:=bY R hx; have ry:=bY R hy;simp only[qc] at h;split at h
 ·rename_i u v e1 e2;rw[e1,aQ] at rx; rw[e2,aQ] at ry;cases hb:En op u v with
  |none=>rw[hb] at h; cases h
  |some r =>
   refine⟨r,?_,?_⟩
   ·simp only[execOp,ho,rx,ry];have:=ahb (P:=P) hb t x y E.w;simp only[Sem.run_bind] at this ⊢;rw[this]; rfl
   ·simp only[qt,e1,e2,hb,aQ]
 ·exact h.elim
theorem alN(R:Rel F M E s a){op:BinOp}{t ty':TypeId}{ne:Bool}{x y:Operand}{x' y':X}(hx:aY x=some x')(hy:aY y=some y'){o:Oper}
  (ho:o.op= .binOp op t x y ty') (hop:op=if ne then .neq else .eql) (ht:P.underlying t=some .bool) (h:qc s (.bb ne x' y')):uO P E a o (qt s (.bb ne x' y')):=by
 have rx:=bY R hx; have ry:=bY R hy;simp only[qc,aD] at h;obtain⟨b,hb⟩:=Nw h.1;obtain⟨c,hc⟩:=Nw h.2;rw[hb,aQ] at rx; rw[hc,aQ] at ry;refine⟨.bool (bif ne then !(b==c) else b==c),?_,by simp only[qt,hb,hc,aQ]⟩;have heq:(Op.equal t (.bool b) (.bool c)).run P E.w= .ok (b==c) E.w:=by
  have h: ∀ d,(Op.equalIn (d+1) t (.bool b) (.bool c)).run P E.w= .ok (b==c) E.w:=fun d=>by
   simp only[Op.equalIn,underlying,Sem.run_bind,run_program,Result.andThen_ok,ht,Sem.run_pure]
  exact h 9999
 have hg:eqGuard op t x y (.bool b) (.bool c)=pure ():=by
  unfold eqGuard; cases op<;>rfl
 cases ne
 ·simp only[hop,da,cW] at ho hg ⊢;simp only[execOp,ho,rx,ry,hg,binOp,Sem.run_bind,Sem.run_pure,Result.andThen_ok,heq,ap]
 ·simp only[hop,cn] at ho hg ⊢;simp only[execOp,ho,rx,ry,hg,binOp,Sem.run_bind,Sem.run_pure,Result.andThen_ok,heq,bE]
theorem alO(R:Rel F M E s a){t:TypeId}{x:Operand}{x':X}(hx:aY x=some x'){o:Oper}
  (ho:o.op= .unOp .not t x) (h:qc s (.not x')):uO P E a o (qt s (.not x')):=by
 have rx:=bY R hx;obtain⟨b,hb⟩:=Nw h;rw[hb,aQ] at rx;exact⟨.bool !b,by simp[execOp,ho,rx,Op.unary],by simp only[qt,hb,aQ]⟩
theorem aj0(R:Rel F M E s a){src dst:TypeId}{k:IntKind}{d:TypeDesc}{x:Operand}{x':X}(hx:aY x=some x'){o:Oper}
  (ho:o.op= .convert src dst x) (h1:P.underlying src=some d) (h2:P.underlying dst=some (.int k)) (h:qc s (.conv k x')):uO P E a o (qt s (.conv k x')):=by
 have rx:=bY R hx;simp only[qc] at h;split at h
 ·rename_i k' n e1;rw[e1,aQ] at rx;refine⟨.int k (k.wrap n),?_,by simp only[qt,e1,aQ]⟩;simp[execOp,ho,rx,convert,underlying,h1,h2,Conv.intToInt]
 ·exact h.elim
theorem HY{ty f off k:Nat}(h:AL P ty f=some (off,k)): ∃ fs fd,P.underlying ty=some (.struct fs)/\fs[f]? =some fd/\kindOf P fd.type=some k/\bD k≠0/\fd.offset=off:=by
 unfold AL at h;split at h
 ·rename_i fs h1;split at h
  ·rename_i fd h2;split at h
   ·rename_i k' h3;split at h
    ·cases h
    ·rename_i h4; cases h; exact⟨fs,fd,h1,h2,h3,h4,rfl⟩
   ·cases h
  ·cases h
 ·cases h
theorem MB{ty f off k:Nat}(h:AL P ty f=some (off,k))(b o:Nat)(w:World) :
  (Instr.fieldAt ty (.pointer (some ⟨b,o,none⟩)) f).run P w= .ok (.pointer (some ⟨b,o+off,none⟩)) w:=by
 obtain⟨fs,fd,h1,h2,h3,h4,rfl⟩:=HY h;simp only[Instr.fieldAt,underlying,Sem.run_bind,run_program,Result.andThen_ok,h1,Sem.run_pure,h2,Instr.sureAddr,fieldPlace,jo h3,h4,cW,addr_add]
theorem anj(R:Rel F M E s a){ty f off k:Nat}{x:Operand}{x':X}(hx:aY x=some x'){o:Oper}
  (ho:o.op= .fieldAddr ty x f) (hf:AL P ty f=some (off,k)) (h:qc s (.fa off k x')):uO P E a o (qt s (.fa off k x')):=by
 have rx:=bY R hx;simp only[qc] at h;split at h
 ·rename_i i j oo e1;rw[e1,aB rfl] at rx;simp only[aN] at rx;obtain⟨u,hu,hlive⟩:=rx;obtain⟨b,n,c,hφ,hu'⟩:=hlive (by rw[R.he]; exact h);have ha:a.eval x= .pointer (some ⟨b,j*bD (E.κ i)+oo,none⟩):=by rw[<- hu']; simpa using hu
  refine⟨.pointer (some ⟨b,j*bD (E.κ i)+oo+off,none⟩),?_,?_⟩
  ·simp[execOp,ho,ha,MB hf]
  ·simp only[qt,e1];rw[aB rfl];simp only[aN];exact⟨_,rfl,fun _=>⟨b,n,c,hφ,by rw[gt]⟩⟩
 ·rename_i kt t e1;rw[e1,aB rfl] at rx;simp only[aN] at rx;obtain⟨b,off',cur,e,m,hu,hS,hh,hk,hid,hl,hr⟩:=rx;simp only[aD,bq,cE,ne_eq] at h;have ha:a.eval x= .pointer (some ⟨b,off',none⟩):=by simpa using hu
  have hkt:t.kd≠0:=by rw[hk]; exact h.1
  have hp:=KO hr hkt (off:=off) (k:=k) (by rw[<- rP,hk]; exact h.2);refine⟨.pointer (some ⟨b,off'+off,none⟩),?_,?_⟩
  ·simp[execOp,ho,ha,MB hf]
  ·simp only[qt,e1];rw[aB rfl];simp only[aN];refine⟨b,off'+off,cur,e,m,rfl,hS,hh,hp.2.1,Oq hid _ _,?_,?_⟩
   ·have:=hp.2.2;simp only[bR,cA] at this hl ⊢; omega
   ·have h1:=hp.1;rw[List.drop_take,List.take_take,dm] at h1;have h2:=h.2;simp only[o9,ff] at h2;rw[em (by omega)] at h1;exact h1
 ·exact h.elim
theorem ank(R:Rel F M E s a){ty f off k:Nat}{x:Operand}{x':X}(hx:aY x=some x'){o:Oper}
  (ho:o.op= .field ty x f) (hf:AL P ty f=some (off,k)) (h:qc s (.fv off k x')):uO P E a o (qt s (.fv off k x')):=by
 have rx:=bY R hx;obtain⟨fs,fd,h1,h2,h3,h4,rfl⟩:=HY hf;simp only[qc,aD,bq,cE,ne_eq] at h;obtain⟨hk,hp⟩:=h;rcases rx with ⟨_,cs,ha,hr⟩|⟨hk',_⟩
 ·have hpt:=KO hr hk (off:=fd.offset) (k:=k) (by rw[<- rP]; exact hp);have hlen:=hpt.2.2;simp only[bu] at hlen;simp only[uO,qt];cases k with
  |zero =>
   simp only[bD] at hlen hpt;have hget:cs[fd.offset]? =some (cs[fd.offset]'(by omega)):=by simp
   refine⟨cs[fd.offset]'(by omega),?_,?_⟩
   ·simp only[execOp,ho,ha,Instr.field,underlying,Sem.run_bind,run_program,Result.andThen_ok,h1,Sem.run_pure,h2,asAgg,part,wX h3];simp[hget]
   ·refine .inr ⟨hpt.2.1,?_⟩;have:=hpt.1;rw[eD (by simp; omega),ee,List.take_zero] at this;simpa using this
  |succ m =>
   refine⟨.agg (cs.extract fd.offset (fd.offset+m)),?_,?_⟩
   ·have hz:(sizeOf fd.type).run P E.w= .ok m E.w:=jo h3;simp only[execOp,ho,ha,Instr.field,underlying,Sem.run_bind,run_program,Result.andThen_ok,h1,Sem.run_pure,h2,asAgg,part,wX h3];simp[hz]
   ·refine .inl ⟨by rw[hpt.2.1]; simp,_,rfl,?_⟩;have:=hpt.1;simp only[bD] at this;rw[Array.toList_extract,List.extract_eq_take_drop,Nat.add_sub_cancel_left];exact this
 ·exact absurd hk' hk
theorem yZ{ty e:Nat}(h:elemOf P ty=some e):P.underlying ty=some (.slice e):=by
 unfold elemOf at h;split at h
 ·rename_i e' h1; cases h; exact h1
 ·cases h
theorem run_indexAt{ty e k:Nat}(he:elemOf P ty=some e)(hk:kindOf P e=some k){b off len cap:Nat}{kd:IntKind}{n:Int}(h0:0<=n)(h1:n<len)(w:World) :
  (Instr.indexAt ty (.slice (some ⟨b,off,none⟩) len cap) (.int kd n)).run P w= .ok (.pointer (some ⟨b,off+n.toNat*bD k,none⟩)) w:=by
 have hu:=yZ he;simp[Instr.indexAt,asIntOf,underlying,hu,h0,h1,jo hk,addr_add]
theorem anl(R:Rel F M E s a){ty e k:Nat}{x i:Operand}{x' i':X}(hx:aY x=some x')(hi:aY i=some i'){o:Oper}
  (ho:o.op= .indexAddr ty x i) (he:elemOf P ty=some e) (hk:kindOf P e=some k) (h:qc s (.ia k x' i')):uO P E a o (qt s (.ia k x' i')):=by
 have rx:=bY R hx; have ri:=bY R hi;simp only[qc] at h;split at h
 ·rename_i k' full l kd n e1 e2;obtain⟨rfl,h0,h1⟩:=h;rw[e2,aQ] at ri;rw[e1,aB rfl] at rx;simp only[aN] at rx;obtain⟨ad,c,hu,hlc,hfull,hrow⟩:=rx;have hne:l≠[]:=by rintro rfl; simp at h1; omega
  obtain⟨b,off,cur,te,m,rfl,hS,hh,hid,hr⟩:=hrow.resolve_left hne;have ha:a.eval x= .slice (some ⟨b,off,none⟩) l.length c:=by simpa using hu
  have hg:=vF hr (j:=n.toNat) (by omega);refine⟨.pointer (some ⟨b,off+n.toNat*bD k',none⟩),?_,?_⟩
  ·simp[execOp,ho,ha,ri,run_indexAt he hk h0 h1]
  ·simp only[qt,e1,e2];rw[aB rfl];simp only[aN];refine⟨b,_,cur,te,m,rfl,hS,hh,hg.1,yU hid (by simp[T.ids]),?_,?_⟩
   ·have:=hg.2.1;simp only[cA] at this ⊢; omega
   ·rw[<- dm]; exact hg.2.2.2
 ·rename_i oo kd n e1 e2;split at h
  ·rename_i ob hob;obtain⟨rfl,h0,h1⟩:=h;rw[e2,aQ] at ri;rw[e1,aB rfl] at rx;simp only[aN] at rx;obtain⟨u,hu,hlive⟩:=rx;have fF:E.h oo=some ob:=by rw[R.he]; exact hob
   have hφ:=hlive (by rw[fF]; rfl);obtain⟨hok,GI,hsz⟩:=R.hk.obs oo ob fF;have ha:a.eval x=E.φ oo:=by rw[<- hφ]; simpa using hu
   rcases hok.row (EO hk) with ⟨ad,_,hnil⟩|⟨g,c,cur,hv,hc,_,hh,hcs,hr⟩
   ·rw[hnil] at h1; simp at h1; omega
   ·refine⟨.pointer (some ⟨g,0+n.toNat*bD ob.k,none⟩),?_,?_⟩
    ·simp[execOp,ho,ha,hv,ri,run_indexAt he hk h0 h1]
    ·simp only[qt,e1,e2];rw[aB rfl];simp only[aN];exact⟨_,rfl,fun _=>⟨g,_,_,hv,by rw[GI]; simp⟩⟩
  ·exact h.elim
 ·rename_i oo lo hi' kd n e1 e2;split at h
  ·rename_i ob hob;obtain⟨rfl,h0,h1⟩:=h;rw[e2,aQ] at ri;rw[e1,aB rfl] at rx;simp only[aN] at rx;obtain⟨u,hu,hlive⟩:=rx;have fF:E.h oo=some ob:=by rw[R.he]; exact hob
   obtain⟨ad,m,c,hφ,hl1,hl2,hl3,hu'⟩:=hlive (by rw[fF]; rfl);obtain⟨hok,GI,hsz⟩:=R.hk.obs oo ob fF;have ha:a.eval x=u:=by simpa using hu
   rcases hok.row (EO hk) with ⟨ad',hv,hnil⟩|⟨g,c',cur,hv,hc,_,hh,hcs,hr⟩
   ·rw[hφ] at hv; simp at hv; omega
   ·rw[hφ] at hv;simp only[Value.slice.injEq] at hv;obtain⟨rfl,rfl,rfl⟩:=hv;rw[bB (by omega),GI] at hu';simp only[bp,addr_add,fS] at hu';have h1':n<((hi'-lo:Nat):Int):=h1;refine⟨.pointer (some ⟨g,lo*bD ob.k+n.toNat*bD ob.k,none⟩),?_,?_⟩
    ·simp[execOp,ho,ha,hu',ri,run_indexAt he hk h0 h1']
    ·simp only[qt,e1,e2];rw[aB rfl];simp only[aN];exact⟨_,rfl,fun _=>⟨g,_,_,hφ,by rw[GI]; simp[Nat.add_mul]⟩⟩
  ·exact h.elim
 ·exact h.elim
theorem anm(R:Rel F M E s a){ty:Nat}{x i:Operand}{x' i':X}(hx:aY x=some x')(hi:aY i=some i'){o:Oper}
  (ho:o.op= .index ty x i) (ht:P.underlying ty=some .string) (h:qc s (.ch x' i')):uO P E a o (qt s (.ch x' i')):=by
 have rx:=bY R hx; have ri:=bY R hi;simp only[qc] at h;split at h
 ·rename_i b kd n e1 e2;rw[e1,aQ] at rx; rw[e2,aQ] at ri;obtain⟨h0,h1⟩:=h;have hlt:n.toNat<b.size:=by omega
  have hb:b[n.toNat]? =some (b[n.toNat]'hlt):=by simp[getElem?_pos,hlt]
  refine⟨.int .u8 (b[n.toNat]'hlt).toNat,?_,?_⟩
  ·simp[execOp,ho,rx,ri,Instr.index,asIntOf,underlying,ht,h0,hb]
  ·simp only[qt,e1,e2,aQ]
   have:b.data.getD n.toNat 0=b[n.toNat]'hlt:=by
    rw[dj,eZ (by simpa using hlt)]; rfl
   rw[this]
 ·exact h.elim
theorem q_ld(R:Rel F M E s a){ty k:Nat}{x:Operand}{x':X}(hx:aY x=some x'){o:Oper}
  (ho:o.op= .load ty x) (hk:kindOf P ty=some k) (h:qc s (.ld k x')):uO P E a o (qt s (.ld k x')):=by
 have rx:=bY R hx
 have key: ∀ (t:T) (b off:Nat) (cur:Array Value) (e:TypeId) (m:Nat×Nat),E.w.heap[b]? =some (.cells cur e m)->0<bD k->t.kd=k ->
   off+bD k<=cur.size->aN E t ((cur.toList.drop off).take (bD k))->a.eval x= .pointer (some ⟨b,off,none⟩)->uO P E a o t:=by
  intro t b off cur e m hh hpos hkd hl hr ha;obtain⟨g1,g2⟩:=Ji (P:=P) (w:=E.w) hk hh hl;by_cases h0:k=0
  ·obtain⟨v,hv,hrun⟩:=g2 h0;refine⟨v,by simp[execOp,ho,ha,Instr.loadAt,Instr.sureAddr,hrun],.inr ⟨by rw[hkd,h0],?_⟩⟩;subst h0;simp only[bD] at hr hl;rw[eD (by simp; omega),ee,List.take_zero] at hr
   have:cur.toList[off]'(by simp; omega)=v:=by
    rw[cm] at hv; obtain⟨_,hv⟩:=hv; simpa using hv
   rwa [this] at hr
  ·exact⟨_,by simp[execOp,ho,ha,Instr.loadAt,Instr.sureAddr,g1 h0]; rfl,.inl ⟨by rw[hkd]; exact h0,_,rfl,by simpa using hr⟩⟩
 simp only[qc] at h;split at h
 ·rename_i k' t e1;simp only[aD,bt,cF] at h;obtain⟨rfl,hpos⟩:=h;rw[e1,aB rfl] at rx;simp only[aN] at rx;obtain⟨b,off,cur,e,m,hu,hS,hh,hkd,hid,hl,hr⟩:=rx;simp only[cA,bu] at hl;simp only[qt,e1];exact key t b off cur e m hh hpos hkd (by omega) hr (by simpa using hu)
 ·rename_i i j off e1;split at h
  ·rename_i ob hob;obtain⟨hj,hcond⟩:=h;rw[e1,aB rfl] at rx;simp only[aN] at rx;obtain⟨u,hu,hlive⟩:=rx;have fF:E.h i=some ob:=by rw[R.he]; exact hob
   obtain⟨b,n,c,hφ,hu'⟩:=hlive (by rw[fF]; rfl);obtain⟨hok,GI,hsz⟩:=R.hk.obs i ob fF;rcases(hok.of_slice hφ).1 with ⟨ad,_,hnil⟩|⟨g,c',cur,hv,hc,_,hh,hcs,hr⟩
   ·rw[hnil] at hj; simp at hj
   ·rw[hφ] at hv;have hbg:b=g:=by simp at hv; exact hv.1
    subst hbg;have ha:a.eval x= .pointer (some ⟨b,j*bD ob.k+off,none⟩):=by rw[<- GI,<- hu']; simpa using hu
    obtain⟨r1,r2,r3,r4⟩:=vF hr hj;simp only[bu] at r2;simp only[qt,e1,hob];cases hw:(off==0&&ob.k==k) with
    |true =>
     simp only[aD,bt] at hw;obtain⟨rfl,rfl⟩:=hw;simp only[bE];exact key _ b _ cur ob.ty (0,0) hh hsz r1 (by omega) (by simpa using r4) ha
    |false =>
     rw[hw,cz,aD,bq,cE] at hcond;simp only[ap];have aj1:(ob.l.getD j .any).kd≠0:=by rw[r1]; exact hcond.1
     have hp:=KO r4 aj1 (off:=off) (k:=k) (by rw[<- rP,r1]; exact hcond.2);have hpo:=hcond.2;simp only[o9,ff] at hpo;by_cases hpos:0<bD k
     ·refine key _ b _ cur ob.ty (0,0) hh hpos hp.2.1 (by omega) ?_ ha;have h1:=hp.1;rw[List.drop_take,List.take_take,dm,em (by omega)] at h1;exact h1
     ·have hk1:k=1:=by
       cases k with
       |zero=>simp[bD] at hpos
       |succ m=>simp only[bD] at hpos; omega
      subst hk1;obtain⟨g1,_⟩:=Ji (P:=P) (w:=E.w) hk hh (off:=j*bD ob.k+off) (by have e0:bD 1=0:=rfl; rw[e0] at hpo ⊢; omega);refine⟨_,by simp[execOp,ho,ha,Instr.loadAt,Instr.sureAddr,g1 (by omega)]; rfl,.inl ⟨by rw[hp.2.1]; omega,_,rfl,?_⟩⟩;simp[T.part,aN,aX,bD]
  ·exact h.elim
 ·exact h.elim
theorem ano(R:Rel F M E s a){x:Operand}{x':X}(hx:aY x=some x'){o:Oper}(ho:o.op= .nilCheck x)(h:qc s (.nc x')):uO P E a o (qt s (.nc x')):=by
 have rx:=bY R hx;refine⟨a.eval x,?_,rx⟩;simp only[qc] at h;split at h
 ·rename_i i j off e1;rw[e1,aB rfl] at rx;simp only[aN] at rx;obtain⟨u,hu,hlive⟩:=rx;obtain⟨b,n,c,hφ,hu'⟩:=hlive (by rw[R.he]; exact h);have ha:a.eval x= .pointer (some ⟨b,j*bD (E.κ i)+off,none⟩):=by rw[<- hu']; simpa using hu
  simp[execOp,ho,ha]
 ·rename_i k t e1;rw[e1,aB rfl] at rx;simp only[aN] at rx;obtain⟨b,off,cur,e,m,hu,_⟩:=rx;have ha:a.eval x= .pointer (some ⟨b,off,none⟩):=by simpa using hu
  simp[execOp,ho,ha]
 ·rename_i f cap e1;rw[e1,aB rfl] at rx;simp only[aN] at rx;rcases rx with ⟨_,cs,hu,_⟩|⟨_,p,_,_,hu,_⟩
  ·have ha:a.eval x=fnV f cs:=by simpa using hu
   rcases KR f cs with ⟨_,h1⟩|⟨_,h1⟩<;>rw[h1] at ha<;>simp[execOp,ho,ha]
  ·have ha:a.eval x= .func (.yield p.l) #[] #[]:=by simpa using hu
   simp[execOp,ho,ha]
 ·exact h.elim
theorem Ny{at':Array TypeId}{t:TypeId}{x:Operand}{o:Oper}(ho:o.op= .call {callee:=.builtin .len,args:= #[x],argTypes:=at'})(h0:at'[0]? =some t){n:Nat}
  (h:(P.underlying t=some .string/\ ∃ b,a.eval x= .string b/\b.size=n)\/(∃ e,P.underlying t=some (.slice e)/\ ∃ ad c,a.eval x= .slice ad n c)) :
  (execOp a.eval o).run P E.w= .ok (.value (.int .i64 n)) E.w:=by
 rcases h with ⟨h1,b,h2,rfl⟩|⟨e,h1,ad,c,h2⟩ <;>
  simp[execOp,ho,resolve,invoke,builtin,Builtin.len_,h0,h2,underlying,h1,goInt]
theorem q_len(R:Rel F M E s a){at':Array TypeId}{t:TypeId}{str:Bool}{x:Operand}{x':X}(hx:aY x=some x'){o:Oper}
  (ho:o.op= .call {callee:=.builtin .len,args:= #[x],argTypes:=at'}) (h0:at'[0]? =some t)
  (ht:if str then P.underlying t=some .string else ∃ e,P.underlying t=some (.slice e)) (h:qc s (.len str x')):uO P E a o (qt s (.len str x')):=by
 have rx:=bY R hx;simp only[qc] at h;split at h
 ·rename_i k f l e1;subst h;rw[e1,aB rfl] at rx;simp only[aN] at rx;obtain⟨ad,c,hu,_⟩:=rx;simp only[da,cW] at ht;obtain⟨e,ht⟩:=ht;refine⟨.int .i64 l.length,Ny ho h0 (.inr ⟨e,ht,ad,c,by simpa using hu⟩),by simp only[qt,e1,aQ]⟩
 ·rename_i oo e1;split at h
  ·rename_i ob hob;obtain⟨rfl,hnm⟩:=h;rw[e1,aB rfl] at rx;simp only[aN] at rx;obtain⟨u,hu,hlive⟩:=rx;have fF:E.h oo=some ob:=by rw[R.he]; exact hob
   have hφ:=hlive (by rw[fF]; rfl);obtain⟨hok,GI,hsz⟩:=R.hk.obs oo ob fF;have ha:a.eval x=E.φ oo:=by rw[<- hφ]; simpa using hu
   simp only[da,cW] at ht;obtain⟨e,ht⟩:=ht;refine⟨.int .i64 ob.l.length,Ny ho h0 (.inr ⟨e,ht,?_⟩),by simp only[qt,e1,hob,aQ]⟩;rcases hok.row hnm with ⟨ad,hv,hnil⟩|⟨g,c,cur,hv,_⟩
   ·exact⟨ad,0,by rw[ha,hv,hnil]; rfl⟩
   ·exact⟨_,_,by rw[ha,hv]⟩
  ·exact h.elim
 ·rename_i oo lo hi' e1;obtain⟨rfl,hsome⟩:=h;rw[e1,aB rfl] at rx;simp only[aN] at rx;obtain⟨u,hu,hlive⟩:=rx;obtain⟨ad,m,c,hφ,hl1,hl2,hl3,hu'⟩:=hlive (by rw[R.he]; exact hsome);have ha:a.eval x=u:=by simpa using hu
  simp only[da,cW] at ht;obtain⟨e,ht⟩:=ht;exact⟨.int .i64 ((hi'-lo:Nat):Int),Ny ho h0 (.inr ⟨e,ht,_,_,by rw[ha,hu']⟩),by simp only[qt,e1,aQ]⟩
 ·rename_i b e1;subst h;rw[e1,aQ] at rx;simp only[cn] at ht;exact⟨.int .i64 b.size,Ny ho h0 (.inl ⟨ht,b,rx,rfl⟩),by simp only[qt,e1,aQ]⟩
 ·exact h.elim
theorem anp(R:Rel F M E s a){at':Array TypeId}{x y:Operand}{x' y':X}(hx:aY x=some x')(hy:aY y=some y'){o:Oper}
  (ho:o.op= .call {callee:=.builtin .max,args:= #[x,y],argTypes:=at'}) (h:qc s (.mx x' y')):uO P E a o (qt s (.mx x' y')):=by
 have rx:=bY R hx; have ry:=bY R hy;simp only[qc] at h;split at h
 ·rename_i k n k' m e1 e2;rw[e1,aQ] at rx; rw[e2,aQ] at ry;refine⟨.int k (if n<m then m else n),?_,by simp only[qt,e1,e2,aQ]⟩;simp[execOp,ho,resolve,invoke,builtin,Builtin.max_,Builtin.max2,rx,ry]
 ·exact h.elim
theorem anq(R:Rel F M E s a){at':Array TypeId}{x y:Operand}{x' y':X}(hx:aY x=some x')(hy:aY y=some y'){o:Oper}
  (ho:o.op= .call {callee:=.builtin .min,args:= #[x,y],argTypes:=at'}) (h:qc s (.mn x' y')):uO P E a o (qt s (.mn x' y')):=by
 have rx:=bY R hx; have ry:=bY R hy;simp only[qc] at h;split at h
 ·rename_i k n k' m e1 e2;rw[e1,aQ] at rx; rw[e2,aQ] at ry;refine⟨.int k (if m<n then m else n),?_,by simp only[qt,e1,e2,aQ]⟩;simp[execOp,ho,resolve,invoke,builtin,Builtin.min_,Builtin.min2,rx,ry]
 ·exact h.elim
theorem anr(R:Rel F M E s a){i:Nat}{x:Operand}{x':X}(hx:aY x=some x'){o:Oper}(ho:o.op= .extract x i)(h:qc s (.ex x' i)):uO P E a o (qt s (.ex x' i)):=by
 have rx:=bY R hx;simp only[qc] at h;split at h
 ·rename_i l e1;rw[e1,aB rfl] at rx;simp only[aN] at rx;obtain⟨cs,hu,hr⟩:=rx;have ha:a.eval x= .tuple cs:=by simpa using hu
  have hlen:=qw hr;simp only[bu] at hlen;rw[cF] at h;have hg:=zH hr i;have hci:cs[i]? =some (cs[i]'(by omega)):=by simp
  refine⟨cs[i]'(by omega),by simp[execOp,ho,ha,Instr.extract,hci],?_⟩;simp only[qt,e1];have e2:l.getD i T.un=l.getD i .any:=by simp[List.getD_eq_getElem?_getD,h]
  have e3:cs.toList.getD i undef=cs[i]'(by omega):=by simp[List.getD_eq_getElem?_getD,hci]
  rw[e2,e3] at hg; exact hg
 ·exact h.elim
theorem zM{xs:List Operand}{xs':List X}(h:tC xs=some xs')(R:Rel F M E s a):bg E (xs'.map s.ev) (xs.map a.eval)/\T.aO M (xs'.map s.ev):=by
 induction xs generalizing xs' with
 |nil=>cases h; simp[bg,T.aO]
 |cons x r ih =>
  simp only[tC] at h;split at h
  ·rename_i x' r' h1 h2;cases h;obtain⟨i1,i2⟩:=ih h2;rw[bl,bl,bQ];exact⟨⟨_,_,rfl,bY R h1,i1⟩,by simp only[T.aO]; exact⟨mX R h1,i2⟩⟩
  ·cases h
theorem OC{t:T}{v:Value}(hk:qY F E)(h:lZ E t v)(h1:t.Ai E.h=true):t.kd=0/\v.oneCell'=true/\aN E t [v]:=by
 have hkd:t.kd=0:=by cases t<;>simp_all[T.Ai,T.kd]
 rw[aB hkd] at h;refine⟨hkd,?_,h⟩;cases t with
 |lit u=>simp only[aN] at h; simp only[T.Ai] at h1; simp at h; rw[h]; exact h1
 |sl k f l=>simp only[aN] at h; obtain⟨ad,c,hu,_⟩:=h; simp at hu; rw[hu]; rfl
 |ref k t=>simp only[aN] at h; obtain⟨b,off,cur,e,m,hu,_⟩:=h; simp at hu; rw[hu]; rfl
 |fn f cap =>
  simp only[aN] at h;rcases h with ⟨_,cs,hu,_⟩|⟨_,p,_,_,hu,_⟩<;>simp at hu<;>rw[hu]
  ·rcases KR f cs with ⟨_,h1⟩|⟨_,h1⟩<;>rw[h1]<;>rfl
  ·rfl
 |own i =>
  simp only[aN] at h; obtain⟨u,hu,hl⟩:=h;simp only[T.Ai] at h1;have:=hl h1;simp at hu; rw[hu,this];obtain⟨ob,hob⟩:=am.1 h1;rcases(hk.obs i ob hob).1 with ⟨_,⟨ad,hv,_⟩|⟨g,c,cur,hv,_⟩⟩|⟨_,g,es,cl,hv,_⟩<;>rw[hv]<;>rfl
 |ptr i j off =>
  simp only[aN] at h; obtain⟨u,hu,hl⟩:=h;simp only[T.Ai] at h1;obtain⟨b,n,c,_,hu'⟩:=hl h1;simp at hu; rw[hu,hu']; rfl
 |rG i lo hi =>
  simp only[aN] at h; obtain⟨u,hu,hl⟩:=h;simp only[T.Ai] at h1;obtain⟨ad,n,c,_,_,_,_,hu'⟩:=hl h1;simp at hu; rw[hu,hu']; rfl
 |agg l=>simp[T.Ai] at h1
 |dD l=>simp[T.Ai] at h1
 |any=>simp[T.Ai] at h1
theorem zN{t:T}{v:Value}(hk:qY F E)(h:lZ E t v)(h1:t.nR E.h=true):aX E t.cells v.cells.toList:=by
 refine Yk h fun hkd=>?_
 cases t with
 |agg l=>simp[T.kd] at hkd
 |_=>exact(OC hk h h1).2.1
theorem abx(hk:qY F E): ∀ {ts:List T} {vs:List Value},bg E ts vs->DC E.h ts=true->aX E ts vs:=by
 intro ts;induction ts with
 |nil=>intro vs h _; simp[bg] at h; subst h; simp[aX]
 |cons t ts ih =>
  intro vs h h1;rw[bQ] at h;obtain⟨v,r,rfl,h2,h3⟩:=h;simp only[DC,aD] at h1;obtain⟨g1,g2,g3⟩:=OC hk h2 h1.1;simp only[aX];exact⟨g1,v,r,rfl,g2,g3,ih h3 h1.2⟩
theorem ant(R:Rel F M E s a){f:FuncId}{first cap:Array Operand}{cap':List X}(hc:tC cap.toList=some cap'){o:Oper}
  (ho:o.op= .makeFunc (.func f) first cap) (hf:first.size=0) (h:qc s (.mf f cap')):uO P E a o (qt s (.mf f cap')):=by
 have hfirst:first= #[]:=Array.eq_empty_of_size_eq_zero hf;subst hfirst;simp only[qc,aD,cF] at h;obtain⟨h,hlt⟩:=h;refine⟨.func (.func f) #[] (cap.map a.eval),by simp[execOp,ho,Instr.makeFunc],?_⟩;simp only[qt];rw[aB rfl];simp only[aN];refine .inl ⟨cF.mpr (Nat.lt_trans hlt (by decide)),_,by rw[OB hlt],?_⟩;rw[<- R.he] at h;have:=abx R.hk (zM hc R).1 h;simpa using this
theorem anu(R:Rel F M E s a){f:FuncId}{first cap:Array Operand}{x:Operand}{x':X}(hx:aY x=some x'){o:Oper}
  (ho:o.op= .makeFunc (.func f) first cap) (hf:first.toList=[x]) (hc:cap.toList=[]) (h:qc s (.mb f x')):uO P E a o (qt s (.mb f x')):=by
 have hfirst:first= #[x]:=gk (by simpa using hf);have hcap:cap= #[]:=gk (by simpa using hc);subst hfirst hcap;have rx:=bY R hx;simp only[qc] at h;split at h
 ·rename_i l e1;rw[e1,BZ] at rx;obtain⟨cs,hv,hr⟩:=rx;refine⟨.func (.func f) #[a.eval x] #[],by simp[execOp,ho,Instr.makeFunc],?_⟩;simp only[qt,e1];rw[aB rfl];simp only[aN];exact .inl ⟨cF.mpr (by have:f<4096:=h; show f+4096<8192; exact Nat.add_lt_add_right this 4096),cs,by rw[ajX h,hv],hr⟩
 ·exact h.elim
end ops
section
variable {P:Program} {F:Fr P} {M:Nat->Prop} {E:Env} {s:AS} {a:Act}
def TN(P:Program)(t:TypeId)(xs:List Int):Value:=if kindOf P t=some 0 then .int .i64 (xs.getD 0 0) else .agg (xs.map (Value.int .i64)).toArray
theorem GK{t:TypeId}{k:Nat}(hk:kindOf P t=some k){X:List Int}{off n:Nat}(hn:n=bD k)(h:off+n<=X.length)(w:World) :
  (part t (X.map (Value.int .i64)).toArray off).run P w= .ok (TN P t ((X.drop off).take n)) w:=by
 simp only[part,Sem.run_bind,wX hk,Result.andThen_ok];unfold TN;rw[hk];cases k with
 |zero =>
  simp only[bD] at hn;subst hn;have hlt:off<X.length:=by omega
  simp only[bne_self_eq_false,da,cW,cn,List.getElem?_toArray,cM,bS hlt,bp,Sem.run_pure,Result.ok.injEq,Value.int.injEq,iA,and_true];simp[List.getD_eq_getElem?_getD,hlt]
 |succ m =>
  have hne: ¬ (some (m+1)=some 0):=by simp
  have hb:((m+1) !=0)=true:=by simp
  rw[bB hne];simp only[hb,cn,Sem.run_bind,jo hk,Result.andThen_ok,Sem.run_pure,Result.ok.injEq,Value.agg.injEq,and_true];apply gk;simp[hn,List.extract_eq_take_drop,List.map_take,List.map_drop]
theorem aby: ∀ {d:Nat} {t:TypeId} {n:Nat},DL P d t=some n-> ∃ k,kindOf P t=some k/\n=bD k:=by
 intro d;cases d with
 |zero=>intro t n h; cases h
 |succ d =>
  intro t n h;simp only[DL] at h;split at h
  ·rename_i h1 h2; cases h; exact⟨0,h2,rfl⟩
  ·rename_i fs k h1 h2;split at h
   ·split at h
    ·split at h
     ·rename_i h3; cases h; exact⟨k,h2,by rw[h3]; rfl⟩
     ·cases h
    ·cases h
   ·cases h
  ·cases h
theorem Qy{g:TypeId->Option Nat}{d:Nat}(hg: ∀ t n,g t=some n->(∃ k,kindOf P t=some k/\n=bD k)/\ ∀ (xs ys:List Int),xs.length=n->ys.length=n-> ∀ w,(Op.equalIn d t (TN P t xs) (TN P t ys)).run P w= .ok (decide (xs=ys)) w)
  {X Y:List Int} {N:Nat} (hX:X.length=N) (hY:Y.length=N): ∀ {fs:List Field} {off:Nat},Oy g fs off=some N->off<=N/\ ∀ w,(Op.eqFields d (X.map (Value.int .i64)).toArray (Y.map (Value.int .i64)).toArray fs).run P w= .ok (decide (X.drop off=Y.drop off)) w:=by
 intro fs;induction fs with
 |nil =>
  intro off h;simp only[Oy,bi] at h;subst h;refine⟨ba _,fun w=>?_⟩;rw[gP (by omega),gP (by omega)];simp[Op.eqFields]
 |cons f fs ih =>
  intro off h;simp only[Oy] at h;split at h
  ·rename_i hf;obtain⟨hnm,rfl⟩:=hf;split at h
   ·rename_i n hn;obtain⟨⟨k,hk,hnk⟩,hrun⟩:=hg _ _ hn;obtain⟨hle,hrest⟩:=ih h;refine⟨by omega,fun w=>?_⟩;rw[Op.eqFields,bc hnm];simp only[Sem.run_bind,GK hk hnk (X:=X) (off:=f.offset) (by omega),GK hk hnk (X:=Y) (off:=f.offset) (by omega),Result.andThen_ok];rw[hrun _ _ (by simp; omega) (by simp; omega) w];simp only[Result.andThen_ok];have hsplit: ∀ Z:List Int,Z.drop f.offset=(Z.drop f.offset).take n++Z.drop (f.offset+n):=fun Z=>by rw[<- dm]; exact(cK n _).symm
    by_cases he:(X.drop f.offset).take n=(Y.drop f.offset).take n
    ·simp only[he,iB,Bool.not_true,da,cW,hrest]
     congr 1
     rw[hsplit X,hsplit Y,he];simp
    ·have hne: ¬ (X.drop f.offset=Y.drop f.offset):=fun e=>he (by rw[e])
     simp[he,hne]
   ·cases h
  ·cases h
theorem VJ: ∀ {d:Nat} {t:TypeId} {n:Nat},DL P d t=some n-> ∀ e,d<=e-> ∀ (xs ys:List Int),xs.length=n->ys.length=n-> ∀ w,(Op.equalIn e t (TN P t xs) (TN P t ys)).run P w= .ok (decide (xs=ys)) w:=by
 intro d;induction d with
 |zero=>intro t n h; cases h
 |succ d ih =>
  intro t n h e he xs ys hx hy w;obtain⟨e,rfl⟩: ∃ e',e=e'+1:=⟨e-1,by omega⟩
  have hfl:=h;simp only[DL] at h;split at h
  ·rename_i h1 h2;cases h;simp only[TN,h2,cn];rw[run_equalIn_int w e t .i64 .i64 _ _ h1];match xs,ys,hx,hy with
   |[x],[y],_,_=>simp; rfl
  ·rename_i fs k h1 h2;split at h
   ·rename_i hst;split at h
    ·rename_i m hm;split at h
     ·rename_i hk;cases h;have hk0: ¬ (kindOf P t=some 0):=by rw[h2,hk]; simp
      simp only[TN,bB hk0];have hfo:P.fieldsOf t=fs:=by simp[Program.fieldsOf,h1]
      rw[run_equalIn_struct w e t _ _ (by rw[hfo]; exact h1) hst.1,hfo];have:=(Qy (P:=P) (g:=DL P d) (d:=e) (fun t' n' h'=>⟨aby h',ih h' e (by omega)⟩) hx hy hm).2 w;simpa using this
     ·cases h
    ·cases h
   ·cases h
  ·cases h
def Bo:T->Int
 | .lit (.int _ n)=>n
 |_=>0
theorem OD: ∀ {l:List T} {vs:List Value},uM l=true->aX E l vs->vs=(l.map Bo).map (Value.int .i64):=by
 intro l;induction l with
 |nil=>intro vs _ h; simpa [aX] using h
 |cons t ts ih =>
  intro vs ha h;simp only[aX] at h;obtain⟨_,v,r,rfl,_,h1,h2⟩:=h;cases t with
  |lit u =>
   cases u with
   |int k n =>
    cases k<;>simp only[uM] at ha<;>first|(cases ha; done)|skip
    rw[ih ha h2];simp only[aN] at h1;simp at h1;simp[Bo,h1]
   |_=>simp[uM] at ha
  |_=>simp[uM] at ha
theorem abz: ∀ {l l':List T},uM l=true->uM l'=true->wY l l'=decide (l.map Bo=l'.map Bo):=by
 intro l;induction l with
 |nil=>intro l' _ h; cases l' with
  |nil=>rfl
  |cons t ts=>simp[wY]
 |cons t ts ih =>
  intro l' ha hb;cases t with
  |lit u =>
   cases u with
   |int k n =>
    cases k<;>simp only[uM] at ha<;>first|(cases ha; done)|skip
    cases l' with
    |nil=>simp[wY]
    |cons t' ts' =>
     cases t' with
     |lit u' =>
      cases u' with
      |int k' n' =>
       cases k'<;>simp only[uM] at hb<;>first|(cases hb; done)|skip
       simp only[wY,ih ha hb,bl,Bo,eI];rw[cR]; simp
      |_=>simp[uM] at hb
     |_=>simp[uM] at hb
   |_=>simp[uM] at ha
  |_=>simp[uM] at ha
theorem ajp(R:Rel F M E s a){op:BinOp}{t ty':TypeId}{fs:Array Field}{ne:Bool}{n:Nat}{x y:Operand}{x' y':X}(hx:aY x=some x')(hy:aY y=some y'){o:Oper}
  (ho:o.op= .binOp op t x y ty') (hop:op=if ne then .neq else .eql) (hs:P.underlying t=some (.struct fs)) (ht:DL P 20 t=some n) (h:qc s (.eqs ne n x' y')):uO P E a o (qt s (.eqs ne n x' y')):=by
 have rx:=bY R hx; have ry:=bY R hy;simp only[qc] at h;split at h
 ·rename_i l l' e1 e2;simp only[aD,bt] at h;obtain⟨⟨⟨h1,h2⟩,h3⟩,h4⟩:=h;rw[e1,BZ] at rx; rw[e2,BZ] at ry;obtain⟨cs,hcs,hr⟩:=rx;obtain⟨cs',hcs',hr'⟩:=ry;have g1:=OD h1 hr;have g2:=OD h2 hr';have hg:P.eqGuardType P.depth t=false:=by
   unfold DL at ht;rw[hs] at ht;generalize kindOf P t=kk at ht;cases kk with
   |none=>simp at ht
   |some k =>
    simp only at ht;by_cases hq:P.stoodInHeld t=false/\P.eqGuardType P.depth t=false
    ·exact hq.2
    ·rw[bB hq] at ht; cases ht
  have hk0: ¬ (kindOf P t=some 0):=by
   unfold kindOf;rw[hs];cases P.info? t with
   |none=>simp
   |some i=>simp only; split<;>simp
  have heq:=VJ ht Op.maxDepth (by unfold Op.maxDepth; omega) (l.map Bo) (l'.map Bo) (by simp[h3]) (by simp[h4]) E.w;simp only[TN,bB hk0] at heq;have c1:(List.map (Value.int IntKind.i64) (List.map Bo l)).toArray=cs:=by rw[<- g1]
  have c2:(List.map (Value.int IntKind.i64) (List.map Bo l')).toArray=cs':=by rw[<- g2]
  rw[c1,c2] at heq;refine⟨.bool (bif ne then !(wY l l') else wY l l'),?_,by simp only[qt,e1,e2,aQ]⟩;rw[abz h1 h2];have hgd:(eqGuard op t x y (.agg cs) (.agg cs')).run P E.w= .ok () E.w:=by
   subst hop;unfold eqGuard;cases ne<;>simp[hg]
  cases ne
  ·simp only[hop,da,cW] at ho hgd ⊢;simp only[execOp,ho,hcs,hcs',hgd,binOp,Sem.run_bind,Sem.run_pure,Result.andThen_ok,Op.equal,heq,ap]
  ·simp only[hop,cn] at ho hgd ⊢;simp only[execOp,ho,hcs,hcs',hgd,binOp,Sem.run_bind,Sem.run_pure,Result.andThen_ok,Op.equal,heq,bE]
 ·exact h.elim
def Eo:Bool->TypeDesc
 |false=>.int .i64
 |true=>.string
theorem VK{b:Bool}{q m:Value}(hq:vC b q=true)(hm:vC b m=true):Instr.sameNow (Eo b) q m=some (Gq q m):=by
 cases b
 ·cases q<;>simp only[vC] at hq<;>try (cases hq; done)
  rename_i k n; cases k<;>simp only[] at hq<;>try (cases hq; done)
  cases m<;>simp only[vC] at hm<;>try (cases hm; done)
  rename_i k n; cases k<;>simp only[] at hm<;>try (cases hm; done)
  simp[Instr.sameNow,Gq,Eo]
 ·cases q<;>simp only[vC] at hq<;>try (cases hq; done)
  cases m<;>simp only[vC] at hm<;>try (cases hm; done)
  rename_i x y;simp only[Instr.sameNow,Gq,Eo]
  congr 1
  cases x; cases y;rename_i a b;show(a==b)=(a.toList==b.toList);rw[cR]; simp
theorem key_eq{b:Bool}{q m:Value}(hq:vC b q=true)(hm:vC b m=true)(h:Gq q m=true):q=m:=by
 cases b
 ·cases q<;>simp only[vC] at hq<;>try (cases hq; done)
  rename_i k n; cases k<;>simp only[] at hq<;>try (cases hq; done)
  cases m<;>simp only[vC] at hm<;>try (cases hm; done)
  rename_i k n; cases k<;>simp only[] at hm<;>try (cases hm; done)
  simp only[Gq,bt] at h; rw[h]
 ·cases q<;>simp only[vC] at hq<;>try (cases hq; done)
  cases m<;>simp only[vC] at hm<;>try (cases hm; done)
  rename_i x y;simp only[Gq,bt] at h;cases x; cases y; simp only at h; congr 2; exact Array.toList_inj.1 h
theorem MC{b:Bool}{n:Value}(hn:vC b n=true): ∀ {l:List T} {es:List MapEntry} (i:Nat),l.all (Mc b)=true->fK E l es ->
  match yG n l with
  |some u=> ∃ j v,Instr.findNow (Eo b) n es i=some (some (i+j,v))/\j<es.length/\(es[j]?).map (·.val)=some v/\aN E u [v]/\u.kd=0/\v.oneCell'=true/\(es[j]?).map (·.key)=some n
  |none=>Instr.findNow (Eo b) n es i=some none:=by
 intro l;induction l with
 |nil=>intro es i _ h; simp only[fK] at h; subst h; simp[yG,Instr.findNow]
 |cons t ts ih =>
  intro es i ha h;simp only[fK] at h;obtain⟨m,u,e,r,rfl,rfl,hk,hkd,h1,h2,h3⟩:=h;simp only[eC,Mc,aD] at ha;have hsn:=VK hn ha.1;simp only[yG];cases hb:Gq n m with
  |true =>
   simp only[bE];have hnm:n=m:=key_eq hn ha.1 hb;refine⟨0,e.val,?_,by simp,by simp,h2,hkd,h1,by simp[hk,hnm]⟩;simp only[Instr.findNow,hk,hsn,hb,fo]
  |false =>
   simp only[ap];have hs:Instr.sameNow (Eo b) n e.key=some false:=by rw[hk,hsn,hb]
   have:=ih (i+1) ha.2 h3;split at this
   ·rename_i u' hu;obtain⟨j,v,g1,g2,g3,g4⟩:=this;refine⟨j+1,v,?_,by simp only[bX]; omega,by simpa using g3,g4.1,g4.2.1,g4.2.2.1,by simpa using g4.2.2.2⟩;simp only[Instr.findNow,hs,g1]
    congr 3; omega
   ·rename_i hu;simp only[Instr.findNow,hs,this]
theorem run_checkKey{kt:TypeId}{c:Bool}{q:Value}(h:P.underlying kt=some (Eo c))(hq:vC c q=true)(b:Bool)(w:World):(Instr.checkKey b 10000 kt q).run P w= .ok () w:=by
 have: ∀ d,(Instr.checkKey b (d+1) kt q).run P w= .ok () w:=fun d=>by
  cases c
  ·simp only[Instr.checkKey,Sem.run_bind,run_underlying h,Eo,Result.andThen_ok,Sem.run_pure]
  ·simp only[Instr.checkKey,Sem.run_bind,run_underlying h,Eo,Result.andThen_ok,Sem.run_pure]
 exact this 9999
theorem alP(R:Rel F M E s a){t kt et:TypeId}{z:Value}{x i:Operand}{x' i':X}(hx:aY x=some x')(hi:aY i=some i'){o:Oper}(ho:o.op= .lookup t x i true)
  {b:Bool} (ht:P.underlying t=some (.map kt et)) (hkt:P.underlying kt=some (Eo b)) (hz:zeroOf P et=some z) (h:qc s (.mlk b (MQ z) x' i')):uO P E a o (qt s (.mlk b (MQ z) x' i')):=by
 have rx:=bY R hx; have ri:=bY R hi;simp only[qc] at h;split at h
 ·rename_i oo n e1 e2;split at h
  ·rename_i ob hob;rw[e2,aQ] at ri;rw[e1,aB rfl] at rx;simp only[aN] at rx;obtain⟨u,hu,hlive⟩:=rx;have fF:E.h oo=some ob:=by rw[R.he]; exact hob
   have hφ:=hlive (by rw[fF]; rfl);obtain⟨hok,GI,hsz⟩:=R.hk.obs oo ob fF;have ha:a.eval x=E.φ oo:=by rw[<- hφ]; simpa using hu
   obtain⟨h,hkk⟩:=h;simp only[Bq,aD] at hkk;obtain⟨g,es,cl,hv,hh,hr⟩:=hok.map h;have hget:(getObj g).run P E.w= .ok (.map es cl) E.w:=by simp[getObj,Sem.run,hh]
   have hzero:(zeroValue et).run P E.w= .ok z E.w:=by
    unfold zeroOf at hz;cases hi':P.info? et with
    |none=>simp[hi'] at hz
    |some it =>
     have hz':it.zero=some z:=by simpa [hi'] using hz
     simp[zeroValue,typeInfo,hi',hz']
   have hf:=MC hkk.1 0 hkk.2 hr;have hrun: ∀ r,Instr.findNow (Eo b) n es.toList 0=some r->(Instr.findKey kt n es.toList).run P E.w= .ok r E.w:=by
    intro r hr';simp only[Instr.findKey,Sem.run_bind,run_underlying hkt,Result.andThen_ok,hr',Sem.run_pure]
   split at hf
   ·rename_i u' hu';obtain⟨j,v,g1,g2,g3,g4,g5,g6,_⟩:=hf;refine⟨.tuple #[v,.bool true],?_,?_⟩
    ·simp only[execOp,ho,ha,hv,ri,Instr.lookup,Sem.run_bind,run_underlying ht,Result.andThen_ok,hget,Sem.run_pure,run_checkKey hkt hkk.1,hrun _ g1,cn]
    ·simp only[qt,e1,e2,hob,hu'];rw[aB rfl]; simp only[aN];refine⟨_,rfl,?_⟩;rw[bQ];refine⟨v,_,rfl,(aB g5).2 g4,?_⟩;rw[bQ];exact⟨_,_,rfl,by rw[aQ],by simp[bg]⟩
   ·rename_i hu';refine⟨.tuple #[z,.bool false],?_,?_⟩
    ·simp only[execOp,ho,ha,hv,ri,Instr.lookup,Sem.run_bind,run_underlying ht,Result.andThen_ok,hget,Sem.run_pure,run_checkKey hkt hkk.1,hrun _ hf,hzero,cn]
    ·simp only[qt,e1,e2,hob,hu'];rw[aB rfl]; simp only[aN];refine⟨_,rfl,?_⟩;rw[bQ];refine⟨z,_,rfl,?_,?_⟩
     ·rw[aB (OA z)]; exact Jj
     ·rw[bQ];exact⟨_,_,rfl,by rw[aQ],by simp[bg]⟩
  ·exact h.elim
 ·exact h.elim
end
inductive VL{α β:Type}(R:α->β->Prop):List α->List β->Prop
 |nil:VL R [] []
 |cons {a:α} {b:β} {as:List α} {bs:List β}:R a b->VL R as bs->VL R (a::as) (b::bs)
section ops
variable {P:Program} {F:Fr P} {M:Nat->Prop} {E:Env} {s:AS} {a:Act}
theorem VN(off:Nat): ∀ (xs:List Value) (n:Nat) (cs:Array Value),off+n+xs.length<=cs.size ->
  ((xs.zipIdx n).foldl (fun(cs:Array Value) (p:Value×Nat)=>cs.setIfInBounds (off+p.2) p.1) cs).toList=cs.toList.take (off+n)++xs++cs.toList.drop (off+n+xs.length)
 |[],n,cs,_=>by simp
 |x::xs,n,cs,h=>by
  simp only[bX] at h;rw[List.zipIdx_cons,eB,VN off xs (n+1) _ (by simp; omega)];simp only[Array.toList_setIfInBounds,bX];have h1:off+n<cs.toList.length:=by simp; omega
  rw[List.drop_set_of_lt (by omega)];have e1:(cs.toList.set (off+n) x).take (off+(n+1))=cs.toList.take (off+n)++[x]:=by
   rw[<- gt,cQ,List.take_set_of_le (ba _)];simp[List.getElem?_set_self h1]
  rw[e1];have e2:off+(n+1)+xs.length=off+n+(xs.length+1):=by omega
  rw[e2]; simp
theorem RI(off:Nat)(v:Value)(cs:Array Value)(h:off+v.cells.size<=cs.size) :
  (v.cells.zipIdx.foldl (fun(cs:Array Value) (p:Value×Nat)=>cs.setIfInBounds (off+p.2) p.1) cs).toList=cs.toList.take off++v.cells.toList++cs.toList.drop (off+v.cells.size):=by
 have:=VN off v.cells.toList 0 cs (by simpa using h);rw[<- Array.foldl_toList];simpa [Array.toList_zipIdx] using this
theorem Jl{z:List T}{zs:List Value}(h:aX E z zs){off n:Nat}{c:List T}{vs:List Value}(hc:aX E c vs) :
  aX E (z.take off++c++z.drop (off+n)) (zs.take off++vs++zs.drop (off+n)):=by
 rw[Jh];refine⟨zs.take off++vs,_,rfl,?_,Ou h _⟩;rw[Jh];exact⟨_,_,rfl,Ot h _,hc⟩
theorem VO(hk:qY F E)(place:Nat->Option (Nat×Nat)): ∀ (ps:List (Nat×Value)) (qs:List (Nat×Nat×T)) (z:List T) (cs:Array Value),
  VL (fun p q=>place p.1=some (q.1,q.2.1)/\lZ E q.2.2 p.2/\q.2.2.nR E.h=true) ps qs->aX E z cs.toList->KL z qs=true ->
  ∃ cs',Instr.fill place cs ps=some cs'/\aX E (L9 z qs) cs'.toList:=by
 intro ps;induction ps with
 |nil=>intro qs z cs h hz _; cases h; exact⟨cs,rfl,hz⟩
 |cons p ps ih =>
  intro qs z cs h hz hf;obtain⟨i,v⟩:=p;cases h with
  |cons hpq hrest =>
   rename_i q qs;obtain⟨off,n,t⟩:=q;obtain⟨h1,h2,h3⟩:=hpq;simp only[KL,aD,bt,ff] at hf;obtain⟨⟨hf1,hf2⟩,hf3⟩:=hf;have hc:=zN hk h2 h3;have hlen:=qp hc;have hzl:=qp hz;simp only[bu] at hlen hzl;simp only[Instr.fill,h1,L9];rw[bB (by simp; omega)];refine ih _ _ _ hrest ?_ hf3;rw[RI off v cs (by omega),hlen,hf1];exact Jl hz hc
theorem AO(R:Rel F M E s a){ty:TypeId}{fs:Array Field}(hu:P.underlying ty=some (.struct fs)){places:List (Nat×Nat)}
  (hp:fs.toList.mapM (fun f=>(P.info? f.type).map fun i=>(f.offset,i.size))=some places) :
  ∀ {ps:List (Nat×Operand)} {ps':List (Nat×Nat×X)},compFields P ty ps=some ps'->zG s.hp (ps'.map fun p=>s.ev p.2.2)=true ->
   VL (fun(p:Nat×Value) (q:Nat×Nat×T)=>places.toArray[p.1]? =some (q.1,q.2.1)/\lZ E q.2.2 p.2/\q.2.2.nR E.h=true)
    (ps.map fun p=>(p.1,a.eval p.2)) (ps'.map fun p=>(p.1,p.2.1,s.ev p.2.2))/\T.aO M (ps'.map fun p=>s.ev p.2.2):=by
 intro ps;induction ps with
 |nil=>intro ps' h _; cases h; exact⟨.nil,by simp[T.aO]⟩
 |cons p ps ih =>
  intro ps' h hst;obtain⟨i,x⟩:=p;simp only[compFields] at h;split at h
  ·rename_i x' off k r' h1 h2 h3;cases h;simp only[bl,zG,aD] at hst;obtain⟨i1,i2⟩:=ih h3 hst.2;refine⟨.cons ⟨?_,bY R h1,by rw[R.he]; exact hst.1⟩ i1,by simp only[bl,T.aO]; exact⟨mX R h1,i2⟩⟩;obtain⟨fs',fd,g1,g2,g3,_,g5⟩:=HY h2;rw[hu] at g1; cases g1;obtain⟨inf,d,k1,_,k3,_⟩:=yY g3;have hlist:fs.toList[i]? =some fd:=by simpa using g2
   have hpl:places[i]? =some (off,bD k):=by
    have hgen: ∀ (l:List Field) (r:List (Nat×Nat)) (j:Nat),l.mapM (fun f=>(P.info? f.type).map fun i=>(f.offset,i.size))=some r->l[j]? =some fd->r[j]? =some (fd.offset,inf.size):=by
     intro l;induction l with
     |nil=>intro r j _ hj; simp at hj
     |cons f l ihl =>
      intro r j hm hj;simp only[List.mapM_cons,Option.bind_eq_bind,Option.pure_def,Option.bind_eq_some_iff] at hm;obtain⟨y,hy,ys,hys,hr⟩:=hm;cases hr;cases j with
      |zero=>simp at hj; subst hj; simp[k1] at hy; simp[hy]
      |succ j=>simpa using ihl ys j hys (by simpa using hj)
    rw[hgen _ _ _ hp hlist,g5,k3]
   simpa using hpl
  ·cases h
theorem RJ{z:List T}: ∀ {qs:List (Nat×Nat×T)},T.aO M z->T.aO M (qs.map fun q=>q.2.2)->T.aO M (L9 z qs):=by
 intro qs;induction qs generalizing z with
 |nil=>intro h _; exact h
 |cons q qs ih =>
  obtain⟨off,n,t⟩:=q;intro h h';simp only[bl,T.aO] at h';simp only[L9];exact ih (gB.2 ⟨gB.2 ⟨yV h _,yX h'.1⟩,BX h _⟩) h'.2
theorem anv(R:Rel F M E s a){ty:TypeId}{parts:Array (Nat×Operand)}{fs:Array Field}{cs:Array Value}{ps:List (Nat×Nat×X)}{o:Oper}
  (ho:o.op= .build ty parts) (hu:P.underlying ty=some (.struct fs)) (hz:zeroOf P ty=some (.agg cs)) (hc:compFields P ty parts.toList=some ps)
  (hok:nN (.agg cs)=true) (hpl:(fs.toList.mapM (fun f=>(P.info? f.type).map fun i=>(f.offset,i.size))).isSome=true)
  (h:qc s (.mk (cs.toList.map MQ) ps)):uO P E a o (qt s (.mk (cs.toList.map MQ) ps)):=by
 obtain⟨places,hp⟩:=am.1 hpl;simp only[qc,aD] at h;obtain⟨hF,_⟩:=AO R hu hp hc h.2;have hzr:aX E (cs.toList.map MQ) cs.toList:=F7 fun v hv=>by
  simp only[nN,Value.cells,bj,Array.mem_toList_iff] at hok;exact hok v (by simpa using hv)
 obtain⟨cs',h1,h2⟩:=VO R.hk (fun i=>places.toArray[i]?) _ _ _ cs hF hzr h.1;have hb:P.built ty ((parts.map fun(i,x)=>(i,a.eval x)).toList)=some cs':=by
  unfold zeroOf at hz;cases hi:P.info? ty with
  |none=>simp[hi] at hz
  |some it =>
   have hz':it.zero=some (.agg cs):=by simpa [hi] using hz
   simp only[Program.built,hi,hu,hz',hp,Value.cells];simpa using h1
 refine⟨.agg cs',?_,?_⟩
 ·simp only[execOp,ho,Sem.run_bind,run_build E.w ty _ cs' hb,Result.andThen_ok,Sem.run_pure]
 ·simp only[qt]; rw[BZ]; exact⟨cs',rfl,h2⟩
theorem vH(R:Rel F M E s a){x:Option Operand}{x':Option X}(h:yH x=some x') :
  (x=none/\x'=none)\/ ∃ y y',x=some y/\x'=some y'/\lZ E (s.ev y') (a.eval y):=by
 cases x with
 |none=>cases h; exact .inl ⟨rfl,rfl⟩
 |some y =>
  simp only[yH,be] at h;obtain⟨y',h1,rfl⟩:=h;exact .inr ⟨y,y',rfl,rfl,bY R h1⟩
theorem Cc{k:Nat}{f':Bool}{l:List T}{ad:Option Addr}{c:Nat}(hlc:l.length<=c)
  (hrow:l=[]\/ ∃ b off cur e m,ad=some ⟨b,off,none⟩/\E.S b/\E.w.heap[b]? =some (.cells cur e m)/\T.aO (fun _=>False) l/\aJ E k l (cur.toList.drop off))
  {lo hi mx:Nat} (h1:lo<=hi) (h2:hi<=l.length) (h3:hi<=mx) (_h4:mx<=c) (hfull:f'=true->mx=hi) {k':Nat} (hk:k=k'\/l=[]) :
  aN E (.sl k' f' ((l.take hi).drop lo)) [.slice (if mx=lo then ad else ad.map (·.add (lo*bD k'))) (hi-lo) (mx-lo)]:=by
 simp only[aN];have hlen:((l.take hi).drop lo).length=hi-lo:=by simp; omega
 refine⟨_,_,by rw[hlen],by omega,fun hf=>by rw[hfull hf,hlen],?_⟩;by_cases he:lo=hi
 ·exact .inl (ai (by omega))
 ·have hne:l≠[]:=by rintro rfl; simp at h2; omega
  obtain⟨b,off,cur,e,m,rfl,hS,hh,hid,hr⟩:=hrow.resolve_left hne;have hk':=hk.resolve_right hne;subst hk';refine .inr ⟨b,off+lo*bD k,cur,e,m,?_,hS,hh,BX (yV hid _) _,?_⟩
  ·rw[bB (by omega)]; simp[addr_add]
  ·rw[<- dm];exact DJ (yL hr hi) lo (by simp; omega)
theorem vI{ty e k:Nat}(hu:P.underlying ty=some (.slice e))(hk:kindOf P e=some k){ad:Option Addr}{len cap:Nat}{x:Operand}{lo hi mx:Option Operand}{o:Oper}
  (ho:o.op= .slice ty x lo hi mx) (ha:a.eval x= .slice ad len cap) {l h m:Nat} (hb:(Instr.sliceBounds true len cap (lo.map a.eval) (hi.map a.eval) (mx.map a.eval)).run P E.w= .ok (l,h,m) E.w) :
  (execOp a.eval o).run P E.w= .ok (.value (.slice (if m=l then ad else ad.map (·.add (l*bD k))) (h-l) (m-l))) E.w:=by
 simp only[execOp,ho,ha,Instr.sliceAt,Instr.slice,underlying,Sem.run_bind,run_program,Result.andThen_ok,hu,Sem.run_pure,hb,jo hk]
theorem kU{kd:IntKind}{n:Int}{y:Nat}{cde:BoundsCode}(h0:0<=n)(h1:n<=y)(w:World):(Instr.sliceBound (.int kd n) y cde).run P w= .ok n.toNat w:=by
 simp[Instr.sliceBound,asIntOf,h0,h1]
theorem alQ(R:Rel F M E s a){ty e k:Nat}{x:Operand}{lo hi mx:Option Operand}{x':X}{lo' hi' mx':Option X}(hx:aY x=some x')(hlo:yH lo=some lo')(hhi:yH hi=some hi')(hmx:yH mx=some mx'){o:Oper}
  (ho:o.op= .slice ty x lo hi mx) (hu:P.underlying ty=some (.slice e)) (hk:kindOf P e=some k) (h:slC k (s.ev x') (lo'.map s.ev) (hi'.map s.ev) (mx'.map s.ev)):uO P E a o (VF k (s.ev x') (lo'.map s.ev) (hi'.map s.ev) (mx'.map s.ev)):=by
 have rx:=bY R hx;have rl:=vH R hlo; have rh:=vH R hhi; have rm:=vH R hmx;unfold slC at h
 have row: ∀ {k' f l},s.ev x'= .sl k' f l-> ∃ ad c,a.eval x= .slice ad l.length c/\l.length<=c/\(f=true->c=l.length) /\
   (l=[]\/ ∃ b off cur e m,ad=some ⟨b,off,none⟩/\E.S b/\E.w.heap[b]? =some (.cells cur e m)/\T.aO (fun _=>False) l/\aJ E k' l (cur.toList.drop off)):=by
  intro k' f l e1;rw[e1,aB rfl] at rx;simp only[aN] at rx;obtain⟨ad,c,hu',h1,h2,h3⟩:=rx;exact⟨ad,c,by simpa using hu',h1,h2,h3⟩
 have pz: ∀ {x:Option Operand} {x':Option X},((x=none/\x'=none)\/ ∃ y y',x=some y/\x'=some y'/\lZ E (s.ev y') (a.eval y))->x'.map s.ev=none->x=none:=by
  intro x x' h h';rcases h with ⟨h,_⟩|⟨y,y',_,rfl,_⟩
  ·exact h
  ·simp at h'
 have tH: ∀ {x:Option Operand} {x':Option X} {kd n},((x=none/\x'=none)\/ ∃ y y',x=some y/\x'=some y'/\lZ E (s.ev y') (a.eval y))->x'.map s.ev=some (.lit (.int kd n))->x.map a.eval=some (.int kd n):=by
  intro x x' kd n h h';rcases h with ⟨_,rfl⟩|⟨y,y',rfl,rfl,h⟩
  ·simp at h'
  ·simp only[bp,bi] at h' ⊢; rw[h',aQ] at h; exact h
 split at h
 ·rename_i k' f l e1 e2 e3 e4;obtain⟨ad,c,ha,hlc,hf,hrow⟩:=row e1;have n1:=pz rl e2; have n2:=pz rh e3; have n3:=pz rm e4;subst n1 n2 n3;refine⟨_,vI hu hk ho ha (l:=0) (h:=l.length) (m:=c) (by simp[Instr.sliceBounds]),?_⟩;simp only[VF,e1,e2,e3,e4];rw[aB rfl];have:=Cc (f':=f) hlc hrow (lo:=0) (hi:=l.length) (mx:=c) (by omega) (by omega) hlc (by omega) hf h;simpa using this
 ·rename_i k' f l kd n e1 e2 e3 e4;obtain⟨hkk,h0,h1⟩:=h;obtain⟨ad,c,ha,hlc,hf,hrow⟩:=row e1;have n1:=tH rl e2; have n2:=pz rh e3; have n3:=pz rm e4;subst n2 n3;refine⟨_,vI hu hk ho ha (l:=n.toNat) (h:=l.length) (m:=c) (by simp[Instr.sliceBounds,n1,kU h0 h1]),?_⟩;simp only[VF,e1,e2,e3,e4];rw[aB rfl];have:=Cc (f':=f) hlc hrow (lo:=n.toNat) (hi:=l.length) (mx:=c) (by omega) (by omega) hlc (by omega) hf hkk;simpa using this
 ·rename_i k' f l kd n e1 e2 e3 e4;obtain⟨hkk,h0,h1⟩:=h;obtain⟨ad,c,ha,hlc,hf,hrow⟩:=row e1;have n1:=pz rl e2; have n2:=tH rh e3; have n3:=pz rm e4;subst n1 n3;refine⟨_,vI hu hk ho ha (l:=0) (h:=n.toNat) (m:=c) (by simp[Instr.sliceBounds,n2,kU h0 (show n<=(c:Int) by omega)]),?_⟩;simp only[VF,e1,e2,e3,e4];rw[aB rfl];have:=Cc (f':=(f&&decide (n=l.length))) hlc hrow (lo:=0) (hi:=n.toNat) (mx:=c) (by omega) (by omega) (by omega) (by omega) (fun hq=>by simp only[aD,aq] at hq; have:=hf hq.1; omega) hkk;simpa using this
 ·rename_i k' f l kd n kd' n' e1 e2 e3 e4;obtain⟨hkk,h0,h1,h2⟩:=h;obtain⟨ad,c,ha,hlc,hf,hrow⟩:=row e1;have n1:=tH rl e2; have n2:=tH rh e3; have n3:=pz rm e4;subst n3
  refine⟨_,vI hu hk ho ha (l:=n.toNat) (h:=n'.toNat) (m:=c) (by
   simp[Instr.sliceBounds,n1,n2,kU (show 0<=n' by omega) (show n'<=(c:Int) by omega),kU h0 (show n<=(n'.toNat:Int) by omega)]),?_⟩
  simp only[VF,e1,e2,e3,e4];rw[aB rfl];have:=Cc (f':=false) hlc hrow (lo:=n.toNat) (hi:=n'.toNat) (mx:=c) (by omega) (by omega) (by omega) (by omega) (by simp) hkk;simpa using this
 ·rename_i k' f l kd n kd' n' e1 e2 e3 e4;obtain⟨hkk,h0,h1,h2⟩:=h;obtain⟨ad,c,ha,hlc,hf,hrow⟩:=row e1;have n1:=pz rl e2; have n2:=tH rh e3; have n3:=tH rm e4;subst n1
  refine⟨_,vI hu hk ho ha (l:=0) (h:=n.toNat) (m:=n'.toNat) (by
   simp[Instr.sliceBounds,n2,n3,kU (show 0<=n' by omega) (show n'<=(c:Int) by omega),kU h0 (show n<=(n'.toNat:Int) by omega)]),?_⟩
  simp only[VF,e1,e2,e3,e4];rw[aB rfl];have:=Cc (f':=decide (n=n')) hlc hrow (lo:=0) (hi:=n.toNat) (mx:=n'.toNat) (by omega) (by omega) (by omega) (by omega) (by simp; omega) hkk;simpa using this
 ·exact h.elim
theorem aj2(R:Rel F M E s a){ty e k:Nat}{x:Operand}{lo hi mx:Option Operand}{x':X}{lo' hi' mx':Option X}(hx:aY x=some x')(hlo:yH lo=some lo')(hhi:yH hi=some hi')(hmx:yH mx=some mx'){o:Oper}
  (ho:o.op= .slice ty x lo hi mx) (hu:P.underlying ty=some (.slice e)) (hk:kindOf P e=some k) {i:Nat} {ob:Ob} (ei:s.ev x'= .own i) (hob:s.hp i=some ob) (h:Jf k ob (lo'.map s.ev) (hi'.map s.ev) (mx'.map s.ev)) :
  uO P E a o (Ec i ob (lo'.map s.ev) (hi'.map s.ev) (mx'.map s.ev))/\(Ec i ob (lo'.map s.ev) (hi'.map s.ev) (mx'.map s.ev)).ids M:=by
 have rx:=bY R hx;have ix:=mX R hx;have rl:=vH R hlo; have rh:=vH R hhi; have rm:=vH R hmx;rw[ei,aB rfl] at rx;rw[ei] at ix;simp only[aN] at rx;obtain⟨u,hu1,hlive⟩:=rx;have fF:E.h i=some ob:=by rw[R.he]; exact hob
 have hφ:=hlive (by rw[fF]; rfl);obtain⟨hok,GI,hsz⟩:=R.hk.obs i ob fF;have ha:a.eval x=E.φ i:=by rw[<- hφ]; simpa using hu1
 have pz: ∀ {x:Option Operand} {x':Option X},((x=none/\x'=none)\/ ∃ y y',x=some y/\x'=some y'/\lZ E (s.ev y') (a.eval y))->x'.map s.ev=none->x=none:=by
  intro x x' h h';rcases h with ⟨h,_⟩|⟨y,y',_,rfl,_⟩
  ·exact h
  ·simp at h'
 have tH: ∀ {x:Option Operand} {x':Option X} {kd n},((x=none/\x'=none)\/ ∃ y y',x=some y/\x'=some y'/\lZ E (s.ev y') (a.eval y))->x'.map s.ev=some (.lit (.int kd n))->x.map a.eval=some (.int kd n):=by
  intro x x' kd n h h';rcases h with ⟨_,rfl⟩|⟨y,y',rfl,rfl,h⟩
  ·simp at h'
  ·simp only[bp,bi] at h' ⊢; rw[h',aQ] at h; exact h
 have row:ob.k=k-> ∃ ad c,E.φ i= .slice ad ob.l.length c/\ob.l.length<=c:=by
  intro hkk;rcases hok.row (by rw[hkk]; exact EO hk) with ⟨ad,h1,h2⟩|⟨g,c,cur,h1,h2,_⟩
  ·exact⟨ad,0,by rw[h1,h2]; rfl,by rw[h2]; simp⟩
  ·exact⟨_,_,h1,h2⟩
 unfold Jf at h;split at h
 ·rename_i kd n e2 e3 e4;obtain⟨hkk,h0,h1⟩:=h;obtain⟨ad,c,hv,hlc⟩:=row hkk;have n1:=tH rl e2; have n2:=pz rh e3; have n3:=pz rm e4;subst n2 n3;simp only[Ec,e2,e3,e4];refine⟨⟨_,vI hu hk ho (ha.trans hv) (l:=n.toNat) (h:=ob.l.length) (m:=c) (by simp[Instr.sliceBounds,n1,kU h0 h1]),?_⟩,ix⟩;rw[aB rfl]; simp only[aN];exact⟨_,rfl,fun _=>⟨ad,_,c,hv,by omega,ba _,hlc,by rw[GI,hkk]⟩⟩
 ·rename_i kd n e2 e3 e4;obtain⟨hkk,h0,h1⟩:=h;obtain⟨ad,c,hv,hlc⟩:=row hkk;have n1:=pz rl e2; have n2:=tH rh e3; have n3:=pz rm e4;subst n1 n3;simp only[Ec,e2,e3,e4];refine⟨⟨_,vI hu hk ho (ha.trans hv) (l:=0) (h:=n.toNat) (m:=c) (by simp[Instr.sliceBounds,n2,kU h0 (show n<=(c:Int) by omega)]),?_⟩,ix⟩;rw[aB rfl]; simp only[aN];exact⟨_,rfl,fun _=>⟨ad,_,c,hv,by omega,by omega,hlc,by rw[GI,hkk]⟩⟩
 ·rename_i kd n kd' n' e2 e3 e4;obtain⟨hkk,h0,h1,h2⟩:=h;obtain⟨ad,c,hv,hlc⟩:=row hkk;have n1:=tH rl e2; have n2:=tH rh e3; have n3:=pz rm e4;subst n3;simp only[Ec,e2,e3,e4]
  refine⟨⟨_,vI hu hk ho (ha.trans hv) (l:=n.toNat) (h:=n'.toNat) (m:=c) (by
   simp[Instr.sliceBounds,n1,n2,kU (show 0<=n' by omega) (show n'<=(c:Int) by omega),kU h0 (show n<=(n'.toNat:Int) by omega)]),?_⟩,ix⟩
  rw[aB rfl]; simp only[aN];exact⟨_,rfl,fun _=>⟨ad,_,c,hv,by omega,by omega,hlc,by rw[GI,hkk]⟩⟩
 ·exact h.elim
theorem alR(R:Rel F M E s a){t e:TypeId}{ts:Array TypeId}{x:Operand}{x':X}(hx:aY x=some x'){o:Oper}(ho:o.op= .call {callee:=.builtin .cap,args:= #[x],argTypes:=ts})(h0:ts[0]? =some t)
  (hu:P.underlying t=some (.slice e)) (h:qc s (.TG x')):uO P E a o (qt s (.TG x')):=by
 have rx:=bY R hx;simp only[qc] at h;split at h
 ·rename_i k l e1;rw[e1,aB rfl] at rx;simp only[aN] at rx;obtain⟨ad,c,hu',_,hc,_⟩:=rx;have ha:a.eval x= .slice ad l.length c:=by simpa using hu'
  have hcl:=hc trivial;refine⟨.int .i64 l.length,?_,by simp only[qt,e1,aQ]⟩;simp[execOp,ho,resolve,invoke,builtin,Builtin.cap_,h0,ha,run_underlying hu,goInt,hcl]
 ·exact h.elim
theorem Yn: ∀ (ns:List Int) (acc:ByteArray),(ns.foldl (fun r n=>r.push (UInt8.ofNat n.toNat)) acc)=⟨acc.data++(ns.map fun n=>UInt8.ofNat n.toNat).toArray⟩:=by
 intro ns;induction ns with
 |nil=>intro acc; simp
 |cons n ns ih=>intro acc; rw[eB,ih]; simp[ByteArray.push]
theorem adW{E:Env}: ∀ {l:List T} {vs:List Value},VE l=true->aJ E 0 l vs-> ∃ ns:List Int,vs.take l.length=ns.map (Value.int .u8)/\bytesOf l=⟨(ns.map fun n=>UInt8.ofNat n.toNat).toArray⟩:=by
 intro l;induction l with
 |nil=>intro vs _ _; exact⟨[],rfl,rfl⟩
 |cons t r ih =>
  intro vs ha h;unfold VE at ha;split at ha
  ·rename_i heq; cases heq
  ·rename_i n r' heq;cases heq;simp only[aJ,bD] at h;obtain⟨_,h1,_,h2,h3⟩:=h;cases vs with
   |nil=>simp at h1
   |cons v vs =>
    simp only[ee,List.take_zero,aN,eI,and_true] at h2;obtain⟨ns,e1,e2⟩:=ih ha h3;refine⟨n::ns,?_,?_⟩
    ·simp only[List.drop_succ_cons,List.drop_zero] at e1;simp only[bX,ee,bl,e1,h2]
    ·simp only[bytesOf,ByteArray.mk.injEq,Array.mk.injEq,bl,List.toArray_inj] at e2 ⊢;rw[e2]; rfl
  ·cases ha
theorem alS(R:Rel F M E s a){src dst e:TypeId}{x:Operand}{x':X}(hx:aY x=some x'){o:Oper}(ho:o.op= .convert src dst x)
  (h1:P.underlying src=some (.slice e)) (h2:P.underlying dst=some .string) (h3:P.underlying e=some (.int .u8)) (h:qc s (.bts x')):uO P E a o (qt s (.bts x')):=by
 have rx:=bY R hx;simp only[qc] at h;split at h
 ·rename_i oo e1;split at h
  ·rename_i ob hob;obtain⟨hk,hne,hu⟩:=h;rw[e1,aB rfl] at rx;simp only[aN] at rx;obtain⟨u,hu',hlive⟩:=rx;have fF:E.h oo=some ob:=by rw[R.he]; exact hob
   have hφ:=hlive (by rw[fF]; rfl);obtain⟨hok,GI,hsz⟩:=R.hk.obs oo ob fF;have ha:a.eval x=E.φ oo:=by rw[<- hφ]; simpa using hu'
   rcases hok.row (by rw[hk]; decide) with ⟨_,_,h0⟩|⟨g,c,cur,hv,hl,hc,hh,hcs,hr⟩
   ·exact absurd h0 hne
   rw[hk] at hr hcs;obtain⟨ns,e2,e3⟩:=adW hu hr;have hlen:ns.length=ob.l.length:=by
    have:=dC List.length e2;have:=zK hr;simp only[bD,Nat.mul_one,bR,bL] at *; omega
   have hld:=run_loadCells_list (P:=P) E.w ⟨g,0,none⟩ (ns.map (Value.int .u8)) (fun j v hj=>by
    rw[addr_add,Nv hh];rw[<- e2] at hj;by_cases hjl:j<ob.l.length
    ·rw[cN hjl] at hj; simpa using hj
    ·rw[eO (by omega)] at hj; cases hj)
   rw[bL,hlen] at hld;refine⟨.string (bytesOf ob.l),?_,by simp only[qt,e1,hob,aQ]⟩;simp only[execOp,ho,ha,hv,Sem.run_bind];rw[run_convert_bytes_string E.w src dst e _ _ _ h1 h3 h2,run_bytesToString E.w _ _ _ ns hld,Yn,e3];simp[Sem.run_pure]
  ·exact h.elim
 ·exact h.elim
theorem GL{E:Env}: ∀ {l:List T} {vs:List Value},l.length<=vs.length->aX E l (vs.take l.length)->aJ E 0 l vs:=by
 intro l;induction l with
 |nil=>intro vs _ _; simp[aJ]
 |cons t r ih =>
  intro vs hl h;cases vs with
  |nil=>simp at hl
  |cons v vs =>
   simp only[bX,ee,aX] at h;obtain⟨h1,v',r',e,h2,h3,h4⟩:=h;cases e;simp only[bX,Nat.add_le_add_iff_right] at hl;simp only[aJ,bD,bX,ee,List.take_zero,List.drop_succ_cons,List.drop_zero,br,hJ];exact⟨h1,by omega,h2,h3,ih hl h4⟩
theorem anw(R:Rel F M E s a){ty n e:Nat}{x:Operand}{x':X}(hx:aY x=some x'){o:Oper}(ho:o.op= .slice ty x none none none)
  (hu:P.underlying ty=some (.array n e)) (hk:kindOf P e=some 0) (h:qc s (.sa n x')):uO P E a o (qt s (.sa n x')):=by
 have rx:=bY R hx;simp only[qc] at h;split at h
 ·rename_i k l e1;rw[e1,aB rfl] at rx;simp only[aN] at rx;obtain⟨b,off,cur,e',m,hv,hS,hh,hkd,hid,hlen,hr⟩:=rx;simp only[aD,cF] at h;obtain⟨⟨hk1,hl⟩,h0⟩:=h;have hl:=cw hl;have:=cw hk1; subst this;have ha:a.eval x= .pointer (some ⟨b,off,none⟩):=by simpa using hv
  refine⟨.slice (some ⟨b,off,none⟩) n n,?_,?_⟩
  ·simp[execOp,ho,ha,Instr.sliceAt,run_underlying hu,Instr.sureAddr,Instr.sliceBounds,jo hk,addr_add]
  ·simp only[qt,e1];rw[aB rfl]; simp only[aN];refine⟨_,n,by rw[hl],by omega,fun _=>hl.symm,.inr ⟨b,off,cur,e',m,rfl,hS,hh,by simpa [T.ids] using hid,?_⟩⟩;simp only[bD] at hlen hr;exact GL (by omega) (by rw[hl]; exact hr)
 ·exact h.elim
theorem anx(R:Rel F M E s a){ty:Nat}{x:Operand}{lo hi:Option Operand}{x':X}{lo' hi':Option X}(hx:aY x=some x')(hlo:yH lo=some lo')(hhi:yH hi=some hi'){o:Oper}
  (ho:o.op= .slice ty x lo hi none) (hu:P.underlying ty=some .string) (h:qc s (.ss x' lo' hi')):uO P E a o (qt s (.ss x' lo' hi')):=by
 have rx:=bY R hx;have rl:=vH R hlo; have rh:=vH R hhi;simp only[qc] at h;have pz: ∀ {x:Option Operand} {x':Option X},((x=none/\x'=none)\/ ∃ y y',x=some y/\x'=some y'/\lZ E (s.ev y') (a.eval y))->x'.map s.ev=none->x=none:=by
  intro x x' h h';rcases h with ⟨h,_⟩|⟨y,y',_,rfl,_⟩
  ·exact h
  ·simp at h'
 have tH: ∀ {x:Option Operand} {x':Option X} {kd n},((x=none/\x'=none)\/ ∃ y y',x=some y/\x'=some y'/\lZ E (s.ev y') (a.eval y))->x'.map s.ev=some (.lit (.int kd n))->x.map a.eval=some (.int kd n):=by
  intro x x' kd n h h';rcases h with ⟨_,rfl⟩|⟨y,y',rfl,rfl,h⟩
  ·simp at h'
  ·simp only[bp,bi] at h' ⊢; rw[h',aQ] at h; exact h
 have run: ∀ {b:ByteArray} {l h m:Nat},a.eval x= .string b->(Instr.sliceBounds false b.size b.size (lo.map a.eval) (hi.map a.eval) none).run P E.w= .ok (l,h,m) E.w ->
   (execOp a.eval o).run P E.w= .ok (.value (.string (b.extract l h))) E.w:=by
  intro b l h m ha hb;simp only[execOp,ho,ha,Instr.sliceAt,Instr.slice,underlying,Sem.run_bind,run_program,Result.andThen_ok,hu,Sem.run_pure,eA,Option.isSome_none,da,cW,hb]
 split at h
 ·rename_i b e1 e2 e3;rw[e1,aQ] at rx;have n1:=pz rl e2; have n2:=pz rh e3;subst n1 n2;exact⟨_,run (l:=0) (h:=b.size) (m:=b.size) rx (by simp[Instr.sliceBounds]),by simp only[qt,e1,e2,e3,aQ]⟩
 ·rename_i b kd n e1 e2 e3;rw[e1,aQ] at rx;have n1:=tH rl e2; have n2:=pz rh e3;subst n2;exact⟨_,run (l:=n.toNat) (h:=b.size) (m:=b.size) rx (by simp[Instr.sliceBounds,n1,kU h.1 h.2]),by simp only[qt,e1,e2,e3,aQ]⟩
 ·rename_i b kd n e1 e2 e3;rw[e1,aQ] at rx;have n1:=pz rl e2; have n2:=tH rh e3;subst n1;exact⟨_,run (l:=0) (h:=n.toNat) (m:=b.size) rx (by simp[Instr.sliceBounds,n2,kU h.1 h.2]),by simp only[qt,e1,e2,e3,aQ]⟩
 ·rename_i b kd n kd' n' e1 e2 e3;rw[e1,aQ] at rx;have n1:=tH rl e2; have n2:=tH rh e3;obtain⟨h0,h1,h2⟩:=h
  exact⟨_,run (l:=n.toNat) (h:=n'.toNat) (m:=b.size) rx (by
   simp[Instr.sliceBounds,n1,n2,kU (show 0<=n' by omega) h2,kU h0 (show n<=(n'.toNat:Int) by omega)]),by simp only[qt,e1,e2,e3,aQ]⟩
 ·exact h.elim
end ops
end Go.Ab
