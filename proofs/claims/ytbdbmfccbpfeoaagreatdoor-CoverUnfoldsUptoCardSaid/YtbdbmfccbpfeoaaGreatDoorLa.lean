/-
 The abstract layer, part 1: abstract values, an intermediate code, its abstract weakest precondition, and the translation into it.
 No condition; definitions alone.
-/
import Derived.Orders
import Derived.Tactics
import Derived.Laws.AppendOwn
import Derived.Below
import Derived.Lib.LaidTab
import Derived.Lib.Space
import Derived.RangeFuncSeq
import Derived.Laws.CopyRow
import Derived.Laws.StructEq
namespace Go.Ab
theorem aD:type_of% @Bool.and_eq_true:=@Bool.and_eq_true
theorem aL:type_of% @List.length_append:=@List.length_append
theorem aM:type_of% @Bool.false_ne_true:=@Bool.false_ne_true
theorem aR:type_of% @of_decide_eq_false:=@of_decide_eq_false
theorem ab:type_of% @decide_eq_true_eq:=@decide_eq_true_eq
theorem ag:type_of% @List.getD_eq_getElem?_getD:=@List.getD_eq_getElem?_getD
theorem ai:type_of% @List.eq_nil_of_length_eq_zero:=@List.eq_nil_of_length_eq_zero
theorem am:type_of% @Option.isSome_iff_exists:=@Option.isSome_iff_exists
theorem ao:type_of% @decide_eq_false_iff_not:=@decide_eq_false_iff_not
theorem ap:type_of% @Nat.zero_le:=@Nat.zero_le
theorem aq:type_of% @of_decide_eq_true:=@of_decide_eq_true
theorem av:type_of% @if_neg:=@if_neg
theorem ax:type_of% @List.append_assoc:=@List.append_assoc
theorem bA:type_of% @List.mem_map:=@List.mem_map
theorem bB:type_of% @cond_false:=@cond_false
theorem bE:type_of% @List.getElem?_eq_getElem:=@List.getElem?_eq_getElem
theorem bL:type_of% @List.length_take:=@List.length_take
theorem bN:type_of% @List.length_cons:=@List.length_cons
theorem bO:type_of% @Nat.le_refl:=@Nat.le_refl
theorem bR:type_of% @List.getElem_mem:=@List.getElem_mem
theorem bS:type_of% @cond_true:=@cond_true
theorem bX:type_of% @Option.map_eq_some_iff:=@Option.map_eq_some_iff
theorem ba:type_of% @if_pos:=@if_pos
theorem bc:type_of% @Option.some.injEq:=@Option.some.injEq
theorem be:type_of% @Int.toNat_natCast:=@Int.toNat_natCast
theorem bh:type_of% @List.length_map:=@List.length_map
theorem bi:type_of% @Bool.or_eq_false_iff:=@Bool.or_eq_false_iff
theorem bj:type_of% @List.getElem?_eq_some_iff:=@List.getElem?_eq_some_iff
theorem bk:type_of% @List.take_of_length_le:=@List.take_of_length_le
theorem bl:type_of% @Bool.not_eq_true':=@Bool.not_eq_true'
theorem bm:type_of% @List.mem_cons:=@List.mem_cons
theorem bo:type_of% @beq_iff_eq:=@beq_iff_eq
theorem bp:type_of% @List.map_cons:=@List.map_cons
theorem bq:type_of% @List.take_succ_eq_append_getElem:=@List.take_succ_eq_append_getElem
theorem br:type_of% @Array.length_toList:=@Array.length_toList
theorem bt:type_of% @List.mem_singleton:=@List.mem_singleton
theorem bu:type_of% @Option.map_some:=@Option.map_some
theorem bv:type_of% @List.length_drop:=@List.length_drop
theorem bw:type_of% @List.length_nil:=@List.length_nil
theorem bx:type_of% @List.take_append_drop:=@List.take_append_drop
theorem cA:type_of% @List.all_eq_true:=@List.all_eq_true
theorem cB:type_of% @List.take_length:=@List.take_length
theorem cC:type_of% @Bool.and_eq_false_iff:=@Bool.and_eq_false_iff
theorem cD:type_of% @List.drop_eq_nil_of_le:=@List.drop_eq_nil_of_le
theorem cE:type_of% @beq_eq_false_iff_ne:=@beq_eq_false_iff_ne
theorem cF:type_of% @Bool.eq_iff_iff:=@Bool.eq_iff_iff
theorem cG:type_of% @Nat.ne_of_beq_eq_false:=@Nat.ne_of_beq_eq_false
theorem cH:type_of% @decide_eq_false:=@decide_eq_false
theorem cI:type_of% @Nat.blt_eq:=@Nat.blt_eq
theorem cJ:type_of% @List.take_add_one:=@List.take_add_one
theorem cK:type_of% @List.map_congr_left:=@List.map_congr_left
theorem cL:type_of% @List.mem_range:=@List.mem_range
theorem cM:type_of% @List.getElem?_map:=@List.getElem?_map
theorem cN:type_of% @List.mem_append:=@List.mem_append
theorem cP:type_of% @if_false:=@if_false
theorem cQ:type_of% @List.getElem?_drop:=@List.getElem?_drop
theorem cR:type_of% @Nat.lt_of_lt_of_le:=@Nat.lt_of_lt_of_le
theorem cS:type_of% @Bool.or_eq_true:=@Bool.or_eq_true
theorem cT:type_of% @List.append_nil:=@List.append_nil
theorem cU:type_of% @List.getElem?_take_of_lt:=@List.getElem?_take_of_lt
theorem cV:type_of% @Array.getElem?_eq_some_iff:=@Array.getElem?_eq_some_iff
theorem cW:type_of% @if_true:=@if_true
theorem cX:type_of% @List.getElem?_append_left:=@List.getElem?_append_left
theorem cY:type_of% @decide_eq_true:=@decide_eq_true
theorem ce:type_of% @List.range_succ:=@List.range_succ
theorem ci:type_of% @List.getElem?_append_right:=@List.getElem?_append_right
theorem cj:type_of% @Bool.true_and:=@Bool.true_and
theorem ck:type_of% @List.mem_flatMap:=@List.mem_flatMap
theorem cm:type_of% @List.mem_of_getElem?:=@List.mem_of_getElem?
theorem cn:type_of% @Nat.mul_le_mul_right:=@Nat.mul_le_mul_right
theorem co:type_of% @List.length_set:=@List.length_set
theorem cp:type_of% @List.map_map:=@List.map_map
theorem cq:type_of% @List.getElem?_eq_none:=@List.getElem?_eq_none
theorem cr:type_of% @Nat.lt_succ_of_lt:=@Nat.lt_succ_of_lt
theorem ct:type_of% @List.Perm.refl:=@List.Perm.refl
theorem cv:type_of% @Bool.false_or:=@Bool.false_or
theorem cw:type_of% @List.cons_append:=@List.cons_append
theorem cx:type_of% @List.map_append:=@List.map_append
theorem cy:type_of% @Nat.add_mul:=@Nat.add_mul
theorem cz:type_of% @Bool.false_eq_true:=@Bool.false_eq_true
theorem dC:type_of% @Array.getD_eq_getD_getElem?:=@Array.getD_eq_getD_getElem?
theorem dE:type_of% @List.drop_drop:=@List.drop_drop
theorem dT:type_of% @List.pairwise_cons:=@List.pairwise_cons
theorem da:type_of% @Bool.not_eq_false':=@Bool.not_eq_false'
theorem db:type_of% @List.Pairwise.sublist:=@List.Pairwise.sublist
theorem dc:type_of% @List.flatMap_append:=@List.flatMap_append
theorem de:type_of% @List.getElem_of_mem:=@List.getElem_of_mem
theorem dg:type_of% @Nat.le_trans:=@Nat.le_trans
theorem di:type_of% @List.any_eq_true:=@List.any_eq_true
theorem dj:type_of% @List.mem_of_mem_take:=@List.mem_of_mem_take
theorem dm:type_of% @Nat.eq_of_beq_eq_true:=@Nat.eq_of_beq_eq_true
theorem dp:type_of% @List.Perm.append_left:=@List.Perm.append_left
theorem dq:type_of% @List.foldl_cons:=@List.foldl_cons
theorem dt:type_of% @Option.getD_some:=@Option.getD_some
theorem du:type_of% @List.not_mem_nil:=@List.not_mem_nil
theorem dv:type_of% @List.any_eq_false:=@List.any_eq_false
theorem dx:type_of% @Bool.and_true:=@Bool.and_true
theorem dy:type_of% @List.getElem?_set_ne:=@List.getElem?_set_ne
theorem dz:type_of% @List.any_append:=@List.any_append
theorem eA:type_of% @List.mem_filter:=@List.mem_filter
theorem eB:type_of% @List.cons.injEq:=@List.cons.injEq
theorem eC:type_of% @List.ext_getElem:=@List.ext_getElem
theorem eD:type_of% @List.mem_take_iff_getElem:=@List.mem_take_iff_getElem
theorem eE:type_of% @List.drop_eq_getElem_cons:=@List.drop_eq_getElem_cons
theorem eI:type_of% @Array.getElem?_eq_getElem:=@Array.getElem?_eq_getElem
theorem eJ:type_of% @List.foldl_append:=@List.foldl_append
theorem eK:type_of% @congrArg:=@congrArg
theorem eL:type_of% @Nat.succ_mul:=@Nat.succ_mul
theorem eM:type_of% @Nat.le_of_ble_eq_true:=@Nat.le_of_ble_eq_true
theorem eN:type_of% @Option.map_none:=@Option.map_none
theorem eO:type_of% @List.set_cons_zero:=@List.set_cons_zero
theorem eQ:type_of% @Array.all_eq_true_iff_forall_mem:=@Array.all_eq_true_iff_forall_mem
theorem eR:type_of% @Bool.and_self:=@Bool.and_self
theorem eT:type_of% @Nat.mul_le_mul:=@Nat.mul_le_mul
theorem eV:type_of% @List.replicate_succ:=@List.replicate_succ
theorem eW:type_of% @bne_eq_false_iff_eq:=@bne_eq_false_iff_eq
theorem eZ:type_of% @Int.mul_le_mul_of_nonneg_right:=@Int.mul_le_mul_of_nonneg_right
theorem ee:type_of% @Nat.lt_or_ge:=@Nat.lt_or_ge
theorem ef:type_of% @List.eq_of_mem_replicate:=@List.eq_of_mem_replicate
theorem eh:type_of% @Prod.mk.injEq:=@Prod.mk.injEq
theorem ej:type_of% @List.mem_cons_of_mem:=@List.mem_cons_of_mem
theorem ek:type_of% @List.pairwise_append:=@List.pairwise_append
theorem em:type_of% @Nat.ble_eq:=@Nat.ble_eq
theorem en:type_of% @List.flatMap_cons:=@List.flatMap_cons
theorem ep:type_of% @Nat.min_eq_left:=@Nat.min_eq_left
theorem et:type_of% @Bool.not_not:=@Bool.not_not
theorem ez:type_of% @List.any_cons:=@List.any_cons
theorem fI:type_of% @List.sum_cons:=@List.sum_cons
theorem fL:type_of% @List.getElem?_take_eq_none:=@List.getElem?_take_eq_none
theorem fS:type_of% @List.getElem_map:=@List.getElem_map
theorem fT:type_of% @forall_eq_or_imp:=@forall_eq_or_imp
theorem fW:type_of% @List.filter_cons:=@List.filter_cons
theorem fX:type_of% @List.length_filter_le:=@List.length_filter_le
theorem fY:type_of% @List.pairwise_iff_getElem:=@List.pairwise_iff_getElem
theorem fb:type_of% @List.mem_or_eq_of_mem_set:=@List.mem_or_eq_of_mem_set
theorem fc:type_of% @Nat.le_antisymm:=@Nat.le_antisymm
theorem fe:type_of% @Nat.sub_self:=@Nat.sub_self
theorem ff:type_of% @List.length_range:=@List.length_range
theorem fg:type_of% @List.take_sublist:=@List.take_sublist
theorem fh:type_of% @List.drop_sublist:=@List.drop_sublist
theorem fk:type_of% @Bool.or_false:=@Bool.or_false
theorem fo:type_of% @List.drop_append_of_le_length:=@List.drop_append_of_le_length
theorem fp:type_of% @List.length_eq_zero_iff:=@List.length_eq_zero_iff
theorem fq:type_of% @List.getElem?_range:=@List.getElem?_range
theorem fu:type_of% @Nat.one_mul:=@Nat.one_mul
theorem fv:type_of% @List.drop_of_length_le:=@List.drop_of_length_le
theorem fw:type_of% @Nat.pow_succ:=@Nat.pow_succ
theorem fx:type_of% @Nat.zero_add:=@Nat.zero_add
theorem fy:type_of% @Nat.add_zero:=@Nat.add_zero
theorem f5:type_of% @Nat.add_comm:=@Nat.add_comm
theorem f7:type_of% @Nat.beq_refl:=@Nat.beq_refl
theorem f8:type_of% @List.nil_append:=@List.nil_append
theorem f9:type_of% @List.set_append_right:=@List.set_append_right
theorem gA:type_of% @List.all_cons:=@List.all_cons
theorem gC:type_of% @Bool.eq_false_iff:=@Bool.eq_false_iff
theorem gD:type_of% @List.mem_of_mem_drop:=@List.mem_of_mem_drop
theorem gE:type_of% @Bool.not_false:=@Bool.not_false
theorem gF:type_of% @Nat.mul_comm:=@Nat.mul_comm
theorem gH:type_of% @true_and:=@true_and
theorem gL:type_of% @Nat.le_add_right:=@Nat.le_add_right
theorem gM:type_of% @Nat.add_assoc:=@Nat.add_assoc
theorem gN:type_of% @Nat.lt_irrefl:=@Nat.lt_irrefl
theorem gO:type_of% @Int.natCast_mul:=@Int.natCast_mul
theorem gP:type_of% @Array.ext':=@Array.ext'
theorem gR:type_of% @or_false:=@or_false
inductive T where
 |lit (v:Value)
 |agg (l:List T)
 |sl (k:Nat) (full:Bool) (l:List T)
 |ref (k:Nat) (t:T)
 |own (i:Nat)
 |ptr (i j off:Nat)
 |oG (i lo hi:Nat)
 |fn (f:FuncId) (cap:List T)
 |bU (l:List T)
 |any
 deriving Inhabited
@[reducible] def T.int(n:Int):T:=.lit (.int .i64 n)
@[reducible] def T.bool(b:Bool):T:=.lit (.bool b)
@[reducible] def T.nil:T:=.sl 0 true []
@[reducible] def T.un:T:=.lit (.tuple #[])
def T.cells:T->List T
 | .agg l=>l
 |t=>[t]
def T.kd:T->Nat
 | .agg l=>l.length+1
 |_=>0
def bn:Nat->Nat
 |0=>1
 |m+1=>m
structure Ob where
 ty:TypeId
 k:Nat
 l:List T
abbrev Hp:=Nat->Option Ob
def upd(h:Hp)(i:Nat)(o:Option Ob):Hp:=fun j=>if j=i then o else h j
structure AS where
 fr:List T
 hp:Hp
 nx:Nat
 pin:Nat
inductive X where
 |t (n:Nat)
 |c (v:T)
 deriving Inhabited
def AS.put(s:AS)(d:Option Tmp)(t:T):AS :=
 match d with
 |some i=> {s with fr:=s.fr.set i t}
 |none=>s
def AS.ev(s:AS):X->T
 | .t n=>s.fr.getD n T.un
 | .c v=>v
inductive oC where
 |mv (x:X)
 |pick (c a b:X)
 |bin (op:BinOp) (x y:X)
 |bb (ne:Bool) (x y:X)
 |not (x:X)
 |conv (k:IntKind) (x:X)
 |fa (off k:Nat) (x:X)
 |ia (k:Nat) (x i:X)
 |ch (x i:X)
 |ld (k:Nat) (x:X)
 |len (str:Bool) (x:X)
 |mx (x y:X)
 |mk (z:List T) (ps:List (Nat×Nat×X))
 |ms (ty k:Nat) (z:T) (n:Nat) (ps:List (Nat×X))
 |sl (k:Nat) (x:X) (lo hi mx:Option X)
 |ex (x:X) (i:Nat)
 |mf (f:FuncId) (cap:List X)
 |box (ty k:Nat) (x:X)
 |al (ty k:Nat) (z:T)
 |make (ty k bytes:Nat) (z:T) (n c:X)
 |st (k:Nat) (x v:X)
 |app (ty k bytes:Nat) (x y:X)
 |call (f:FuncId) (xs:List X)
 |iD (x:X) (xs:List X)
 |zY (x:X)
 |eqs (ne:Bool) (n:Nat) (x y:X)
 |slx (k:Nat) (x:X) (lo hi mx:Option X)
 |VL (k:Nat) (z:T) (x:X)
 |Iu (ty k:Nat) (z:T) (n:Nat) (ps:List (Nat×X))
 |mb (f:FuncId) (x:X)
 |bot
 deriving Inhabited
structure aJ where
 d:Option Nat
 op:oC
 g:Option (Nat×Bool)
 fl:Bool:=false
 ne:List Nat:=[]
 ad:Bool:=false
 ar:Bool:=false
 deriving Inhabited
inductive bC where
 |skip
 |reg (draw:Bool) (ops:List aJ)
 |seq (a b:bC)
 |cond (c:X) (a b:bC)
 |blk (id:Nat) (b:bC)
 |exit (id:Nat)
 |loop (b:bC)
 |ret
 deriving Inhabited
def T.part(x:T)(off:Nat):Nat->T
 |0=>x.cells.getD off .any
 |m+1=>.agg ((x.cells.drop off).take m)
def qh(n off k:Nat):Bool:=Nat.ble (off+bn k) n
def kEq:IntKind->IntKind->Bool
 | .i8,.i8=>true| .i16,.i16=>true| .i32,.i32=>true| .i64,.i64=>true
 | .u8,.u8=>true| .u16,.u16=>true| .u32,.u32=>true| .u64,.u64=>true
 |_,_=>false
def fnV(f:FuncId)(cs:Array Value):Value:=bif Nat.blt f 4096 then .func (.func f) #[] cs else .func (.func (f % 4096)) #[.agg cs] #[]
def agB(k:IntKind)(a b:Int):Int:=k.wrap ((BitVec.ofInt k.bits a &&& BitVec.ofInt k.bits b).toNat)
def EI(op:BinOp):Value->Value->Option Value
 | .int k a,.int k' b =>
  match kEq k k',op with
  |_,.shr=>bif decide (0<=b) then some (.int k (a.fdiv (2 ^ (min b.toNat k.bits)))) else none
  |true,.add=>some (.int k (k.wrap (a+b)))
  |true,.sub=>some (.int k (k.wrap (a-b)))
  |true,.mul=>some (.int k (k.wrap (a*b)))
  |true,.and=>some (.int k (agB k a b))
  |true,.eql=>some (.bool (a==b))
  |true,.neq=>some (.bool (a !=b))
  |true,.lss=>some (.bool (decide (a<b)))
  |true,.leq=>some (.bool (decide (a<=b)))
  |true,.gtr=>some (.bool (decide (b<a)))
  |true,.geq=>some (.bool (decide (b<=a)))
  |true,.rem=>bif decide (b=0) then none else some (.int k (a.tmod b))
  |_,_=>none
 | .string a,.string b =>
  match op with
  | .eql=>some (.bool (a.toList==b.toList))
  | .neq=>some (.bool (!(a.toList==b.toList)))
  | .add=>bif decide (((a.size+b.size:Nat):Int)<=9223372036854775807) then some (.string (a++b)) else none
  |_=>none
 |_,_=>none
def CY(c a b:T):T :=
 match c with
 | .lit (.bool t) =>
  match a,b with
  | .lit (.bool x),.lit (.bool y)=>.lit (.bool (bif t then x else y))
  |a,b=>bif t then a else b
 |_=>.any
def isBool:T->Bool
 | .lit (.bool _)=>true
 |_=>false
def inR(n:Int)(l:Nat):Prop:=0<=n/\n<l
def JC(z:List T):List (Nat×Nat×T)->List T
 |[]=>z
 |(off,n,t)::r=>JC (z.take off++t.cells++z.drop (off+n)) r
def II(z:List T):List (Nat×Nat×T)->Bool
 |[]=>true
 |(off,n,t)::r=>(t.cells.length==n)&&(Nat.ble (off+n) z.length)&&II (z.take off++t.cells++z.drop (off+n)) r
def tC(z:List T):List (Nat×T)->List T
 |[]=>z
 |(i,t)::r=>tC (z.set i t) r
def Ls(k n:Nat):List (Nat×T)->Bool
 |[]=>true
 |(i,t)::r=>(t.kd==k)&&Nat.blt i n&&Ls k n r
def T.zZ(h:Hp):T->Bool
 | .lit v=>v.oneCell'
 | .own i=>(h i).isSome
 | .ptr i _ _=>(h i).isSome
 | .oG i _ _=>(h i).isSome
 | .sl _ _ _=>true
 | .ref _ _=>true
 | .fn _ _=>true
 |_=>false
def T.kW(h:Hp):T->Bool
 | .agg _=>true
 |t=>t.zZ h
def yw(h:Hp):List T->Bool
 |[]=>true
 |t::ts=>t.kW h&&yw h ts
def Bf(h:Hp):List T->Bool
 |[]=>true
 |t::ts=>t.zZ h&&Bf h ts
mutual
def T.free:T->Bool
 | .own _=>false
 | .ptr _ _ _=>false
 | .oG _ _ _=>false
 | .agg l=>T.bG l
 | .fn _ cap=>T.bG cap
 | .bU l=>T.bG l
 |_=>true
def T.bG:List T->Bool
 |[]=>true
 |t::ts=>T.free t&&T.bG ts
end
def qX:List T->Bool
 |[]=>true
 | .lit (.int .i64 _)::r=>qX r
 |_=>false
def uQ:List T->List T->Bool
 |[],[]=>true
 | .lit (.int _ a)::r,.lit (.int _ b)::r'=>(a==b)&&uQ r r'
 |_,_=>false
def af2(n:Int):List T->Option T
 |[]=>none
 | .bU [.lit (.int _ m),u]::r=>bif n==m then some u else af2 n r
 |_::r=>af2 n r
def BQ(i:Nat)(ob:Ob):Option T->Option T->Option T->T
 |some (.lit (.int _ a)),none,none=>.oG i a.toNat ob.l.length
 |none,some (.lit (.int _ b)),none=>.oG i 0 b.toNat
 |some (.lit (.int _ a)),some (.lit (.int _ b)),none=>.oG i a.toNat b.toNat
 |_,_,_=>.any
def GK(k:Nat)(ob:Ob):Option T->Option T->Option T->Prop
 |some (.lit (.int _ a)),none,none=>ob.k=k/\0<=a/\a<=ob.l.length
 |none,some (.lit (.int _ b)),none=>ob.k=k/\0<=b/\b<=ob.l.length
 |some (.lit (.int _ a)),some (.lit (.int _ b)),none=>ob.k=k/\0<=a/\a<=b/\b<=ob.l.length
 |_,_,_=>False
def SA(k:Nat)(x:T)(lo hi mx:Option T):T :=
 match x,lo,hi,mx with
 | .sl _ f l,none,none,none=>.sl k f l
 | .sl _ f l,some (.lit (.int _ a)),none,none=>.sl k f (l.drop a.toNat)
 | .sl _ f l,none,some (.lit (.int _ b)),none=>.sl k (f&&decide (b=l.length)) (l.take b.toNat)
 | .sl _ _ l,some (.lit (.int _ a)),some (.lit (.int _ b)),none=>.sl k false ((l.take b.toNat).drop a.toNat)
 | .sl _ _ l,none,some (.lit (.int _ b)),some (.lit (.int _ m))=>.sl k (decide (b=m)) (l.take b.toNat)
 |_,_,_,_=>.any
def slC(k:Nat)(x:T)(lo hi mx:Option T):Prop :=
 match x,lo,hi,mx with
 | .sl k' _ l,none,none,none=>k'=k\/l=[]
 | .sl k' _ l,some (.lit (.int _ a)),none,none=>(k'=k\/l=[])/\0<=a/\a<=l.length
 | .sl k' _ l,none,some (.lit (.int _ b)),none=>(k'=k\/l=[])/\0<=b/\b<=l.length
 | .sl k' _ l,some (.lit (.int _ a)),some (.lit (.int _ b)),none=>(k'=k\/l=[])/\0<=a/\a<=b/\b<=l.length
 | .sl k' _ l,none,some (.lit (.int _ b)),some (.lit (.int _ m))=>(k'=k\/l=[])/\0<=b/\b<=m/\m<=l.length
 |_,_,_,_=>False
def qt(s:AS):oC->T
 | .mv x=>s.ev x
 | .pick c a b=>CY (s.ev c) (s.ev a) (s.ev b)
 | .bin op x y =>
  match s.ev x,s.ev y with
  | .lit u,.lit v=>match EI op u v with|some r=>.lit r|none=>.any
  |_,_=>.any
 | .bb ne x y =>
  match s.ev x,s.ev y with
  | .lit (.bool a),.lit (.bool b)=>.lit (.bool (bif ne then !(a==b) else a==b))
  |_,_=>.any
 | .not x=>match s.ev x with| .lit (.bool b)=>.lit (.bool !b)|_=>.any
 | .conv k x=>match s.ev x with| .lit (.int _ n)=>.lit (.int k (k.wrap n))|_=>.any
 | .fa off k x =>
  match s.ev x with
  | .ptr i j o=>.ptr i j (o+off)
  | .ref _ t=>.ref k (t.part off k)
  |_=>.any
 | .ia k x i =>
  match s.ev x,s.ev i with
  | .sl _ _ l,.lit (.int _ n)=>.ref k (l.getD n.toNat .any)
  | .own o,.lit (.int _ n)=>.ptr o n.toNat 0
  | .oG o lo _,.lit (.int _ n)=>.ptr o (lo+n.toNat) 0
  |_,_=>.any
 | .ch x i =>
  match s.ev x,s.ev i with
  | .lit (.string b),.lit (.int _ n)=>.lit (.int .u8 (b.data.getD n.toNat 0).toNat)
  |_,_=>.any
 | .ld k x =>
  match s.ev x with
  | .ref _ t=>t
  | .ptr i j off =>
   match s.hp i with
   |some ob=>bif (off==0&&ob.k==k) then ob.l.getD j .any else(ob.l.getD j .any).part off k
   |none=>.any
  |_=>.any
 | .len _ x =>
  match s.ev x with
  | .sl _ _ l=>.lit (.int .i64 l.length)
  | .own o=>match s.hp o with|some ob=>.lit (.int .i64 ob.l.length)|none=>.any
  | .oG _ lo hi=>.lit (.int .i64 ((hi-lo:Nat):Int))
  | .lit (.string b)=>.lit (.int .i64 b.size)
  |_=>.any
 | .mx x y =>
  match s.ev x,s.ev y with
  | .lit (.int k a),.lit (.int _ b)=>.lit (.int k (if a<b then b else a))
  |_,_=>.any
 | .mk z ps=>.agg (JC z (ps.map fun p=>(p.1,p.2.1,s.ev p.2.2)))
 | .ms _ k z n ps=>.sl k true (tC (List.replicate n z) (ps.map fun p=>(p.1,s.ev p.2)))
 | .sl k x lo hi mx=>SA k (s.ev x) (lo.map s.ev) (hi.map s.ev) (mx.map s.ev)
 | .slx k x lo hi mx =>
  match s.ev x with
  | .own i=>match s.hp i with|some ob=>BQ i ob (lo.map s.ev) (hi.map s.ev) (mx.map s.ev)|none=>.any
  |t=>SA k t (lo.map s.ev) (hi.map s.ev) (mx.map s.ev)
 | .ex x i=>match s.ev x with| .bU l=>l.getD i .any|_=>.any
 | .mf f cap=>.fn f (cap.map s.ev)
 | .mb f x=>match s.ev x with| .agg l=>.fn (f+4096) l|_=>.any
 | .eqs ne _ x y =>
  match s.ev x,s.ev y with
  | .agg l,.agg l'=>.lit (.bool (bif ne then !(uQ l l') else uQ l l'))
  |_,_=>.any
 |_=>.any
def qc(s:AS):oC->Prop
 | .mv _=>True
 | .pick c _ _=>isBool (s.ev c)=true
 | .bin op x y =>
  match s.ev x,s.ev y with
  | .lit u,.lit v=>(EI op u v).isSome=true
  |_,_=>False
 | .bb _ x y=>(isBool (s.ev x)&&isBool (s.ev y))=true
 | .not x=>isBool (s.ev x)=true
 | .conv _ x=>match s.ev x with| .lit (.int _ _)=>True|_=>False
 | .fa off k x =>
  match s.ev x with
  | .ptr i _ _=>(s.hp i).isSome=true
  | .ref kt _=>(!(kt==0)&&qh (bn kt) off k)=true
  |_=>False
 | .ia k x i =>
  match s.ev x,s.ev i with
  | .sl k' _ l,.lit (.int _ n)=>k'=k/\inR n l.length
  | .own o,.lit (.int _ n)=>match s.hp o with|some ob=>ob.k=k/\inR n ob.l.length|none=>False
  | .oG o lo hi,.lit (.int _ n)=>match s.hp o with|some ob=>ob.k=k/\inR n (hi-lo)|none=>False
  |_,_=>False
 | .ch x i =>
  match s.ev x,s.ev i with
  | .lit (.string b),.lit (.int _ n)=>inR n b.size
  |_,_=>False
 | .ld k x =>
  match s.ev x with
  | .ref k' _=>(k'==k&&Nat.blt 0 (bn k))=true
  | .ptr i j off =>
   match s.hp i with
   |some ob=>j<ob.l.length/\((off==0&&ob.k==k)||(!(ob.k==0)&&qh (bn ob.k) off k))=true
   |none=>False
  |_=>False
 | .len str x =>
  match s.ev x with
  | .sl _ _ _=>str=false
  | .own o=>match s.hp o with|some ob=>str=false/\ob.k≠1000000007|none=>False
  | .oG i _ _=>str=false/\(s.hp i).isSome=true
  | .lit (.string _)=>str=true
  |_=>False
 | .mx x y =>
  match s.ev x,s.ev y with
  | .lit (.int _ _),.lit (.int _ _)=>True
  |_,_=>False
 | .mk z ps=>(II z (ps.map fun p=>(p.1,p.2.1,s.ev p.2.2))&&yw s.hp (ps.map fun p=>s.ev p.2.2))=true
 | .ms _ k z n ps=>((z.kd==k)&&z.free&&Ls k n (ps.map fun p=>(p.1,s.ev p.2))&&yw s.hp (ps.map fun p=>s.ev p.2)&&T.bG (ps.map fun p=>s.ev p.2)&&Nat.ble (n*bn k) 16777216&&Nat.blt 0 (bn k))=true
 | .sl k x lo hi mx=>slC k (s.ev x) (lo.map s.ev) (hi.map s.ev) (mx.map s.ev)
 | .slx k x lo hi mx =>
  match s.ev x with
  | .own i=>match s.hp i with|some ob=>GK k ob (lo.map s.ev) (hi.map s.ev) (mx.map s.ev)|none=>False
  |t=>slC k t (lo.map s.ev) (hi.map s.ev) (mx.map s.ev)
 | .ex x i=>match s.ev x with| .bU l=>Nat.blt i l.length=true|_=>False
 | .mf f cap=>(Bf s.hp (cap.map s.ev)&&Nat.blt f 4096)=true
 | .mb f x=>match s.ev x with| .agg _=>f<4096|_=>False
 | .eqs _ n x y =>
  match s.ev x,s.ev y with
  | .agg l,.agg l'=>(qX l&&qX l'&&(l.length==n)&&(l'.length==n))=true
  |_,_=>False
 |_=>False
def bI:oC->Bool
 | .box .. =>false
 | .al .. =>false
 | .make .. =>false
 | .st .. =>false
 | .app .. =>false
 | .call .. =>false
 | .iD .. =>false
 | .zY .. =>false
 | .VL .. =>false
 | .Iu .. =>false
 | .bot=>false
 |_=>true
inductive ng where
 |normal
 |exit (id:Nat)
 |ret
structure Yd where
 l:Nat
 r:Loop
 k:Nat
structure Env where
 w:World
 S:Nat->Prop
 φ:Nat->Value
 κ:Nat->Nat
 h:Hp
 y:Option Yd
mutual
def T.ids(M:Nat->Prop):T->Prop
 | .lit _=>True
 | .agg l=>T.aN M l
 | .sl _ _ _=>True
 | .ref _ _=>True
 | .own i=>M i
 | .ptr i _ _=>M i
 | .oG i _ _=>M i
 | .fn _ cap=>T.aN M cap
 | .bU l=>T.aN M l
 | .any=>True
def T.aN(M:Nat->Prop):List T->Prop
 |[]=>True
 |t::ts=>T.ids M t/\T.aN M ts
end
mutual
def aK(E:Env):T->List Value->Prop
 | .lit v,vs=>vs=[v]
 | .agg l,vs=>aS E l vs
 | .sl k full l,vs=> ∃ a c,vs=[.slice a l.length c]/\l.length<=c/\(full=true->c=l.length) /\
   (l=[]\/ ∃ b off cur e m,a=some ⟨b,off,none⟩/\E.S b/\E.w.heap[b]? =some (.cells cur e m)/\T.aN (fun _=>False) l/\aH E k l (cur.toList.drop off))
 | .ref k t,vs=> ∃ b off cur e m,vs=[.pointer (some ⟨b,off,none⟩)]/\E.S b/\E.w.heap[b]? =some (.cells cur e m)/\t.kd=k/\t.ids (fun _=>False) /\
   bn k<=(cur.toList.drop off).length/\aK E t ((cur.toList.drop off).take (bn k))
 | .own i,vs=> ∃ u,vs=[u]/\((E.h i).isSome=true->u=E.φ i)
 | .ptr i j off,vs=> ∃ u,vs=[u]/\((E.h i).isSome=true-> ∃ b n c,E.φ i= .slice (some ⟨b,0,none⟩) n c/\u= .pointer (some ⟨b,j*bn (E.κ i)+off,none⟩))
 | .oG i lo hi,vs=> ∃ u,vs=[u]/\((E.h i).isSome=true-> ∃ ad n c,E.φ i= .slice ad n c/\lo<=hi/\hi<=n/\n<=c/\u= .slice (if c=lo then ad else ad.map (·.add (lo*bn (E.κ i)))) (hi-lo) (c-lo))
 | .fn f cap,vs=>(Nat.blt f 8192=true/\ ∃ cs:Array Value,vs=[fnV f cs]/\aS E cap cs.toList)\/(Nat.blt f 8192=false/\ ∃ p:Yd,E.y=some p/\p.k+8192=f/\vs=[.func (.yield p.l) #[] #[]]/\bg E cap p.r.tmps.toList)
 | .bU l,vs=> ∃ cs:Array Value,vs=[.tuple cs]/\bg E l cs.toList
 | .any,_=>True
def aS(E:Env):List T->List Value->Prop
 |[],vs=>vs=[]
 |t::ts,vs=>t.kd=0/\ ∃ v r,vs=v::r/\v.oneCell'=true/\aK E t [v]/\aS E ts r
def bg(E:Env):List T->List Value->Prop
 |[],vs=>vs=[]
 |t::ts,vs=> ∃ v r,vs=v::r/\((t.kd≠0/\ ∃ cs:Array Value,v= .agg cs/\aK E t cs.toList)\/(t.kd=0/\aK E t [v]))/\bg E ts r
def aH(E:Env)(k:Nat):List T->List Value->Prop
 |[],_=>True
 |t::ts,vs=>t.kd=k/\bn k<=vs.length/\(∀ v∈vs.take (bn k),v.oneCell'=true)/\aK E t (vs.take (bn k))/\aH E k ts (vs.drop (bn k))
end
def jM(E:Env)(t:T)(v:Value):Prop :=
 (t.kd≠0/\ ∃ cs:Array Value,v= .agg cs/\aK E t cs.toList)\/(t.kd=0/\aK E t [v])
theorem bW{E:Env}{t:T}{ts:List T}{vs:List Value}:bg E (t::ts) vs↔ ∃ v r,vs=v::r/\jM E t v/\bg E ts r:=by
 simp only[bg,jM]
section mono
variable {E E':Env}
structure Keeps(E E':Env)(M:Nat->Prop):Prop where
 s: ∀ b,E.S b->E'.S b
 w: ∀ b,E.S b->E'.w.heap[b]? =E.w.heap[b]?
 i: ∀ i,M i->(E'.h i).isSome=true->(E.h i).isSome=true/\E'.φ i=E.φ i/\E'.κ i=E.κ i
 y:E'.y=E.y
theorem Keeps.no{M:Nat->Prop}(h:Keeps E E' M):Keeps E E' (fun _=>False):=⟨h.s,h.w,fun _ hf=>hf.elim,h.y⟩
mutual
theorem fO:(t:T)->(M:Nat->Prop)->Keeps E E' M->t.ids M->(vs:List Value)->aK E t vs->aK E' t vs
 | .lit v,_,_,_,vs,h=>by simpa [aK] using h
 | .agg l,M,hK,hm,vs,h=>by
  simp only[aK] at h ⊢;exact Bg l M hK (by simpa [T.ids] using hm) vs h
 | .sl k full l,M,hK,hm,vs,h=>by
  simp only[aK] at h ⊢;obtain⟨a,c,h1,h2,h3,h4⟩:=h;refine⟨a,c,h1,h2,h3,?_⟩;rcases h4 with h4|⟨b,off,cur,e,m,ha,hb,hh,hf,hr⟩
  ·exact .inl h4
  ·exact .inr ⟨b,off,cur,e,m,ha,hK.s b hb,by rw[hK.w b hb]; exact hh,hf,dM l k _ hK.no hf _ hr⟩
 | .ref k t,M,hK,hm,vs,h=>by
  simp only[aK] at h ⊢;obtain⟨b,off,cur,e,m,h1,hb,hh,hk,hf,hl,hr⟩:=h;exact⟨b,off,cur,e,m,h1,hK.s b hb,by rw[hK.w b hb]; exact hh,hk,hf,hl,fO t _ hK.no hf _ hr⟩
 | .own i,M,hK,hm,vs,h=>by
  simp only[aK] at h ⊢;simp only[T.ids] at hm;obtain⟨u,h1,h2⟩:=h;refine⟨u,h1,fun hd=>?_⟩;obtain⟨g1,g2,g3⟩:=hK.i i hm hd;rw[g2]; exact h2 g1
 | .ptr i j off,M,hK,hm,vs,h=>by
  simp only[aK] at h ⊢;simp only[T.ids] at hm;obtain⟨u,h1,h2⟩:=h;refine⟨u,h1,fun hd=>?_⟩;obtain⟨g1,g2,g3⟩:=hK.i i hm hd;rw[g2,g3]; exact h2 g1
 | .oG i lo hi,M,hK,hm,vs,h=>by
  simp only[aK] at h ⊢;simp only[T.ids] at hm;obtain⟨u,h1,h2⟩:=h;refine⟨u,h1,fun hd=>?_⟩;obtain⟨g1,g2,g3⟩:=hK.i i hm hd;rw[g2,g3]; exact h2 g1
 | .fn f cap,M,hK,hm,vs,h=>by
  simp only[aK] at h ⊢;rcases h with ⟨h0,cs,h1,h2⟩|⟨h0,p,hp,hf,h1,h2⟩
  ·exact .inl ⟨h0,cs,h1,Bg cap M hK (by simpa [T.ids] using hm) _ h2⟩
  ·exact .inr ⟨h0,p,hK.y.trans hp,hf,h1,gX cap M hK (by simpa [T.ids] using hm) _ h2⟩
 | .bU l,M,hK,hm,vs,h=>by
  simp only[aK] at h ⊢;obtain⟨cs,h1,h2⟩:=h;exact⟨cs,h1,gX l M hK (by simpa [T.ids] using hm) _ h2⟩
 | .any,_,_,_,vs,h=>by simp[aK]
theorem Bg:(l:List T)->(M:Nat->Prop)->Keeps E E' M->T.aN M l->(vs:List Value)->aS E l vs->aS E' l vs
 |[],_,_,_,vs,h=>by simpa [aS] using h
 |t::ts,M,hK,hm,vs,h=>by
  simp only[aS] at h ⊢;simp only[T.aN] at hm;obtain⟨hk,v,r,h1,h0,h2,h3⟩:=h;exact⟨hk,v,r,h1,h0,fO t M hK hm.1 _ h2,Bg ts M hK hm.2 _ h3⟩
theorem gX:(l:List T)->(M:Nat->Prop)->Keeps E E' M->T.aN M l->(vs:List Value)->bg E l vs->bg E' l vs
 |[],_,_,_,vs,h=>by simpa [bg] using h
 |t::ts,M,hK,hm,vs,h=>by
  simp only[bg] at h ⊢;simp only[T.aN] at hm;obtain⟨v,r,h1,h2,h3⟩:=h;refine⟨v,r,h1,?_,gX ts M hK hm.2 _ h3⟩;rcases h2 with ⟨hk,cs,h4,h5⟩|⟨hk,h4⟩
  ·exact .inl ⟨hk,cs,h4,fO t M hK hm.1 _ h5⟩
  ·exact .inr ⟨hk,fO t M hK hm.1 _ h4⟩
theorem dM:(l:List T)->(k:Nat)->(M:Nat->Prop)->Keeps E E' M->T.aN M l->(vs:List Value)->aH E k l vs->aH E' k l vs
 |[],_,_,_,_,vs,h=>by simp[aH]
 |t::ts,k,M,hK,hm,vs,h=>by
  simp only[aH] at h ⊢;simp only[T.aN] at hm;obtain⟨hk,h1,h0,h2,h3⟩:=h;exact⟨hk,h1,h0,fO t M hK hm.1 _ h2,dM ts k M hK hm.2 _ h3⟩
end
theorem IJ{M:Nat->Prop}(hK:Keeps E E' M){t:T}(hm:t.ids M){v:Value}(h:jM E t v):jM E' t v:=by
 rcases h with ⟨hk,cs,h4,h5⟩|⟨hk,h4⟩
 ·exact .inl ⟨hk,cs,h4,fO t M hK hm _ h5⟩
 ·exact .inr ⟨hk,fO t M hK hm _ h4⟩
end mono
section ids
variable {M M':Nat->Prop}
mutual
theorem T.aT(h: ∀ i,M i->M' i):(t:T)->t.ids M->t.ids M'
 | .lit _,_=>by simp[T.ids]
 | .agg l,hm=>by simp only[T.ids] at hm ⊢; exact T.aA h l hm
 | .sl _ _ _,_=>by simp[T.ids]
 | .ref _ _,_=>by simp[T.ids]
 | .own i,hm=>by simp only[T.ids] at hm ⊢; exact h i hm
 | .ptr i _ _,hm=>by simp only[T.ids] at hm ⊢; exact h i hm
 | .oG i _ _,hm=>by simp only[T.ids] at hm ⊢; exact h i hm
 | .fn _ cap,hm=>by simp only[T.ids] at hm ⊢; exact T.aA h cap hm
 | .bU l,hm=>by simp only[T.ids] at hm ⊢; exact T.aA h l hm
 | .any,_=>by simp[T.ids]
theorem T.aA(h: ∀ i,M i->M' i):(l:List T)->T.aN M l->T.aN M' l
 |[],_=>by simp[T.aN]
 |t::ts,hm=>by simp only[T.aN] at hm ⊢; exact⟨T.aT h t hm.1,T.aA h ts hm.2⟩
end
theorem bP{l:List T}:T.aN M l↔ ∀ t∈l,t.ids M:=by
 induction l with
 |nil=>simp[T.aN]
 |cons t ts ih=>simp[T.aN,ih]
theorem xq{l:List T}(h:T.aN M l){i:Nat}{d:T}(hd:d.ids M):(l.getD i d).ids M:=by
 rw[ag];cases hg:l[i]? with
 |none=>simpa using hd
 |some t=>simpa using bP.1 h t (cm hg)
theorem vP{l:List T}(h:T.aN M l){i:Nat}{t:T}(ht:t.ids M):T.aN M (l.set i t) :=
 bP.2 fun x hx=>by
  rcases fb hx with h'|rfl
  ·exact bP.1 h x h'
  ·exact ht
theorem fJ{a b:List T}:T.aN M (a++b)↔T.aN M a/\T.aN M b:=by
 simp only[bP,cN];exact⟨fun h=>⟨fun t ht=>h t (.inl ht),fun t ht=>h t (.inr ht)⟩,fun h t ht=>ht.elim (h.1 t) (h.2 t)⟩
theorem xu{l:List T}(h:T.aN M l)(n:Nat):T.aN M (l.take n):=bP.2 fun t ht=>bP.1 h t (dj ht)
theorem Aa{l:List T}(h:T.aN M l)(n:Nat):T.aN M (l.drop n):=bP.2 fun t ht=>bP.1 h t (gD ht)
theorem xw{t:T}(h:t.ids M):T.aN M t.cells:=by
 cases t<;>simp_all[T.cells,T.ids,T.aN]
theorem SB{t:T}(h:t.ids M)(off k:Nat):(t.part off k).ids M:=by
 cases k with
 |zero=>exact xq (xw h) (by simp[T.ids])
 |succ m=>simp only[T.part,T.ids]; exact xu (Aa (xw h) _) _
end ids
section rep
variable {E:Env}
theorem aV{v u:Value}:jM E (.lit v) u↔u=v:=by
 simp[jM,T.kd,aK]
theorem aC{t:T}(h:t.kd=0){v:Value}:jM E t v↔aK E t [v]:=by
 simp[jM,h]
theorem Ac{l:List T}{v:Value}:jM E (.agg l) v↔ ∃ cs:Array Value,v= .agg cs/\aS E l cs.toList:=by
 simp[jM,T.kd,aK]
theorem mG: ∀ {l:List T} {vs:List Value},aS E l vs->vs.length=l.length:=by
 intro l;induction l with
 |nil=>intro vs h; simp[aS] at h; simp[h]
 |cons t ts ih =>
  intro vs h;simp only[aS] at h;obtain⟨_,v,r,rfl,_,_,h⟩:=h;simp[ih h]
theorem Ed: ∀ {l:List T} {vs:List Value},aS E l vs-> ∀ v∈vs,v.oneCell'=true:=by
 intro l;induction l with
 |nil=>intro vs h; simp[aS] at h; simp[h]
 |cons t ts ih =>
  intro vs h;simp only[aS] at h;obtain⟨_,v,r,rfl,h1,_,h⟩:=h;intro u hu;rcases bm.1 hu with rfl|hu
  ·exact h1
  ·exact ih h u hu
theorem mJ: ∀ {l:List T} {vs:List Value},bg E l vs->vs.length=l.length:=by
 intro l;induction l with
 |nil=>intro vs h; simp[bg] at h; simp[h]
 |cons t ts ih =>
  intro vs h;rw[bW] at h;obtain⟨v,r,rfl,_,h⟩:=h;simp[ih h]
theorem yx: ∀ {l:List T} {vs:List Value},bg E l vs-> ∀ i,jM E (l.getD i T.un) (vs.getD i undef):=by
 intro l;induction l with
 |nil=>intro vs h i; simp[bg] at h; subst h; simp[aV,undef]
 |cons t ts ih =>
  intro vs h i;rw[bW] at h;obtain⟨v,r,rfl,h1,h2⟩:=h;cases i with
  |zero=>simpa using h1
  |succ i=>simpa using ih h2 i
theorem Ee: ∀ {l:List T} {vs:List Value},bg E l vs-> ∀ (i:Nat) {t:T} {v:Value},jM E t v->bg E (l.set i t) (vs.set i v):=by
 intro l;induction l with
 |nil=>intro vs h i t v _; simp[bg] at h; subst h; simp[bg]
 |cons t ts ih =>
  intro vs h i t' v' hv;rw[bW] at h;obtain⟨v,r,rfl,h1,h2⟩:=h;cases i with
  |zero=>simp only[eO,bW]; exact⟨v',r,rfl,hv,h2⟩
  |succ i=>simp only[List.set_cons_succ,bW]; exact⟨v,_,rfl,h1,ih h2 i hv⟩
theorem GL: ∀ {l l':List T} {vs vs':List Value},bg E l vs->bg E l' vs'->bg E (l++l') (vs++vs'):=by
 intro l;induction l with
 |nil=>intro l' vs vs' h h'; simp[bg] at h; subst h; simpa using h'
 |cons t ts ih =>
  intro l' vs vs' h h';rw[bW] at h;obtain⟨v,r,rfl,h1,h2⟩:=h;rw[cw,cw,bW];exact⟨v,_,rfl,h1,ih h2 h'⟩
theorem O1: ∀ {l:List T} {vs:List Value},aS E l vs-> ∀ {i:Nat},i<l.length ->
  ∃ v,vs[i]? =some v/\(l.getD i .any).kd=0/\v.oneCell'=true/\aK E (l.getD i .any) [v]:=by
 intro l;induction l with
 |nil=>intro vs h i hi; simp at hi
 |cons t ts ih =>
  intro vs h i hi;simp only[aS] at h;obtain⟨hk,v,r,rfl,h0,h1,h2⟩:=h;cases i with
  |zero=>exact⟨v,by simp,by simpa using hk,h0,by simpa using h1⟩
  |succ i=>simpa using ih h2 (by simpa using hi)
theorem GN{l l':List T}{vs:List Value}:aS E (l++l') vs↔ ∃ a b,vs=a++b/\aS E l a/\aS E l' b:=by
 induction l generalizing vs with
 |nil =>
  simp only[f8,aS];exact⟨fun h=>⟨[],vs,rfl,rfl,h⟩,fun⟨a,b,h1,h2,h3⟩=>by subst h2; simp at h1; subst h1; exact h3⟩
 |cons t ts ih =>
  simp only[cw,aS,ih];constructor
  ·rintro⟨hk,v,r,rfl,h0,h1,a,b,rfl,h2,h3⟩;exact⟨v::a,b,rfl,⟨hk,v,a,rfl,h0,h1,h2⟩,h3⟩
  ·rintro⟨a,b,rfl,⟨hk,v,r,rfl,h0,h1,h2⟩,h3⟩;exact⟨hk,v,r++b,rfl,h0,h1,r,b,rfl,h2,h3⟩
theorem Lu{l:List T}{vs:List Value}(h:aS E l vs)(n:Nat):aS E (l.take n) (vs.take n):=by
 induction l generalizing vs n with
 |nil=>simp[aS] at h; subst h; simp[aS]
 |cons t ts ih =>
  simp only[aS] at h;obtain⟨hk,v,r,rfl,h0,h1,h2⟩:=h;cases n with
  |zero=>simp[aS]
  |succ n=>simp only[List.take_succ_cons,aS]; exact⟨hk,v,_,rfl,h0,h1,ih h2 n⟩
theorem LC{l:List T}{vs:List Value}(h:aS E l vs)(n:Nat):aS E (l.drop n) (vs.drop n):=by
 induction l generalizing vs n with
 |nil=>simp[aS] at h; subst h; simp[aS]
 |cons t ts ih =>
  simp only[aS] at h;obtain⟨hk,v,r,rfl,h0,h1,h2⟩:=h;cases n with
  |zero=>simp only[List.drop_zero,aS]; exact⟨hk,v,r,rfl,h0,h1,h2⟩
  |succ n=>simpa using ih h2 n
theorem yA{t:T}{vs:List Value}(hk:t.kd≠0):aK E t vs↔aS E t.cells vs:=by
 cases t<;>simp_all[T.kd,T.cells,aK]
theorem cells_one{v:Value}(h:v.oneCell'=true):v.cells= #[v]:=by
 cases v<;>simp_all[Value.cells,Value.oneCell']
theorem ET{t:T}(h:t.kd=0):t.cells=[t]:=by cases t<;>simp_all[T.kd,T.cells]
theorem VN{t:T}{v:Value}(h:jM E t v)(ht:t.kd=0->v.oneCell'=true):aS E t.cells v.cells.toList:=by
 rcases h with ⟨hk,cs,rfl,h⟩|⟨hk,h⟩
 ·rw[yA hk] at h; simpa [Value.cells] using h
 ·rw[ET hk,cells_one (ht hk)];simp only[aS];exact⟨hk,v,[],rfl,ht hk,h,rfl⟩
theorem qp(t:T):bn t.kd=t.cells.length:=by cases t<;>simp[T.kd,bn,T.cells]
theorem SC{t:T}{vs:List Value}(h:aK E t vs)(hk:t.kd≠0):vs.length=bn t.kd:=by
 rw[yA hk] at h; rw[qp]; exact mG h
theorem aec{t:T}{off k:Nat}(h:qh t.cells.length off k=true)(hs:k=0->(t.cells.getD off .any).kd=0):(t.part off k).kd=k:=by
 cases k with
 |zero=>exact hs rfl
 |succ m =>
  simp only[T.part,T.kd,qh,bn,em] at h ⊢;simp only[bL,bv]; omega
theorem O4{t:T}{vs:List Value}(h:aK E t vs)(hk:t.kd≠0){off k:Nat}(ho:qh t.cells.length off k=true) :
  aK E (t.part off k) ((vs.drop off).take (bn k))/\(t.part off k).kd=k/\off+bn k<=vs.length:=by
 have hl:=SC h hk;rw[qp] at hl;rw[yA hk] at h;have ho':=ho;simp only[qh,em] at ho';cases k with
 |zero =>
  simp only[bn] at ho' ⊢;obtain⟨v,hv,hkd,_,hr⟩:=O1 h (i:=off) (by omega);refine⟨?_,hkd,by omega⟩
  have:(vs.drop off).take 1=[v]:=by
   rw[bj] at hv;obtain⟨hlt,rfl⟩:=hv;rw[eE hlt,List.take_succ_cons,List.take_zero]
  rw[this]; exact hr
 |succ m =>
  refine⟨?_,aec ho (by simp),by omega⟩;simp only[T.part,aK,bn];exact Lu (LC h _) _
theorem vS: ∀ {k:Nat} {l:List T} {vs:List Value},aH E k l vs-> ∀ {j:Nat},j<l.length ->
  (l.getD j .any).kd=k/\j*bn k+bn k<=vs.length/\(∀ v∈(vs.drop (j*bn k)).take (bn k),v.oneCell'=true)/\aK E (l.getD j .any) ((vs.drop (j*bn k)).take (bn k)):=by
 intro k l;induction l with
 |nil=>intro vs _ j hj; simp at hj
 |cons t ts ih =>
  intro vs h j hj;simp only[aH] at h;obtain⟨hk,hl,h0,h1,h2⟩:=h;cases j with
  |zero=>simpa using ⟨hk,hl,h0,h1⟩
  |succ j =>
   obtain⟨g1,g2,g0,g3⟩:=ih h2 (j:=j) (by simpa using hj);rw[dE,show bn k+j*bn k=(j+1)*bn k by rw[cy]; omega] at g3 g0;refine⟨by simpa using g1,?_,g0,by simpa using g3⟩;rw[bv] at g2; rw[cy]; omega
theorem yB{n:Nat}{vs ws:List Value}(he: ∀ i,i<n->ws[i]? =vs[i]?):ws.take n=vs.take n:=by
 apply List.ext_getElem?;intro i;by_cases hi:i<n
 ·rw[cU hi,cU hi]; exact he i hi
 ·rw[fL (by omega),fL (by omega)]
theorem jd: ∀ {k:Nat} {l:List T} {vs ws:List Value},aH E k l vs->(∀ i,i<l.length*bn k->ws[i]? =vs[i]?)->aH E k l ws:=by
 intro k l;induction l with
 |nil=>intro vs ws _ _; simp[aH]
 |cons t ts ih =>
  intro vs ws h he;simp only[aH] at h ⊢;obtain⟨hk,hl,h0,h1,h2⟩:=h;have hlen:(t::ts).length*bn k=ts.length*bn k+bn k:=by rw[bN,cy]; omega
  have htake:ws.take (bn k)=vs.take (bn k):=yB fun i hi=>he i (by omega)
  refine⟨hk,?_,by rw[htake]; exact h0,by rw[htake]; exact h1,ih h2 fun i hi=>?_⟩
  ·have:=eK List.length htake;simp only[bL] at this; omega
  ·rw[cQ,cQ]; exact he _ (by omega)
theorem CZ: ∀ {k:Nat} {l:List T} {vs:List Value},aH E k l vs->l.length*bn k<=vs.length:=by
 intro k l;induction l with
 |nil=>intro vs _; simp
 |cons t ts ih =>
  intro vs h;simp only[aH] at h;obtain⟨_,h1,_,_,h2⟩:=h;have:=ih h2;rw[bv] at this;rw[bN,cy]; omega
theorem SE: ∀ {k:Nat} {l:List T} {vs:List Value},aH E k l vs-> ∀ v∈vs.take (l.length*bn k),v.oneCell'=true:=by
 intro k l;induction l with
 |nil=>intro vs _; simp
 |cons t ts ih =>
  intro vs h;simp only[aH] at h;obtain⟨_,h1,h0,_,h2⟩:=h;intro v hv;rw[bN,cy,fu,f5,List.take_add] at hv;rcases cN.1 hv with hv|hv
  ·exact h0 v hv
  ·exact ih h2 v hv
theorem wS: ∀ {k:Nat} {l:List T} {vs:List Value},aH E k l vs-> ∀ n,aH E k (l.take n) vs:=by
 intro k l;induction l with
 |nil=>intro vs _ n; simp[aH]
 |cons t ts ih =>
  intro vs h n;cases n with
  |zero=>simp[aH]
  |succ n =>
   simp only[aH,List.take_succ_cons] at h ⊢;exact⟨h.1,h.2.1,h.2.2.1,h.2.2.2.1,ih h.2.2.2.2 n⟩
theorem Bh: ∀ {k:Nat} {l:List T} {vs:List Value},aH E k l vs-> ∀ n,n<=l.length->aH E k (l.drop n) (vs.drop (n*bn k)):=by
 intro k l;induction l with
 |nil=>intro vs _ n _; simp[aH]
 |cons t ts ih =>
  intro vs h n hn;cases n with
  |zero=>simpa using h
  |succ n =>
   simp only[aH] at h;have:=ih h.2.2.2.2 n (by simpa using hn);rw[dE,show bn k+n*bn k=(n+1)*bn k by rw[cy]; omega] at this;simpa using this
theorem tH: ∀ {k:Nat} {l l':List T} {vs:List Value},aH E k (l++l') vs↔aH E k l vs/\aH E k l' (vs.drop (l.length*bn k)):=by
 intro k l;induction l with
 |nil=>intro l' vs; simp[aH]
 |cons t ts ih =>
  intro l' vs;simp only[cw,aH,ih,dE,bN];rw[show bn k+ts.length*bn k=(ts.length+1)*bn k by rw[cy]; omega];constructor
  ·rintro⟨h1,h2,h0,h3,h4,h5⟩; exact⟨⟨h1,h2,h0,h3,h4⟩,h5⟩
  ·rintro⟨⟨h1,h2,h0,h3,h4⟩,h5⟩; exact⟨h1,h2,h0,h3,h4,h5⟩
theorem JD: ∀ {k:Nat} {l:List T} {vs ws:List Value},aH E k l vs-> ∀ {j:Nat} {t:T},t.kd=k->j<l.length ->
  ws.length=vs.length->(∀ v∈(ws.drop (j*bn k)).take (bn k),v.oneCell'=true)->aK E t ((ws.drop (j*bn k)).take (bn k)) ->
  (∀ i,i<j*bn k\/j*bn k+bn k<=i->ws[i]? =vs[i]?)->aH E k (l.set j t) ws:=by
 intro k l;induction l with
 |nil=>intro vs ws _ j t _ hj; simp at hj
 |cons t ts ih =>
  intro vs ws h j t' hk' hj hlen ho hr he;simp only[aH] at h;obtain⟨hk,hl,h0,h1,h2⟩:=h;cases j with
  |zero =>
   simp only[eO,aH];refine⟨hk',by omega,by simpa using ho,by simpa using hr,jd h2 fun i _=>?_⟩;rw[cQ,cQ]; exact he _ (.inr (by omega))
  |succ j =>
   have e1:(j+1)*bn k=j*bn k+bn k:=by rw[cy]; omega
   simp only[List.set_cons_succ,aH];have htake:ws.take (bn k)=vs.take (bn k):=yB fun i hi=>he i (.inl (by omega))
   have e2:bn k+j*bn k=(j+1)*bn k:=by omega
   refine⟨hk,by omega,by rw[htake]; exact h0,by rw[htake]; exact h1,ih h2 hk' (by simpa using hj) (by simp[hlen]) ?_ ?_ fun i hi=>?_⟩
   ·rw[dE,e2]; exact ho
   ·rw[dE,e2]; exact hr
   ·rw[cQ,cQ]; exact he _ (by omega)
theorem yC{k:Nat}{t:T}{vs:List Value}(hk:t.kd=k)(hl:vs.length=bn k)(h1: ∀ v∈vs,v.oneCell'=true)(h:aK E t vs):aH E k [t] vs:=by
 simp only[aH]
 have:vs.take (bn k)=vs:=by rw[<- hl,cB]
 rw[this];exact⟨hk,by omega,h1,h,trivial⟩
end rep
@[reducible] def iE:Nat:=1000000007
def zD(k:Nat):Bool:=Nat.blt 0 (bn k)&&Nat.blt k 1000000007
theorem Bj{k:Nat}(h:zD k=true):0<bn k/\k≠iE:=by
 simp only[zD,aD,cI] at h;exact⟨h.1,by simp only[iE]; omega⟩
structure Fr(P:Program) where
 s:Nat->Prop
 dl:List Deferred:=[]
instance {P:Program}:CoeFun (Fr P) (fun _=>Nat->Prop):=⟨Fr.s⟩
def uS(P:Program)(g:Nat):Option (Array Value) :=
 if P.globalNamed "strings.asciiSpace" = some g then some (Lib.asciiSpaceTab.map fun z=>Value.int .u8 z).toArray else none
def rowB:Value->Option Nat
 | .slice (some a) _ (_+1)=>some a.block
 | .map (some g)=>some g
 |_=>none
def kJ(E:Env):List T->List MapEntry->Prop
 |[],es=>es=[]
 |t::ts,es=> ∃ n u e r,t= .bU [.lit (.int .i64 n),u]/\es=e::r/\e.key= .int .i64 n/\u.kd=0/\e.val.oneCell'=true/\aK E u [e.val]/\kJ E ts r
def SG(E:Env)(ob:Ob)(v:Value):Prop :=
 (∃ a,v= .slice a 0 0/\ob.l=[]) \/
 ∃ g c cur,v= .slice (some ⟨g,0,none⟩) ob.l.length (c+1)/\ob.l.length<=c+1/\c+1<=maxLen/\E.w.heap[g]? =some (.cells cur ob.ty (0,0)) /\
  cur.size=(c+1)*bn ob.k/\aH E ob.k ob.l cur.toList
def af4(E:Env)(ob:Ob)(v:Value):Prop :=
 ∃ g es clock,v= .map (some g)/\E.w.heap[g]? =some (.map es clock)/\kJ E ob.l es.toList
def tJ(E:Env)(ob:Ob)(v:Value):Prop:=(ob.k≠iE/\SG E ob v)\/(ob.k=iE/\af4 E ob v)
theorem tJ.row{E:Env}{ob:Ob}{v:Value}(h:tJ E ob v)(hk:ob.k≠iE):SG E ob v:=by
 rcases h with h|h
 ·exact h.2
 ·exact absurd h.1 hk
theorem tJ.map{E:Env}{ob:Ob}{v:Value}(h:tJ E ob v)(hk:ob.k=iE):af4 E ob v:=by
 rcases h with h|h
 ·exact absurd hk h.1
 ·exact h.2
theorem tJ.of_slice{E:Env}{ob:Ob}{v:Value}(h:tJ E ob v){a:Option Addr}{n c:Nat}(hv:v= .slice a n c):SG E ob v/\ob.k≠iE:=by
 rcases h with h|⟨_,g,es,cl,h1,_⟩
 ·exact⟨h.2,h.1⟩
 ·rw[hv] at h1; cases h1
def oO:Code->Option (Array Tmp×Code×Code)
 | .rangeFunc _ ps a b=>some (ps,a,b)
 | .seq a b=>match oO a with|some s=>some s|none=>oO b
 | .cond _ a b=>match oO a with|some s=>some s|none=>oO b
 | .block _ b=>oO b
 | .loop b=>oO b
 | .scope b=>oO b
 |_=>none
def agC(P:Program)(p:Yd):Prop:= ∃ fn c,P.funcs[p.k]? =some fn/\fn.body=some c/\oO c=some (p.r.params,p.r.assign,p.r.body)
def JE{P:Program}(F:Nat->Prop)(E:Env):Prop:= ∀ p:Yd,E.y=some p->(p.r.state= .ready/\p.r.pending=none)/\agC P p/\F p.l/\E.w.heap[p.l]? =some (.loop p.r)
structure oD{P:Program}(F:Fr P)(E:Env):Prop where
 obs: ∀ i ob,E.h i=some ob->tJ E ob (E.φ i)/\E.κ i=ob.k/\0<bn ob.k
 out: ∀ i ob g,E.h i=some ob->rowB (E.φ i)=some g-> ¬ E.S g/\ ¬ F g
 sep: ∀ i j oi oj g,i≠j->E.h i=some oi->E.h j=some oj->rowB (E.φ i)=some g->rowB (E.φ j)=some g->False
 slt: ∀ g,E.S g->g<E.w.heap.size
 flt: ∀ g,F g->g<E.w.heap.size
 sf: ∀ g,E.S g->F g->False
 gl:(∀ g cs,uS P g=some cs->F g/\ ∃ ty m,E.w.heap[g]? =some (.cells cs ty m))/\JE (P:=P) F.s E
def nR(M:Nat->Prop)(h:Hp):Prop:= ∀ i ob,h i=some ob->M i/\T.aN M ob.l
structure Rel{P:Program}(F:Fr P)(M:Nat->Prop)(E:Env)(s:AS)(a:Act):Prop where
 hk:oD F E
 he:E.h=s.hp
 fr:bg E s.fr a.tmps.toList
 df:a.defers=F.dl
 mf:T.aN M s.fr
 mh:nR M s.hp
structure Ext{P:Program}(F:Fr P)(E E':Env):Prop where
 s: ∀ g,E.S g->E'.S g
 w: ∀ g,E.S g\/F g->E'.w.heap[g]? =E.w.heap[g]?
 size:E.w.heap.size<=E'.w.heap.size
 os:E'.w.os=E.w.os
 tape:E'.w.tape=E.w.tape
 output:E'.w.output=E.w.output
 dr:E.w.drawn<=E'.w.drawn
 y:E'.y=E.y
theorem JE.of{P:Program}{F F':Nat->Prop}{E E':Env}(h:JE (P:=P) F E)(hf: ∀ g,F g->F' g)(hw: ∀ g,F g->E'.w.heap[g]? =E.w.heap[g]?)(hy:E'.y=E.y):JE (P:=P) F' E':=fun p hp=>by
 obtain⟨h0,h1,h2,h3⟩:=h p (hy.symm.trans hp);exact⟨h0,h1,hf _ h2,(hw _ h2).trans h3⟩
theorem Ext.gl{P:Program}{F:Fr P}{E E':Env}(h:Ext F E E')(hk:oD F E):(∀ g cs,uS P g=some cs->F g/\ ∃ ty m,E'.w.heap[g]? =some (.cells cs ty m))/\JE (P:=P) F.s E':=⟨fun g cs hg=>by
 obtain⟨h1,ty,m,h2⟩:=hk.gl.1 g cs hg
 exact⟨h1,ty,m,by rw[h.w g (.inr h1)]; exact h2⟩,hk.gl.2.of (fun _ h=>h) (fun g hg=>h.w g (.inr hg)) h.y⟩
theorem Ext.refl{P:Program}(F:Fr P)(E:Env):Ext F E E:=⟨fun _ h=>h,fun _ _=>rfl,bO _,rfl,rfl,rfl,bO _,rfl⟩
theorem Ext.trans{P:Program}{F:Fr P}{E E' E'':Env}(h:Ext F E E')(h':Ext F E' E''):Ext F E E'' :=
 ⟨fun g hg=>h'.s g (h.s g hg),fun g hg=>(h'.w g (hg.imp (h.s g) id)).trans (h.w g hg),dg h.size h'.size,
  h'.os.trans h.os,h'.tape.trans h.tape,h'.output.trans h.output,dg h.dr h'.dr,h'.y.trans h.y⟩
def Same(E E':Env)(M:Nat->Prop):Prop :=
 ∀ i,M i->(E'.h i).isSome=true->(E.h i).isSome=true/\E'.φ i=E.φ i/\E'.κ i=E.κ i
theorem Keeps.of{P:Program}{F:Fr P}{M:Nat->Prop}{E E':Env}(h:Ext F E E')(hs:Same E E' M):Keeps E E' M :=
 ⟨h.s,fun b hb=>h.w b (.inl hb),hs,h.y⟩
def callable(P:Program)(f:FuncId):Prop:= ∀ args w,Sem.run P (callFunc f args) w= .ok (.enter f args) w
def Ends{P:Program}(F:Fr P)(M:Nat->Prop)(E:Env)(n:Nat)(post:T->Hp->Prop)(e:Ending)(w':World):Prop :=
 ∃ v t E',e= .returned v/\E'.w=w'/\post t E'.h/\jM E' t v/\oD F E'/\Ext F E E'/\Same E E' M /\
  t.ids (fun i=>M i\/i=n)/\nR (fun i=>M i\/i=n) E'.h
def aO(P:Program)(f:FuncId)(ts:List T)(h:Hp)(n:Nat)(post:T->Hp->Prop):Prop :=
 (∃ t h',post t h')/\callable P f /\
 ∀ (F:Fr P) (M:Nat->Prop) (E:Env) (vs:List Value),oD F E->E.h=h->bg E ts vs->T.aN M ts->nR M h-> ¬ M n ->
  Calls P f vs.toArray E.w (Ends F M E n post)
theorem aO.mono{P:Program}{f:FuncId}{ts:List T}{h:Hp}{n:Nat}{post post':T->Hp->Prop}
  (H:aO P f ts h n post) (hp: ∀ t h',post t h'->post' t h'):aO P f ts h n post':=by
 obtain⟨⟨t,h',h1⟩,h2,h3⟩:=H;refine⟨⟨t,h',hp _ _ h1⟩,h2,fun F M E vs a b c d e g=>(h3 F M E vs a b c d e g).mono ?_⟩;rintro e w' ⟨v,t,E',r1,r2,r3,r4⟩;exact⟨v,t,E',r1,r2,hp _ _ r3,r4⟩
def wK(P:Program)(t:T)(ts:List T)(h:Hp)(n:Nat)(post:T->Hp->Prop):Prop :=
 (∃ t h',post t h') /\
 ∀ (F:Fr P) (M:Nat->Prop) (E:Env) (v:Value) (vs:List Value),oD F E->E.h=h->jM E t v->bg E ts vs->t.ids M->T.aN M ts->nR M h-> ¬ M n ->
  ∀ p:Yd,E.y=some p->YieldAt Fence.wide 0 P p.l vs.toArray E.w (Ends F M E n post)
def ahY{P:Program}(F:Fr P)(M:Nat->Prop)(E:Env)(n k:Nat)(post:T->Hp->Prop)(e:Ending)(w':World):Prop :=
 ∃ v t E',e= .returned v/\E'.w=w'/\post t E'.h/\jM E' t v/\oD F E'/\Ext F E E'/\Same E E' M /\
  t.ids (fun i=>M i\/n<=i/\i<=n+k)/\nR (fun i=>M i\/n<=i/\i<=n+k) E'.h
def jE(P:Program)(f:FuncId)(ts:List T)(h:Hp)(n k:Nat)(post:T->Hp->Prop):Prop :=
 (∃ t h',post t h')/\callable P f /\
 ∀ (F:Fr P) (M:Nat->Prop) (E:Env) (vs:List Value),oD F E->E.h=h->bg E ts vs->T.aN M ts->nR M h->(∀ i,M i->i<n) ->
  Calls P f vs.toArray E.w (ahY F M E n k post)
theorem jE.mono{P:Program}{f:FuncId}{ts:List T}{h:Hp}{n k:Nat}{post post':T->Hp->Prop}
  (H:jE P f ts h n k post) (hp: ∀ t h',post t h'->post' t h'):jE P f ts h n k post':=by
 obtain⟨⟨t,h',h1⟩,h2,h3⟩:=H;refine⟨⟨t,h',hp _ _ h1⟩,h2,fun F M E vs a b c d e g=>(h3 F M E vs a b c d e g).mono ?_⟩;rintro e w' ⟨v,t,E',r1,r2,r3,r4⟩;exact⟨v,t,E',r1,r2,hp _ _ r3,r4⟩
def T.splice(e:T)(off:Nat)(v:T):T:=.agg (e.cells.take off++v.cells++e.cells.drop (off+v.cells.length))
inductive Src where
 |no
 |list (l:List T)
def VO(h:Hp)(k:Nat):T->Src
 | .sl k' _ l=>match l with|[]=>.list []|x::r=>bif k'==k then .list (x::r) else .no
 | .own o=>match h o with|some ob=>bif ob.k==k then .list ob.l else .no|none=>.no
 |_=>.no
def ny(P:Program)(dr:Bool)(n:Nat)(d:Option Nat)(f:FuncId)(ts:List T)(K:AS->Prop)(s:AS):Prop :=
 aO P f ts s.hp n fun t h=>(dr=true->h=s.hp/\t.free=true)/\K {(s.put d t) with hp:=h}
def oH(P:Program)(dr:Bool)(n:Nat)(d:Option Nat)(op:oC)(K:AS->Prop)(s:AS):Prop :=
 match op with
 | .box ty k x=>((s.ev x).kd==k&&(s.ev x).kW s.hp&&zD k)=true /\
   K {(s.put d (.ptr n 0 0)) with hp:=upd s.hp n (some ⟨ty,k,[s.ev x]⟩)}
 | .al ty k z=>(z.kd==k&&z.kW s.hp&&z.free&&zD k)=true/\K {(s.put d (.ptr n 0 0)) with hp:=upd s.hp n (some ⟨ty,k,[z]⟩)}
 | .make ty k bytes z x y =>
  match s.ev x,s.ev y with
  | .lit (.int _ a),.lit (.int _ b)=>(z.kd==k&&z.kW s.hp&&z.free&&zD k)=true/\(0<=a/\a<=b/\b*bytes<=140737488355328/\b<=1152921504606846976) /\
    K {(s.put d (.own n)) with hp:=upd s.hp n (some ⟨ty,k,List.replicate a.toNat z⟩)}
  |_,_=>False
 | .st k x v =>
  match s.ev x with
  | .ptr i j off =>
   match s.hp i with
   |some ob=>((s.ev v).kd==k&&(s.ev v).kW s.hp)=true/\j<ob.l.length/\((off==0&&ob.k==k)||(!(ob.k==0)&&qh (bn ob.k) off k))=true /\
     K {s with hp:=upd s.hp i (some ⟨ob.ty,ob.k,ob.l.set j (bif (off==0&&ob.k==k) then s.ev v else(ob.l.getD j .any).splice off (s.ev v))⟩)}
   |none=>False
  |_=>False
 | .app ty k bytes x y =>
  match VO s.hp k (s.ev y) with
  | .list m =>
   match s.ev x with
   | .sl k' true l=>(k'=k\/l=[])/\((l=[]\/m≠[])\/(dr=false/\K (s.put d (.sl k' true l))))/\(l.length+m.length)*bytes<=140737488355328/\l.length+m.length<=1152921504606846976 /\
     K {(s.put d (.own n)) with hp:=upd s.hp n (some ⟨ty,k,l++m⟩)}
   | .own i =>
    match s.hp i with
    |some ob=>(ob.k==k&&ob.ty==ty)=true/\(ob.l.length+m.length)*bytes<=140737488355328/\ob.l.length+m.length<=1152921504606846976 /\
      K {(s.put d (.own n)) with hp:=upd (upd s.hp i none) n (some ⟨ty,k,ob.l++m⟩)}
    |none=>False
   |_=>False
  | .no=>False
 | .call f xs=>ny P dr n d f (xs.map s.ev) K s
 | .iD x xs=>match s.ev x with| .fn f cap=>(bif Nat.blt f 4096 then ny P dr n d f (xs.map s.ev++cap) K s else Nat.blt f 8192=true/\ny P dr n d (f % 4096) (.agg cap::xs.map s.ev) K s)|_=>False
 | .zY x =>
  match s.ev x with
  | .sl _ _ l=>(l=[]->K (s.put d (.lit (.bool true))))/\K (s.put d (.lit (.bool false)))
  | .own i=>match s.hp i with
   |some ob=>(ob.l=[]->K (s.put d (.lit (.bool true))))/\K (s.put d (.lit (.bool false)))/\ob.k≠iE
   |none=>False
  |_=>False
 | .VL k z x =>
  match s.ev x with
  | .oG i lo hi=>match s.hp i with
   |some ob=>(ob.k==k&&z.kd==k&&z.kW s.hp&&z.free)=true/\hi<=ob.l.length/\K {(s.put d T.un) with hp:=upd s.hp i (some ⟨ob.ty,ob.k,ob.l.take lo++List.replicate (hi-lo) z++ob.l.drop hi⟩)}
   |none=>False
  |_=>False
 | .Iu ty k z m ps=>((z.kd==k)&&z.free&&Ls k m (ps.map fun p=>(p.1,s.ev p.2))&&yw s.hp (ps.map fun p=>s.ev p.2)&&Nat.ble (m*bn k) 16777216&&zD k)=true /\
   K {(s.put d (.own n)) with hp:=upd s.hp n (some ⟨ty,k,tC (List.replicate m z) (ps.map fun p=>(p.1,s.ev p.2))⟩)}
 | .bot=>False
 |op=>qc s op/\K (s.put d (qt s op))
mutual
def T.lt(n:Nat):T->Bool
 | .own i=>Nat.blt i n
 | .ptr i _ _=>Nat.blt i n
 | .oG i _ _=>Nat.blt i n
 | .agg l=>T.J9 n l
 | .fn _ cap=>T.J9 n cap
 | .bU l=>T.J9 n l
 |_=>true
def T.J9(n:Nat):List T->Bool
 |[]=>true
 |t::ts=>T.lt n t&&T.J9 n ts
end
mutual
def T.nid(i:Nat):T->Bool
 | .own j=> !(j==i)
 | .ptr j _ _=> !(j==i)
 | .oG j _ _=> !(j==i)
 | .agg l=>T.Y8 i l
 | .fn _ cap=>T.Y8 i cap
 | .bU l=>T.Y8 i l
 |_=>true
def T.Y8(i:Nat):List T->Bool
 |[]=>true
 |t::ts=>T.nid i t&&T.Y8 i ts
end
def T.newer(n:Nat):T->Bool
 | .own i=>Nat.ble n i
 | .ptr i _ _=>Nat.ble n i
 | .sl _ _ _=>true
 |_=>false
def oC.xs:oC->List X
 | .mv x=>[x]
 | .pick c a b=>[c,a,b]
 | .bin _ x y=>[x,y]
 | .bb _ x y=>[x,y]
 | .not x=>[x]
 | .conv _ x=>[x]
 | .fa _ _ x=>[x]
 | .ia _ x i=>[x,i]
 | .ch x i=>[x,i]
 | .ld _ x=>[x]
 | .len _ x=>[x]
 | .mx x y=>[x,y]
 | .mk _ ps=>ps.map fun p=>p.2.2
 | .ms _ _ _ _ ps=>ps.map fun p=>p.2
 | .sl _ x lo hi m=>x::(lo.toList++hi.toList++m.toList)
 | .ex x _=>[x]
 | .mf _ cap=>cap
 | .box _ _ x=>[x]
 | .al .. =>[]
 | .make _ _ _ _ x y=>[x,y]
 | .st _ x v=>[x,v]
 | .app _ _ _ x y=>[x,y]
 | .call _ xs=>xs
 | .iD x xs=>x::xs
 | .zY x=>[x]
 | .eqs _ _ x y=>[x,y]
 | .slx _ x lo hi m=>x::(lo.toList++hi.toList++m.toList)
 | .VL _ _ x=>[x]
 | .Iu _ _ _ _ ps=>ps.map fun p=>p.2
 | .mb _ x=>[x]
 | .bot=>[]
def AS.obj(s:AS)(m:Nat):Option Nat :=
 match s.fr.getD m .any with
 | .ptr i _ _=>some i
 |_=>none
def IK(s:AS)(xs:List X):List Nat->Bool
 |[]=>true
 |m::r=>(bif Nat.blt m 1000000 then(match s.obj m with|some i=>xs.all fun x=>T.nid i (s.ev x)|none=>false)
   else bif Nat.beq m 1000000 then xs.all fun x=>T.lt 10000 (s.ev x) else(match xs with|x::_=>T.newer 10000 (s.ev x)|[]=>false))&&IK s xs r
def jv(o:aJ)(s:AS):Prop :=
 (o.fl=true->(match o.op with
  | .st _ x _=>T.newer s.nx (s.ev x)
  | .app _ _ _ x _=>T.newer s.nx (s.ev x)
  | .VL _ _ _=>false
  | .call _ _=>true
  | .iD _ _=>true
  |op=>op.xs.all fun x=>T.lt s.nx (s.ev x))=true)/\IK s o.op.xs o.ne=true
def aJ.dr(o:aJ)(dr:Bool):Bool :=
 match o.op with
 | .call _ _=>dr&& !o.fl
 | .iD _ _=>dr&& !o.fl
 |_=>dr
def IL(g:Option (Nat×Bool))(s:AS)(yes no:AS->Prop):Prop :=
 match g with
 |none=>yes s
 |some (d,want) =>
  match s.fr.getD d .any with
  | .lit (.bool b)=>(b=want->yes (s.put (some d) (.lit (.bool want))))/\(b= !want->no (s.put (some d) (.lit (.bool !want))))
  | .lit (.tuple _)=>no s
  |_=>False
def opW(P:Program)(dr:Bool)(n:Nat)(d:Option Nat)(op:oC)(K:AS->Prop)(s:AS):Prop :=
 match op with
 | .call f xs=>dr=false/\ ∃ k,jE P f (xs.map s.ev) s.hp n k fun t h=>K {(s.put d t) with hp:=h,nx:=s.nx+k}
 | .iD x xs=>dr=false/\match s.ev x with
  | .fn f cap=>Nat.blt f 8192=false/\wK P (.fn f cap) (xs.map s.ev) s.hp n fun t h=>K {(s.put d t) with hp:=h}
  |_=>False
 |_=>False
def iL(h:Hp)(n:Nat):Option Ob->Hp
 |none=>h
 |some ob=>upd h n (some ob)
def opF(P:Program)(n:Nat)(d:Option Nat)(op:oC)(K:AS->Prop)(s:AS):Prop :=
 match op with
 | .call f xs=> ∃ (t:T) (o:Option Ob),t.ids (fun i=>i=n)/\(∀ ob,o=some ob->T.bG ob.l=true) /\
   (∀ h:Hp,(∀ i ob,s.hp i=some ob->h i=some ob)->(∀ i ob,s.hp i=some ob->T.aN (fun j=>(h j).isSome=true->(s.hp j).isSome=true) ob.l)->aO P f (xs.map s.ev) h n fun t' h'=>t'=t/\h'=iL h n o)/\K {(s.put d t) with hp:=iL s.hp n o}
 |_=>False
def mkK(o:aJ)(s:AS)(K:AS->Prop)(s':AS):Prop:=(o.ad=true-> ∀ i ob,s.hp i=some ob->s'.hp i=some ob)/\K s'
def opR(P:Program)(dr:Bool)(n:Nat)(o:aJ)(K:AS->Prop)(s:AS):Prop :=
 (o.ar=false/\oH P (o.dr dr) n o.d o.op (mkK o s K) s)\/(o.ar=true/\o.fl=true/\opF P n o.d o.op K s)
def uH(P:Program)(dr:Bool)(m:Nat)(K:AS->Prop):List aJ->Nat->AS->Prop
 |[],_,s=>K {s with nx:=s.nx+m}
 |o::r,i,s=>IL o.g s (fun s=>jv o s/\(opR P dr (s.nx+i) o (uH P dr m K r (i+1)) s\/opW P dr (s.nx+i) o.d o.op (uH P dr m K r (i+1)) s)) (fun s=>uH P dr m K r (i+1) (s.put o.d T.un))
mutual
def T.ren(ρ:Nat->Nat):T->T
 | .own i=>.own (ρ i)
 | .ptr i j off=>.ptr (ρ i) j off
 | .oG i lo hi=>.oG (ρ i) lo hi
 | .agg l=>.agg (T.bQ ρ l)
 | .fn f cap=>.fn f (T.bQ ρ cap)
 | .bU l=>.bU (T.bQ ρ l)
 |t=>t
def T.bQ(ρ:Nat->Nat):List T->List T
 |[]=>[]
 |t::ts=>T.ren ρ t::T.bQ ρ ts
end
mutual
def T.sub(Z:Nat->Prop)(h:Hp):T->T->Prop
 | .any,_=>True
 | .sl k f l,.sl k' f' l'=>(l=l'\/(T.dG Z h l l'/\ ∀ t∈l,t.kd=k))/\(k=k'\/l=[])/\(f=true->f'=true)
 | .sl k f l,.oG i lo hi=>f=false/\Z i/\T.bG l=true/\k≠iE/\ ∃ ty l',h i=some ⟨ty,k,l'⟩/\hi<=l'.length/\l=(l'.take hi).drop lo
 | .sl k f l,.own i=>f=false/\Z i/\T.bG l=true/\k≠iE/\ ∃ ty,h i=some ⟨ty,k,l⟩
 | .ref k t,.ptr i j o=>o=0/\Z i/\T.free t=true/\k≠iE/\ ∃ ty l',h i=some ⟨ty,k,l'⟩/\l'[j]? =some t
 | .agg l,.agg l'=>T.dG Z h l l'
 | .bU l,.bU l'=>T.dG Z h l l'
 |t,t'=>t=t'
def T.dG(Z:Nat->Prop)(h:Hp):List T->List T->Prop
 |[],[]=>True
 |t::ts,t'::ts'=>T.sub Z h t t'/\T.dG Z h ts ts'
 |_,_=>False
end
def iQ:T->Bool
 | .bU [.lit (.int .i64 _),_]=>true
 |_=>false
structure LD(Z:Nat->Prop)(h:Hp)(ρ:Nat->Nat)(ob ob':Ob):Prop where
 ty:ob'.ty=ob.ty
 k:ob'.k=ob.k
 l:T.dG Z h (T.bQ ρ ob.l) ob'.l
 kd:(ob.k=iE/\ob.l.all iQ=true)\/(ob.k≠iE/\ ∀ t∈ob.l,t.kd=ob.k)
structure aed(Z:Nat->Prop)(ρ:Nat->Nat)(s s':AS):Prop where
 fr:T.dG Z s'.hp (T.bQ ρ s.fr) s'.fr
 hp: ∀ i ob,s.hp i=some ob-> ∃ ob',s'.hp (ρ i)=some ob'/\ ¬ Z (ρ i)/\LD Z s'.hp ρ ob ob'
 inj: ∀ i j,(s.hp i).isSome=true->(s.hp j).isSome=true->ρ i=ρ j->i=j
 mf:T.aN (· <s.nx) s.fr
 mh:nR (· <s.nx) s.hp
 pin:s.pin=s'.pin
 le:s'.pin<=s.nx
 fix: ∀ i,i<s.pin->(s.hp i).isSome=true->ρ i=i
def Qk(s s':AS):Prop:= ∃ i k' ty k,s'.fr.getD i .any= .sl k' true []/\zD k=true /\
 s= {s' with fr:=s'.fr.set i (.own s'.nx),hp:=upd s'.hp s'.nx (some ⟨ty,k,[]⟩),nx:=s'.nx+1}
def Ql(s s':AS):Prop:= ∃ j c k' ty k oty cs,s'.hp j=some ⟨oty,cs.length+1,[.agg cs]⟩/\c<cs.length/\cs.getD c .any= .sl k' true []/\zD k=true/\j<s'.nx /\
 s= {s' with hp:=upd (upd s'.hp j (some ⟨oty,cs.length+1,[.agg (cs.set c (.own s'.nx))]⟩)) s'.nx (some ⟨ty,k,[]⟩),nx:=s'.nx+1}
def VP(s s':AS):Prop:= ∃ j k' ty k oty,s'.hp j=some ⟨oty,0,[.sl k' true []]⟩/\zD k=true/\j<s'.nx /\
 s= {s' with hp:=upd (upd s'.hp j (some ⟨oty,0,[.own s'.nx]⟩)) s'.nx (some ⟨ty,k,[]⟩),nx:=s'.nx+1}
def LG(s s':AS):Prop:= ∃ j i hi ob,s'.fr.getD j .any= .oG i 0 hi/\s'.hp i=some ob/\i<s'.nx/\hi<=ob.l.length/\ob.k≠iE /\
 s= {s' with fr:=s'.fr.set j (.own s'.nx),hp:=upd (upd s'.hp i none) s'.nx (some ⟨ob.ty,ob.k,ob.l.take hi⟩),nx:=s'.nx+1}
structure abg(Z:Nat->Prop)(s s':AS):Prop where
 fr:T.dG Z s'.hp s.fr s'.fr
 hp: ∀ i ob,s.hp i=some ob-> ∃ ob',s'.hp i=some ob'/\ ¬ Z i/\ob'.ty=ob.ty/\ob'.k=ob.k/\T.dG Z s'.hp ob.l ob'.l/\ob.l.map T.kd=ob'.l.map T.kd/\ob.l.map iQ=ob'.l.map iQ
 nx:s.nx=s'.nx
 pin:s.pin=s'.pin
inductive GR:AS->AS->Prop
 |refl (s:AS):GR s s
 |slot {s s' s'':AS}:Qk s' s''->GR s s'->GR s s''
 |cell {s s' s'':AS}:Ql s' s''->GR s s'->GR s s''
 |box {s s' s'':AS}:VP s' s''->GR s s'->GR s s''
 |take {s s' s'':AS}:LG s' s''->GR s s'->GR s s''
 |fz {s s' s'':AS} {Z:Nat->Prop}:abg Z s' s''->GR s s'->GR s s''
def Wk(s s':AS):Prop:= ∃ s1,GR s1 s'/\(s=s1\/ ∃ Z ρ,aed Z ρ s s1)
def Ad(body:(ng->AS->Prop)->AS->Prop)(Q:ng->AS->Prop)(s:AS):Prop :=
 ∃ (I:AS->Prop) (μ:AS->Nat),(∃ s₀,Wk s₀ s/\I s₀) /\
  ∀ s,I s->body (fun e s'=>match e with| .normal=> ∃ s₁,Wk s₁ s'/\I s₁/\μ s₁<μ s|e=>Q e s') s
def aw(P:Program):bC->(ng->AS->Prop)->AS->Prop
 | .skip,Q,s=>Q .normal s
 | .reg dr ops,Q,s=>uH P dr ops.length (Q .normal) ops 0 s
 | .seq a b,Q,s=>aw P a (fun e s'=>match e with| .normal=>aw P b Q s'|e=>Q e s') s
 | .cond c a b,Q,s =>
  match s.ev c with
  | .lit (.bool t)=>(t=true->aw P a Q s)/\(t=false->aw P b Q s)
  |_=>False
 | .blk id b,Q,s=>aw P b (fun e s'=>match e with| .exit j=>(bif j==id then Q .normal s' else Q (.exit j) s')|e=>Q e s') s
 | .exit id,Q,s=>Q (.exit id) s
 | .ret,Q,s=>Q .ret s
 | .loop b,Q,s=>Ad (aw P b) Q s
def Qm:Value->T
 | .slice none 0 0=>.sl 0 true []
 |v=>.lit v
def BR:Value->T
 | .agg cs=>.agg (cs.toList.map Qm)
 |v=>Qm v
def Qn:Value->Bool
 | .agg cs=>cs.all (·.oneCell')
 |_=>true
def bD:Operand->Option X
 | .tmp t=>some (.t t)
 | .const v=>if Qn v then some (.c (BR v)) else none
 | .func f=>if f<4096 then some (.c (.fn f [])) else none
 | .global _=>none
def kindOf(P:Program)(ty:TypeId):Option Nat :=
 match P.info? ty,P.underlying ty with
 |some i,some (.struct _)=>if i.size<1000000 then some (i.size+1) else none
 |some i,some (.array _ _)=>if i.size<1000000 then some (i.size+1) else none
 |some i,some _=>if i.size=1 then some 0 else none
 |_,_=>none
def LH(g:TypeId->Option Nat):List Field->Nat->Option Nat
 |[],off=>some off
 |f::fs,off=>if f.name≠ "_" /\ f.offset=off then(match g f.type with|some n=>LH g fs (off+n)|none=>none) else none
def Bl(P:Program):Nat->TypeId->Option Nat
 |0,_=>none
 |d+1,t=>match P.underlying t,kindOf P t with
  |some (.int .i64),some 0=>some 1
  |some (.struct fs),some k=>if P.stoodInHeld t=false/\P.eqGuardType P.depth t=false then(match LH (Bl P d) fs.toList 0 with|some n=>if k=n+1 then some n else none|none=>none) else none
  |_,_=>none
def zeroOf(P:Program)(ty:TypeId):Option Value:=(P.info? ty).bind (·.zero)
def Ef(P:Program)(ty:TypeId)(f:Nat):Option (Nat×Nat) :=
 match P.underlying ty with
 |some (.struct fs)=>match fs[f]? with
  |some fd=>match kindOf P fd.type with
   |some k=>if bn k=0 then none else some (fd.offset,k)
   |none=>none
  |none=>none
 |_=>none
def elemOf(P:Program)(ty:TypeId):Option TypeId :=
 match P.underlying ty with
 |some (.slice e)=>some e
 |_=>none
def kC(z:Value):Bool:=z.cells.all (·.oneCell')
def kN:List (Nat×Operand)->Option (List (Nat×X))
 |[]=>some []
 |(i,x)::r=>match bD x,kN r with
  |some x',some r'=>some ((i,x')::r')
  |_,_=>none
def compFields(P:Program)(ty:TypeId):List (Nat×Operand)->Option (List (Nat×Nat×X))
 |[]=>some []
 |(i,x)::r=>match bD x,Ef P ty i,compFields P ty r with
  |some x',some (off,k),some r'=>some ((off,bn k,x')::r')
  |_,_,_=>none
def qw:List Operand->Option (List X)
 |[]=>some []
 |x::r=>match bD x,qw r with
  |some x',some r'=>some (x'::r')
  |_,_=>none
def C9:Option Operand->Option (Option X)
 |none=>some none
 |some x=>(bD x).map some
def rQ(P:Program)(b:Builtin)(argTypes:List TypeId)(xs:List X):Option oC :=
 match b,argTypes,xs with
 | .len,t::_,[x] =>
  match P.underlying t with
  |some (.slice _)=>some (.len false x)
  |some .string=>some (.len true x)
  |_=>none
 | .clear,t::_,[x] =>
  match P.underlying t with
  |some (.slice e)=>match kindOf P e,zeroOf P e with
   |some k,some z=>if kC z/\0<bn k then some (.VL k (BR z) x) else none
   |_,_=>none
  |_=>none
 | .max,_,[x,y]=>some (.mx x y)
 | .append,[t,t'],[x,y] =>
  match P.underlying t,P.underlying t' with
  |some (.slice e),some (.slice e') =>
   match kindOf P e,P.info? e with
   |some k,some i=>match i.zero with
    |some z=>if e=e'/\z.cells.size=bn k/\0<bn k then some (.app e k i.bytes x y) else none
    |none=>none
   |_,_=>none
  |_,_=>none
 |_,_,_=>none
def isRow:Value->Bool
 | .slice _ _ _=>true
 |_=>false
def agD(z:Value):Bool:=z.cells.any isRow
def tK(P:Program)(nd:Bool):Op->Option oC
 | .move x=>(bD x).map .mv
 | .assign x=>(bD x).map .mv
 | .pick c a b=>match bD c,bD a,bD b with
  |some c,some a,some b=>some (.pick c a b)
  |_,_,_=>none
 | .binOp op t x y _=>match bD x,bD y with
  |some x,some y=>match P.underlying t with
   |some (.int _)=>some (.bin op x y)
   |some .string=>some (.bin op x y)
   |some .bool=>match op with
    | .eql=>some (.bb false x y)
    | .neq=>some (.bb true x y)
    |_=>none
   |some (.struct _)=>match Bl P 20 t,op with
    |some n,.eql=>some (.eqs false n x y)
    |some n,.neq=>some (.eqs true n x y)
    |_,_=>none
   |some (.slice _)=>match op,y with
    | .eql,.c (.sl 0 true [])=>some (.zY x)
    |_,_=>none
   |_=>none
  |_,_=>none
 | .makeInterface _ _=>some .bot
 | .panic _=>some .bot
 | .unOp .not _ x=>(bD x).map .not
 | .convert src dst x=>match bD x,P.underlying src,P.underlying dst with
  |some x,some _,some (.int k)=>some (.conv k x)
  |_,_,_=>none
 | .fieldAddr ty x f=>match bD x,Ef P ty f with
  |some x,some (off,k)=>some (.fa off k x)
  |_,_=>none
 | .indexAddr ty x i=>match bD x,bD i,elemOf P ty with
  |some x,some i,some e=>(kindOf P e).map fun k=>.ia k x i
  |_,_,_=>none
 | .index ty x i=>match bD x,bD i,P.underlying ty with
  |some x,some i,some .string=>some (.ch x i)
  |_,_,_=>none
 | .load ty x=>match bD x,kindOf P ty with
  |some x,some k=>some (.ld k x)
  |_,_=>none
 | .store ty x v=>match bD x,bD v,kindOf P ty with
  |some x,some v,some k=>some (.st k x v)
  |_,_,_=>none
 | .build ty ps=>match P.underlying ty,zeroOf P ty,compFields P ty ps.toList with
  |some (.struct fs),some (.agg cs),some ps =>
   if kC (.agg cs)/\(fs.toList.mapM (fun f=>(P.info? f.type).map fun i=>(f.offset,i.size))).isSome=true then some (.mk (cs.toList.map Qm) ps) else none
  |some (.array _ e),some (.agg cs),_=>match kN ps.toList,kindOf P e with
   |some ps,some 0=>if kC (.agg cs) then some (.mk (cs.toList.map Qm) (ps.map fun p=>(p.1,1,p.2))) else none
   |_,_=>none
  |_,_,_=>none
 | .buildSlice ty n ps=>match elemOf P ty,kN ps.toList with
  |some e,some ps=>match kindOf P e,zeroOf P e with
   |some k,some z=>if kC z/\(BR z).kd=k then(if nd=true/\agD z=true then some (.Iu e k (BR z) n ps) else some (.ms e k (BR z) n ps)) else none
   |_,_=>none
  |_,_=>none
 | .slice ty x lo hi mx=>match bD x,C9 lo,C9 hi,C9 mx with
  |some x,some lo,some hi,some mx=>match P.underlying ty with
   |some (.slice e)=>(kindOf P e).map fun k=>bif nd then .slx k x lo hi mx else .sl k x lo hi mx
   |_=>none
  |_,_,_,_=>none
 | .extract x i=>(bD x).map fun x=>.ex x i
 | .makeFunc (.func f) first cap=>if first.size=0 then(qw cap.toList).map fun c=>.mf f c else
   match first.toList,cap.toList with
   |[x],[]=>(bD x).map fun x=>.mb f x
   |_,_=>none
 | .box ty x=>match bD x,kindOf P ty with
  |some x,some k=>some (.box ty k x)
  |_,_=>none
 | .alloc ty=>match kindOf P ty,zeroOf P ty with
  |some k,some z=>if kC z then some (.al ty k (BR z)) else none
  |_,_=>none
 | .makeSlice ty n c=>match bD n,bD c,elemOf P ty with
  |some n,some c,some e=>match kindOf P e,P.info? e with
   |some k,some i=>match i.zero with
    |some z=>if kC z then some (.make e k i.bytes (BR z) n c) else none
    |none=>none
   |_,_=>none
  |_,_,_=>none
 | .call c=>match qw c.args.toList with
  |some xs=>match c.callee with
   | .value (.func f)=>some (.call f xs)
   | .value x=>(bD x).map fun x=>.iD x xs
   | .builtin b=>rQ P b c.argTypes.toList xs
   | .invoke _ _=>none
  |none=>none
 |_=>none
theorem addr_add(b off n:Nat):(⟨b,off,none⟩:Addr).add n=⟨b,off+n,none⟩:=by
 unfold Addr.add; split<;>simp_all
theorem Qo{w:World}{b:Nat}{cur:Array Value}{e:TypeId}{m:Nat×Nat}(h:w.heap[b]? =some (.cells cur e m))(off:Nat) :
  w.cell? ⟨b,off,none⟩=cur[off]? :=by
 simp[World.cell?,h]
section kinds
variable {P:Program} {ty k:Nat} {w:World}
theorem xA(h:kindOf P ty=some k): ∃ i d,P.info? ty=some i/\P.underlying ty=some d/\i.size=bn k /\
  ((match d with| .struct _=>true| .array _ _=>true|_=>false)=(k !=0)):=by
 unfold kindOf at h;split at h
 ·rename_i i fs h1 h2;split at h
  ·cases h; exact⟨i,_,h1,h2,rfl,by simp⟩
  ·cases h
 ·rename_i i n e h1 h2;split at h
  ·cases h; exact⟨i,_,h1,h2,rfl,by simp⟩
  ·cases h
 ·rename_i i d hs ha h1 h2;split at h
  ·cases h;refine⟨i,d,h1,h2,by simpa [bn],?_⟩;cases d<;>simp_all
  ·cases h
 ·cases h
theorem Dc(h:kindOf P ty=some k):k≠iE:=by
 unfold kindOf at h;split at h
 ·split at h
  ·cases h; simp only[iE]; omega
  ·cases h
 ·split at h
  ·cases h; simp only[iE]; omega
  ·cases h
 ·split at h
  ·cases h; simp only[iE]; omega
  ·cases h
 ·cases h
theorem jc(h:kindOf P ty=some k):(sizeOf ty).run P w= .ok (bn k) w:=by
 obtain⟨i,d,h1,_,h3,_⟩:=xA h;simp[sizeOf,typeInfo,h1,h3]
theorem Bc(h:kindOf P ty=some k):(isAgg ty).run P w= .ok (k !=0) w:=by
 obtain⟨i,d,_,h2,_,h4⟩:=xA h;rw[<- h4];simp only[isAgg,underlying];cases d<;>simp[h2]
theorem GU(h:kindOf P ty=some k){b off:Nat}{cur:Array Value}{e:TypeId}{m:Nat×Nat}(hh:w.heap[b]? =some (.cells cur e m))
  (hl:off+bn k<=cur.size) :
  (k≠0->(loadVar ty ⟨b,off,none⟩).run P w= .ok (.agg ((cur.toList.drop off).take (bn k)).toArray) w) /\
  (k=0-> ∃ v,cur[off]? =some v/\(loadVar ty ⟨b,off,none⟩).run P w= .ok v w):=by
 constructor
 ·intro hk;have hlen:((cur.toList.drop off).take (bn k)).length=bn k:=by simp; omega
  have hc:=run_loadCells_list (P:=P) w ⟨b,off,none⟩ ((cur.toList.drop off).take (bn k)) (fun j v hv=>by
   rw[addr_add,Qo hh];by_cases hj:j<bn k
   ·rw[cU hj,cQ] at hv; simpa using hv
   ·rw[fL (by omega)] at hv; cases hv)
  rw[hlen] at hc;have hk':(k !=0)=true:=by simpa using hk
  simp only[loadVar,Sem.run_bind,Bc h,Result.andThen_ok,hk',cW,jc h,hc,Sem.run_pure]
 ·rintro rfl;simp only[bn] at hl;have hv:cur[off]? =some (cur[off]'(by omega)):=by simp
  refine⟨_,hv,?_⟩;simp only[loadVar,Sem.run_bind,Bc h,Result.andThen_ok];simp[load,Sem.run,Qo hh,hv]
end kinds
section ops
variable {P:Program} {F:Fr P} {M:Nat->Prop} {E:Env} {s:AS} {a:Act}
theorem LJ{v:Value}:aK E (Qm v) [v]:=by
 unfold Qm;split
 ·exact⟨none,0,rfl,by simp,by simp,.inl rfl⟩
 ·simp[aK]
theorem Qp(v:Value):(Qm v).kd=0:=by unfold Qm; split<;>rfl
theorem Eh: ∀ {vs:List Value},(∀ v∈vs,v.oneCell'=true)->aS E (vs.map Qm) vs:=by
 intro vs;induction vs with
 |nil=>intro _; simp[aS]
 |cons v vs ih =>
  intro h;simp only[bp,aS];exact⟨Qp v,v,vs,rfl,h v (by simp),LJ,ih fun u hu=>h u (by simp[hu])⟩
theorem VQ{v:Value}(h: ∀ cs,v≠ .agg cs):BR v=Qm v:=by
 cases v<;>first|rfl|exact absurd rfl (h _)
theorem abh{v:Value}(h:Qn v=true):jM E (BR v) v:=by
 cases v with
 |agg cs =>
  rw[BR,Ac]
  exact⟨cs,rfl,Eh fun u hu=>by
   simp only[Qn,eQ] at h
   exact h u (by simpa using hu)⟩
 |_=>rw[VQ (by intro cs hcs; cases hcs)]; exact .inr ⟨Qp _,LJ⟩
theorem Kq(v:Value):(Qm v).ids (fun _=>False):=by unfold Qm; split<;>simp[T.ids]
theorem aee(v:Value):(BR v).ids (fun _=>False):=by
 cases v with
 |agg cs=>simp only[BR,T.ids]; exact bP.2 fun t ht=>by obtain⟨u,_,rfl⟩:=bA.1 ht; exact Kq u
 |_=>rw[VQ (by intro cs hcs; cases hcs)]; exact Kq _
theorem LK{f:FuncId}(h:f<4096){cs:Array Value}:fnV f cs= .func (.func f) #[] cs:=by
 unfold fnV; rw[cI.mpr h]; rfl
theorem XB{f:FuncId}(h: ¬ f<4096){cs:Array Value}:fnV f cs= .func (.func (f % 4096)) #[.agg cs] #[]:=by
 unfold fnV
 have:Nat.blt f 4096=false:=by
  cases h':Nat.blt f 4096 with
  |false=>rfl
  |true=>rw[cI] at h'; exact absurd h' h
 rw[this]; rfl
theorem agE{f:FuncId}(h:f<4096){cs:Array Value}:fnV (f+4096) cs= .func (.func f) #[.agg cs] #[]:=by
 rw[XB (fun q=>Nat.not_lt_of_le (Nat.le_add_left 4096 f) q)];have e:(f+4096) % 4096=f:=by rw[Nat.add_mod_right]; exact Nat.mod_eq_of_lt h
 rw[e]
theorem O5(f:FuncId)(cs:Array Value):(f<4096/\fnV f cs= .func (.func f) #[] cs)\/(¬ f<4096/\fnV f cs= .func (.func (f % 4096)) #[.agg cs] #[]):=by
 by_cases h:f<4096
 ·exact .inl ⟨h,LK h⟩
 ·exact .inr ⟨h,XB h⟩
theorem dK(R:Rel F M E s a){x:Operand}{x':X}(h:bD x=some x'):jM E (s.ev x') (a.eval x):=by
 cases x with
 |tmp t =>
  cases h;have:=yx R.fr t;simpa [AS.ev,Act.eval] using this
 |const v =>
  simp only[bD] at h;split at h
  ·cases h; exact abh (by assumption)
  ·cases h
 |global g=>cases h
 |func f =>
  simp only[bD] at h;split at h
  ·rename_i hf;cases h;exact .inr ⟨rfl,by simp only[AS.ev,aK,Act.eval]; exact .inl ⟨cI.mpr (Nat.lt_trans hf (by decide)),#[],by rw[LK hf],rfl⟩⟩
  ·cases h
theorem lJ(R:Rel F M E s a){x:Operand}{x':X}(h:bD x=some x'):(s.ev x').ids M:=by
 cases x with
 |tmp t=>cases h; exact xq R.mf (by simp[T.ids])
 |const v =>
  simp only[bD] at h;split at h
  ·cases h; exact T.aT (fun _ hf=>hf.elim) _ (aee v)
  ·cases h
 |global g=>cases h
 |func f =>
  simp only[bD] at h;split at h
  ·cases h; simp[AS.ev,T.ids,T.aN]
  ·cases h
def y8(P:Program)(E:Env)(a:Act)(o:Oper)(t:T):Prop :=
 ∃ v,(execOp a.eval o).run P E.w= .ok (.value v) E.w/\jM E t v
theorem ahZ(R:Rel F M E s a){x:Operand}{x':X}(hx:bD x=some x'){o:Oper}(ho:o.op= .move x\/o.op= .assign x):y8 P E a o (s.ev x'):=by
 refine⟨_,?_,dK R hx⟩;rcases ho with ho|ho<;>simp[execOp,ho]
theorem Kr{t:T}(h:isBool t=true): ∃ b,t= .lit (.bool b):=by
 unfold isBool at h; split at h
 ·exact⟨_,rfl⟩
 ·cases h
theorem agF(R:Rel F M E s a){c x y:Operand}{c' x' y':X}(hc:bD c=some c')(hx:bD x=some x')(hy:bD y=some y'){o:Oper}
  (ho:o.op= .pick c x y) (h:qc s (.pick c' x' y')):y8 P E a o (qt s (.pick c' x' y')):=by
 have rc:=dK R hc; have rx:=dK R hx; have ry:=dK R hy;obtain⟨b,hb⟩:=Kr h;rw[hb,aV] at rc;refine⟨if b then a.eval x else a.eval y,?_,?_⟩
 ·simp[execOp,ho,rc,asBool]
 ·simp only[qt,hb,CY];split
  ·rename_i e1 e2; rw[e1,aV] at rx; rw[e2,aV] at ry; rw[rx,ry,aV]; cases b<;>rfl
  ·cases b<;>simpa
theorem agG{k k':IntKind}(h:kEq k k'=true):k=k':=by cases k<;>cases k'<;>first|rfl|cases h
theorem aef{op:BinOp}{u v r:Value}(h:EI op u v=some r)(t:TypeId)(x y:Operand)(w:World) :
  (do eqGuard op t x y u v; binOp op t u v:Sem Value).run P w= .ok r w:=by
 unfold EI at h;split at h
 ·rename_i k c k' d;by_cases hsh:op= .shr
  ·subst hsh;have hg:eqGuard BinOp.shr t x y (.int k c) (.int k' d)=pure ():=by unfold eqGuard; rfl
   rw[hg];have h':(bif decide (0<=d) then some (Value.int k (c.fdiv (2 ^ min d.toNat k.bits))) else none)=some r:=by cases hk:kEq k k'<;>rw[hk] at h<;>exact h
   by_cases hd:0<=d
   ·simp only[hd,decide_true,bS,bc] at h';subst h';have hd': ¬ d<0:=by omega
    simp[binOp,Op.shift,hd']
   ·simp[hd] at h'
  cases hk:kEq k k' with
  |false=>rw[hk] at h; cases op<;>first|(exact absurd rfl hsh)|(simp at h)
  |true =>
   have:=agG hk;subst this;have hg:eqGuard op t x y (.int k c) (.int k d)=pure ():=by
    unfold eqGuard; cases op<;>rfl
   rw[hg];rw[hk] at h;by_cases hr:op= .rem
   ·subst hr;by_cases hd:d=0
    ·simp[hd] at h
    ·simp only[hd,decide_false,bB,bc] at h;subst h;simp[binOp,Op.intDiv,hd]
   cases op<;>first|(exact absurd rfl hsh)|(exact absurd rfl hr)|(simp at h<;>subst h<;>simp[binOp,Op.intArith,Op.intCmp,Op.intBits,agB])
 ·rename_i c d;have hg:eqGuard op t x y (.string c) (.string d)=pure ():=by
   unfold eqGuard; cases op<;>rfl
  rw[hg];by_cases ha:op= .add
  ·subst ha;by_cases hs:(((c.size+d.size:Nat):Int)<=9223372036854775807)
   ·simp only[hs,decide_true,bS,bc] at h;subst h;have hn: ¬ (((c.size+d.size:Nat):Int)>IntKind.i64.max):=by
     have:IntKind.i64.max=9223372036854775807:=by decide
     rw[this]; omega
    show Sem.run P (do pure (); if((c.size+d.size:Nat):Int)>IntKind.i64.max then _ else pure (Value.string (c++d))) w=_;rw[av hn]; rfl
   ·simp only[hs,decide_false,bB] at h; cases h
  cases op<;>first|(exact absurd rfl ha)|(simp at h<;>subst h<;>simp[binOp,Op.stringOp])
 ·cases h
theorem af5(R:Rel F M E s a){op:BinOp}{t ty':TypeId}{x y:Operand}{x' y':X}(hx:bD x=some x')(hy:bD y=some y'){o:Oper}
  (ho:o.op= .binOp op t x y ty') (h:qc s (.bin op x' y')):y8 P E a o (qt s (.bin op x' y')):=by
 have rx:=dK R hx; have ry:=dK R hy;simp only[qc] at h;split at h
 ·rename_i u v e1 e2;rw[e1,aV] at rx; rw[e2,aV] at ry;cases hb:EI op u v with
  |none=>rw[hb] at h; cases h
  |some r =>
   refine⟨r,?_,?_⟩
   ·simp only[execOp,ho,rx,ry];have:=aef (P:=P) hb t x y E.w;simp only[Sem.run_bind] at this ⊢;rw[this]; rfl
   ·simp only[qt,e1,e2,hb,aV]
 ·exact h.elim
theorem ah0(R:Rel F M E s a){op:BinOp}{t ty':TypeId}{ne:Bool}{x y:Operand}{x' y':X}(hx:bD x=some x')(hy:bD y=some y'){o:Oper}
  (ho:o.op= .binOp op t x y ty') (hop:op=if ne then .neq else .eql) (ht:P.underlying t=some .bool) (h:qc s (.bb ne x' y')):y8 P E a o (qt s (.bb ne x' y')):=by
 have rx:=dK R hx; have ry:=dK R hy;simp only[qc,aD] at h;obtain⟨b,hb⟩:=Kr h.1;obtain⟨c,hc⟩:=Kr h.2;rw[hb,aV] at rx; rw[hc,aV] at ry;refine⟨.bool (bif ne then !(b==c) else b==c),?_,by simp only[qt,hb,hc,aV]⟩;have heq:(Op.equal t (.bool b) (.bool c)).run P E.w= .ok (b==c) E.w:=by
  have h: ∀ d,(Op.equalIn (d+1) t (.bool b) (.bool c)).run P E.w= .ok (b==c) E.w:=fun d=>by
   simp only[Op.equalIn,underlying,Sem.run_bind,run_program,Result.andThen_ok,ht,Sem.run_pure]
  exact h 9999
 have hg:eqGuard op t x y (.bool b) (.bool c)=pure ():=by
  unfold eqGuard; cases op<;>rfl
 cases ne
 ·simp only[hop,cz,cP] at ho hg ⊢;simp only[execOp,ho,rx,ry,hg,binOp,Sem.run_bind,Sem.run_pure,Result.andThen_ok,heq,bB]
 ·simp only[hop,cW] at ho hg ⊢;simp only[execOp,ho,rx,ry,hg,binOp,Sem.run_bind,Sem.run_pure,Result.andThen_ok,heq,bS]
theorem ah1(R:Rel F M E s a){t:TypeId}{x:Operand}{x':X}(hx:bD x=some x'){o:Oper}
  (ho:o.op= .unOp .not t x) (h:qc s (.not x')):y8 P E a o (qt s (.not x')):=by
 have rx:=dK R hx;obtain⟨b,hb⟩:=Kr h;rw[hb,aV] at rx;exact⟨.bool !b,by simp[execOp,ho,rx,Op.unary],by simp only[qt,hb,aV]⟩
theorem agH(R:Rel F M E s a){src dst:TypeId}{k:IntKind}{d:TypeDesc}{x:Operand}{x':X}(hx:bD x=some x'){o:Oper}
  (ho:o.op= .convert src dst x) (h1:P.underlying src=some d) (h2:P.underlying dst=some (.int k)) (h:qc s (.conv k x')):y8 P E a o (qt s (.conv k x')):=by
 have rx:=dK R hx;simp only[qc] at h;split at h
 ·rename_i k' n e1;rw[e1,aV] at rx;refine⟨.int k (k.wrap n),?_,by simp only[qt,e1,aV]⟩;simp[execOp,ho,rx,convert,underlying,h1,h2,Conv.intToInt]
 ·exact h.elim
theorem LM{ty f off k:Nat}(h:Ef P ty f=some (off,k)): ∃ fs fd,P.underlying ty=some (.struct fs)/\fs[f]? =some fd/\kindOf P fd.type=some k/\bn k≠0/\fd.offset=off:=by
 unfold Ef at h;split at h
 ·rename_i fs h1;split at h
  ·rename_i fd h2;split at h
   ·rename_i k' h3;split at h
    ·cases h
    ·rename_i h4; cases h; exact⟨fs,fd,h1,h2,h3,h4,rfl⟩
   ·cases h
  ·cases h
 ·cases h
theorem JF{ty f off k:Nat}(h:Ef P ty f=some (off,k))(b o:Nat)(w:World) :
  (Instr.fieldAt ty (.pointer (some ⟨b,o,none⟩)) f).run P w= .ok (.pointer (some ⟨b,o+off,none⟩)) w:=by
 obtain⟨fs,fd,h1,h2,h3,h4,rfl⟩:=LM h;simp only[Instr.fieldAt,underlying,Sem.run_bind,run_program,Result.andThen_ok,h1,Sem.run_pure,h2,Instr.sureAddr,fieldPlace,jc h3,h4,cP,addr_add]
theorem aja(R:Rel F M E s a){ty f off k:Nat}{x:Operand}{x':X}(hx:bD x=some x'){o:Oper}
  (ho:o.op= .fieldAddr ty x f) (hf:Ef P ty f=some (off,k)) (h:qc s (.fa off k x')):y8 P E a o (qt s (.fa off k x')):=by
 have rx:=dK R hx;simp only[qc] at h;split at h
 ·rename_i i j oo e1;rw[e1,aC rfl] at rx;simp only[aK] at rx;obtain⟨u,hu,hlive⟩:=rx;obtain⟨b,n,c,hφ,hu'⟩:=hlive (by rw[R.he]; exact h);have ha:a.eval x= .pointer (some ⟨b,j*bn (E.κ i)+oo,none⟩):=by rw[<- hu']; simpa using hu
  refine⟨.pointer (some ⟨b,j*bn (E.κ i)+oo+off,none⟩),?_,?_⟩
  ·simp[execOp,ho,ha,JF hf]
  ·simp only[qt,e1];rw[aC rfl];simp only[aK];exact⟨_,rfl,fun _=>⟨b,n,c,hφ,by rw[gM]⟩⟩
 ·rename_i kt t e1;rw[e1,aC rfl] at rx;simp only[aK] at rx;obtain⟨b,off',cur,e,m,hu,hS,hh,hk,hid,hl,hr⟩:=rx;simp only[aD,bl,cE,ne_eq] at h;have ha:a.eval x= .pointer (some ⟨b,off',none⟩):=by simpa using hu
  have hkt:t.kd≠0:=by rw[hk]; exact h.1
  have hp:=O4 hr hkt (off:=off) (k:=k) (by rw[<- qp,hk]; exact h.2);refine⟨.pointer (some ⟨b,off'+off,none⟩),?_,?_⟩
  ·simp[execOp,ho,ha,JF hf]
  ·simp only[qt,e1];rw[aC rfl];simp only[aK];refine⟨b,off'+off,cur,e,m,rfl,hS,hh,hp.2.1,SB hid _ _,?_,?_⟩
   ·have:=hp.2.2;simp only[bL,bv] at this hl ⊢; omega
   ·have h1:=hp.1;rw[List.drop_take,List.take_take,dE] at h1;have h2:=h.2;simp only[qh,em] at h2;rw[ep (by omega)] at h1;exact h1
 ·exact h.elim
theorem xB{ty e:Nat}(h:elemOf P ty=some e):P.underlying ty=some (.slice e):=by
 unfold elemOf at h;split at h
 ·rename_i e' h1; cases h; exact h1
 ·cases h
theorem run_indexAt{ty e k:Nat}(he:elemOf P ty=some e)(hk:kindOf P e=some k){b off len cap:Nat}{kd:IntKind}{n:Int}(h0:0<=n)(h1:n<len)(w:World) :
  (Instr.indexAt ty (.slice (some ⟨b,off,none⟩) len cap) (.int kd n)).run P w= .ok (.pointer (some ⟨b,off+n.toNat*bn k,none⟩)) w:=by
 have hu:=xB he;simp[Instr.indexAt,asIntOf,underlying,hu,h0,h1,jc hk,addr_add]
theorem ajb(R:Rel F M E s a){ty e k:Nat}{x i:Operand}{x' i':X}(hx:bD x=some x')(hi:bD i=some i'){o:Oper}
  (ho:o.op= .indexAddr ty x i) (he:elemOf P ty=some e) (hk:kindOf P e=some k) (h:qc s (.ia k x' i')):y8 P E a o (qt s (.ia k x' i')):=by
 have rx:=dK R hx; have ri:=dK R hi;simp only[qc] at h;split at h
 ·rename_i k' full l kd n e1 e2;obtain⟨rfl,h0,h1⟩:=h;rw[e2,aV] at ri;rw[e1,aC rfl] at rx;simp only[aK] at rx;obtain⟨ad,c,hu,hlc,hfull,hrow⟩:=rx;have hne:l≠[]:=by rintro rfl; simp at h1; omega
  obtain⟨b,off,cur,te,m,rfl,hS,hh,hid,hr⟩:=hrow.resolve_left hne;have ha:a.eval x= .slice (some ⟨b,off,none⟩) l.length c:=by simpa using hu
  have hg:=vS hr (j:=n.toNat) (by omega);refine⟨.pointer (some ⟨b,off+n.toNat*bn k',none⟩),?_,?_⟩
  ·simp[execOp,ho,ha,ri,run_indexAt he hk h0 h1]
  ·simp only[qt,e1,e2];rw[aC rfl];simp only[aK];refine⟨b,_,cur,te,m,rfl,hS,hh,hg.1,xq hid (by simp[T.ids]),?_,?_⟩
   ·have:=hg.2.1;simp only[bv] at this ⊢; omega
   ·rw[<- dE]; exact hg.2.2.2
 ·rename_i oo kd n e1 e2;split at h
  ·rename_i ob hob;obtain⟨rfl,h0,h1⟩:=h;rw[e2,aV] at ri;rw[e1,aC rfl] at rx;simp only[aK] at rx;obtain⟨u,hu,hlive⟩:=rx;have fV:E.h oo=some ob:=by rw[R.he]; exact hob
   have hφ:=hlive (by rw[fV]; rfl);obtain⟨hok,JQ,hsz⟩:=R.hk.obs oo ob fV;have ha:a.eval x=E.φ oo:=by rw[<- hφ]; simpa using hu
   rcases hok.row (Dc hk) with ⟨ad,_,hnil⟩|⟨g,c,cur,hv,hc,_,hh,hcs,hr⟩
   ·rw[hnil] at h1; simp at h1; omega
   ·refine⟨.pointer (some ⟨g,0+n.toNat*bn ob.k,none⟩),?_,?_⟩
    ·simp[execOp,ho,ha,hv,ri,run_indexAt he hk h0 h1]
    ·simp only[qt,e1,e2];rw[aC rfl];simp only[aK];exact⟨_,rfl,fun _=>⟨g,_,_,hv,by rw[JQ]; simp⟩⟩
  ·exact h.elim
 ·rename_i oo lo hi' kd n e1 e2;split at h
  ·rename_i ob hob;obtain⟨rfl,h0,h1⟩:=h;rw[e2,aV] at ri;rw[e1,aC rfl] at rx;simp only[aK] at rx;obtain⟨u,hu,hlive⟩:=rx;have fV:E.h oo=some ob:=by rw[R.he]; exact hob
   obtain⟨ad,m,c,hφ,hl1,hl2,hl3,hu'⟩:=hlive (by rw[fV]; rfl);obtain⟨hok,JQ,hsz⟩:=R.hk.obs oo ob fV;have ha:a.eval x=u:=by simpa using hu
   rcases hok.row (Dc hk) with ⟨ad',hv,hnil⟩|⟨g,c',cur,hv,hc,_,hh,hcs,hr⟩
   ·rw[hφ] at hv; simp at hv; omega
   ·rw[hφ] at hv;simp only[Value.slice.injEq] at hv;obtain⟨rfl,rfl,rfl⟩:=hv;rw[av (by omega),JQ] at hu';simp only[bu,addr_add,fx] at hu';have h1':n<((hi'-lo:Nat):Int):=h1;refine⟨.pointer (some ⟨g,lo*bn ob.k+n.toNat*bn ob.k,none⟩),?_,?_⟩
    ·simp[execOp,ho,ha,hu',ri,run_indexAt he hk h0 h1']
    ·simp only[qt,e1,e2];rw[aC rfl];simp only[aK];exact⟨_,rfl,fun _=>⟨g,_,_,hφ,by rw[JQ]; simp[Nat.add_mul]⟩⟩
  ·exact h.elim
 ·exact h.elim
theorem ajc(R:Rel F M E s a){ty:Nat}{x i:Operand}{x' i':X}(hx:bD x=some x')(hi:bD i=some i'){o:Oper}
  (ho:o.op= .index ty x i) (ht:P.underlying ty=some .string) (h:qc s (.ch x' i')):y8 P E a o (qt s (.ch x' i')):=by
 have rx:=dK R hx; have ri:=dK R hi;simp only[qc] at h;split at h
 ·rename_i b kd n e1 e2;rw[e1,aV] at rx; rw[e2,aV] at ri;obtain⟨h0,h1⟩:=h;have hlt:n.toNat<b.size:=by omega
  have hb:b[n.toNat]? =some (b[n.toNat]'hlt):=by simp[getElem?_pos,hlt]
  refine⟨.int .u8 (b[n.toNat]'hlt).toNat,?_,?_⟩
  ·simp[execOp,ho,rx,ri,Instr.index,asIntOf,underlying,ht,h0,hb]
  ·simp only[qt,e1,e2,aV]
   have:b.data.getD n.toNat 0=b[n.toNat]'hlt:=by
    rw[dC,eI (by simpa using hlt)]; rfl
   rw[this]
 ·exact h.elim
theorem q_ld(R:Rel F M E s a){ty k:Nat}{x:Operand}{x':X}(hx:bD x=some x'){o:Oper}
  (ho:o.op= .load ty x) (hk:kindOf P ty=some k) (h:qc s (.ld k x')):y8 P E a o (qt s (.ld k x')):=by
 have rx:=dK R hx
 have key: ∀ (t:T) (b off:Nat) (cur:Array Value) (e:TypeId) (m:Nat×Nat),E.w.heap[b]? =some (.cells cur e m)->0<bn k->t.kd=k ->
   off+bn k<=cur.size->aK E t ((cur.toList.drop off).take (bn k))->a.eval x= .pointer (some ⟨b,off,none⟩)->y8 P E a o t:=by
  intro t b off cur e m hh hpos hkd hl hr ha;obtain⟨g1,g2⟩:=GU (P:=P) (w:=E.w) hk hh hl;by_cases h0:k=0
  ·obtain⟨v,hv,hrun⟩:=g2 h0;refine⟨v,by simp[execOp,ho,ha,Instr.loadAt,Instr.sureAddr,hrun],.inr ⟨by rw[hkd,h0],?_⟩⟩;subst h0;simp only[bn] at hr hl;rw[eE (by simp; omega),List.take_succ_cons,List.take_zero] at hr
   have:cur.toList[off]'(by simp; omega)=v:=by
    rw[cV] at hv; obtain⟨_,hv⟩:=hv; simpa using hv
   rwa [this] at hr
  ·exact⟨_,by simp[execOp,ho,ha,Instr.loadAt,Instr.sureAddr,g1 h0]; rfl,.inl ⟨by rw[hkd]; exact h0,_,rfl,by simpa using hr⟩⟩
 simp only[qc] at h;split at h
 ·rename_i k' t e1;simp only[aD,bo,cI] at h;obtain⟨rfl,hpos⟩:=h;rw[e1,aC rfl] at rx;simp only[aK] at rx;obtain⟨b,off,cur,e,m,hu,hS,hh,hkd,hid,hl,hr⟩:=rx;simp only[bv,br] at hl;simp only[qt,e1];exact key t b off cur e m hh hpos hkd (by omega) hr (by simpa using hu)
 ·rename_i i j off e1;split at h
  ·rename_i ob hob;obtain⟨hj,hcond⟩:=h;rw[e1,aC rfl] at rx;simp only[aK] at rx;obtain⟨u,hu,hlive⟩:=rx;have fV:E.h i=some ob:=by rw[R.he]; exact hob
   obtain⟨b,n,c,hφ,hu'⟩:=hlive (by rw[fV]; rfl);obtain⟨hok,JQ,hsz⟩:=R.hk.obs i ob fV;rcases(hok.of_slice hφ).1 with ⟨ad,_,hnil⟩|⟨g,c',cur,hv,hc,_,hh,hcs,hr⟩
   ·rw[hnil] at hj; simp at hj
   ·rw[hφ] at hv;have hbg:b=g:=by simp at hv; exact hv.1
    subst hbg;have ha:a.eval x= .pointer (some ⟨b,j*bn ob.k+off,none⟩):=by rw[<- JQ,<- hu']; simpa using hu
    obtain⟨r1,r2,r3,r4⟩:=vS hr hj;simp only[br] at r2;simp only[qt,e1,hob];cases hw:(off==0&&ob.k==k) with
    |true =>
     simp only[aD,bo] at hw;obtain⟨rfl,rfl⟩:=hw;simp only[bS];exact key _ b _ cur ob.ty (0,0) hh hsz r1 (by omega) (by simpa using r4) ha
    |false =>
     rw[hw,cv,aD,bl,cE] at hcond;simp only[bB];have agI:(ob.l.getD j .any).kd≠0:=by rw[r1]; exact hcond.1
     have hp:=O4 r4 agI (off:=off) (k:=k) (by rw[<- qp,r1]; exact hcond.2);have hpo:=hcond.2;simp only[qh,em] at hpo;by_cases hpos:0<bn k
     ·refine key _ b _ cur ob.ty (0,0) hh hpos hp.2.1 (by omega) ?_ ha;have h1:=hp.1;rw[List.drop_take,List.take_take,dE,ep (by omega)] at h1;exact h1
     ·have hk1:k=1:=by
       cases k with
       |zero=>simp[bn] at hpos
       |succ m=>simp only[bn] at hpos; omega
      subst hk1;obtain⟨g1,_⟩:=GU (P:=P) (w:=E.w) hk hh (off:=j*bn ob.k+off) (by have e0:bn 1=0:=rfl; rw[e0] at hpo ⊢; omega);refine⟨_,by simp[execOp,ho,ha,Instr.loadAt,Instr.sureAddr,g1 (by omega)]; rfl,.inl ⟨by rw[hp.2.1]; omega,_,rfl,?_⟩⟩;simp[T.part,aK,aS,bn]
  ·exact h.elim
 ·exact h.elim
theorem Kt{at':Array TypeId}{t:TypeId}{x:Operand}{o:Oper}(ho:o.op= .call {callee:=.builtin .len,args:= #[x],argTypes:=at'})(h0:at'[0]? =some t){n:Nat}
  (h:(P.underlying t=some .string/\ ∃ b,a.eval x= .string b/\b.size=n)\/(∃ e,P.underlying t=some (.slice e)/\ ∃ ad c,a.eval x= .slice ad n c)) :
  (execOp a.eval o).run P E.w= .ok (.value (.int .i64 n)) E.w:=by
 rcases h with ⟨h1,b,h2,rfl⟩|⟨e,h1,ad,c,h2⟩ <;>
  simp[execOp,ho,resolve,invoke,builtin,Builtin.len_,h0,h2,underlying,h1,goInt]
theorem q_len(R:Rel F M E s a){at':Array TypeId}{t:TypeId}{str:Bool}{x:Operand}{x':X}(hx:bD x=some x'){o:Oper}
  (ho:o.op= .call {callee:=.builtin .len,args:= #[x],argTypes:=at'}) (h0:at'[0]? =some t)
  (ht:if str then P.underlying t=some .string else ∃ e,P.underlying t=some (.slice e)) (h:qc s (.len str x')):y8 P E a o (qt s (.len str x')):=by
 have rx:=dK R hx;simp only[qc] at h;split at h
 ·rename_i k f l e1;subst h;rw[e1,aC rfl] at rx;simp only[aK] at rx;obtain⟨ad,c,hu,_⟩:=rx;simp only[cz,cP] at ht;obtain⟨e,ht⟩:=ht;refine⟨.int .i64 l.length,Kt ho h0 (.inr ⟨e,ht,ad,c,by simpa using hu⟩),by simp only[qt,e1,aV]⟩
 ·rename_i oo e1;split at h
  ·rename_i ob hob;obtain⟨rfl,hnm⟩:=h;rw[e1,aC rfl] at rx;simp only[aK] at rx;obtain⟨u,hu,hlive⟩:=rx;have fV:E.h oo=some ob:=by rw[R.he]; exact hob
   have hφ:=hlive (by rw[fV]; rfl);obtain⟨hok,JQ,hsz⟩:=R.hk.obs oo ob fV;have ha:a.eval x=E.φ oo:=by rw[<- hφ]; simpa using hu
   simp only[cz,cP] at ht;obtain⟨e,ht⟩:=ht;refine⟨.int .i64 ob.l.length,Kt ho h0 (.inr ⟨e,ht,?_⟩),by simp only[qt,e1,hob,aV]⟩;rcases hok.row hnm with ⟨ad,hv,hnil⟩|⟨g,c,cur,hv,_⟩
   ·exact⟨ad,0,by rw[ha,hv,hnil]; rfl⟩
   ·exact⟨_,_,by rw[ha,hv]⟩
  ·exact h.elim
 ·rename_i oo lo hi' e1;obtain⟨rfl,hsome⟩:=h;rw[e1,aC rfl] at rx;simp only[aK] at rx;obtain⟨u,hu,hlive⟩:=rx;obtain⟨ad,m,c,hφ,hl1,hl2,hl3,hu'⟩:=hlive (by rw[R.he]; exact hsome);have ha:a.eval x=u:=by simpa using hu
  simp only[cz,cP] at ht;obtain⟨e,ht⟩:=ht;exact⟨.int .i64 ((hi'-lo:Nat):Int),Kt ho h0 (.inr ⟨e,ht,_,_,by rw[ha,hu']⟩),by simp only[qt,e1,aV]⟩
 ·rename_i b e1;subst h;rw[e1,aV] at rx;simp only[cW] at ht;exact⟨.int .i64 b.size,Kt ho h0 (.inl ⟨ht,b,rx,rfl⟩),by simp only[qt,e1,aV]⟩
 ·exact h.elim
theorem ajd(R:Rel F M E s a){at':Array TypeId}{x y:Operand}{x' y':X}(hx:bD x=some x')(hy:bD y=some y'){o:Oper}
  (ho:o.op= .call {callee:=.builtin .max,args:= #[x,y],argTypes:=at'}) (h:qc s (.mx x' y')):y8 P E a o (qt s (.mx x' y')):=by
 have rx:=dK R hx; have ry:=dK R hy;simp only[qc] at h;split at h
 ·rename_i k n k' m e1 e2;rw[e1,aV] at rx; rw[e2,aV] at ry;refine⟨.int k (if n<m then m else n),?_,by simp only[qt,e1,e2,aV]⟩;simp[execOp,ho,resolve,invoke,builtin,Builtin.max_,Builtin.max2,rx,ry]
 ·exact h.elim
theorem aje(R:Rel F M E s a){i:Nat}{x:Operand}{x':X}(hx:bD x=some x'){o:Oper}(ho:o.op= .extract x i)(h:qc s (.ex x' i)):y8 P E a o (qt s (.ex x' i)):=by
 have rx:=dK R hx;simp only[qc] at h;split at h
 ·rename_i l e1;rw[e1,aC rfl] at rx;simp only[aK] at rx;obtain⟨cs,hu,hr⟩:=rx;have ha:a.eval x= .tuple cs:=by simpa using hu
  have hlen:=mJ hr;simp only[br] at hlen;rw[cI] at h;have hg:=yx hr i;have hci:cs[i]? =some (cs[i]'(by omega)):=by simp
  refine⟨cs[i]'(by omega),by simp[execOp,ho,ha,Instr.extract,hci],?_⟩;simp only[qt,e1];have e2:l.getD i T.un=l.getD i .any:=by simp[List.getD_eq_getElem?_getD,h]
  have e3:cs.toList.getD i undef=cs[i]'(by omega):=by simp[List.getD_eq_getElem?_getD,hci]
  rw[e2,e3] at hg; exact hg
 ·exact h.elim
theorem yD{xs:List Operand}{xs':List X}(h:qw xs=some xs')(R:Rel F M E s a):bg E (xs'.map s.ev) (xs.map a.eval)/\T.aN M (xs'.map s.ev):=by
 induction xs generalizing xs' with
 |nil=>cases h; simp[bg,T.aN]
 |cons x r ih =>
  simp only[qw] at h;split at h
  ·rename_i x' r' h1 h2;cases h;obtain⟨i1,i2⟩:=ih h2;rw[bp,bp,bW];exact⟨⟨_,_,rfl,dK R h1,i1⟩,by simp only[T.aN]; exact⟨lJ R h1,i2⟩⟩
  ·cases h
theorem SI{t:T}{v:Value}(hk:oD F E)(h:jM E t v)(h1:t.zZ E.h=true):t.kd=0/\v.oneCell'=true/\aK E t [v]:=by
 have hkd:t.kd=0:=by cases t<;>simp_all[T.zZ,T.kd]
 rw[aC hkd] at h;refine⟨hkd,?_,h⟩;cases t with
 |lit u=>simp only[aK] at h; simp only[T.zZ] at h1; simp at h; rw[h]; exact h1
 |sl k f l=>simp only[aK] at h; obtain⟨ad,c,hu,_⟩:=h; simp at hu; rw[hu]; rfl
 |ref k t=>simp only[aK] at h; obtain⟨b,off,cur,e,m,hu,_⟩:=h; simp at hu; rw[hu]; rfl
 |fn f cap =>
  simp only[aK] at h;rcases h with ⟨_,cs,hu,_⟩|⟨_,p,_,_,hu,_⟩<;>simp at hu<;>rw[hu]
  ·rcases O5 f cs with ⟨_,h1⟩|⟨_,h1⟩<;>rw[h1]<;>rfl
  ·rfl
 |own i =>
  simp only[aK] at h; obtain⟨u,hu,hl⟩:=h;simp only[T.zZ] at h1;have:=hl h1;simp at hu; rw[hu,this];obtain⟨ob,hob⟩:=am.1 h1;rcases(hk.obs i ob hob).1 with ⟨_,⟨ad,hv,_⟩|⟨g,c,cur,hv,_⟩⟩|⟨_,g,es,cl,hv,_⟩<;>rw[hv]<;>rfl
 |ptr i j off =>
  simp only[aK] at h; obtain⟨u,hu,hl⟩:=h;simp only[T.zZ] at h1;obtain⟨b,n,c,_,hu'⟩:=hl h1;simp at hu; rw[hu,hu']; rfl
 |oG i lo hi =>
  simp only[aK] at h; obtain⟨u,hu,hl⟩:=h;simp only[T.zZ] at h1;obtain⟨ad,n,c,_,_,_,_,hu'⟩:=hl h1;simp at hu; rw[hu,hu']; rfl
 |agg l=>simp[T.zZ] at h1
 |bU l=>simp[T.zZ] at h1
 |any=>simp[T.zZ] at h1
theorem yE{t:T}{v:Value}(hk:oD F E)(h:jM E t v)(h1:t.kW E.h=true):aS E t.cells v.cells.toList:=by
 refine VN h fun hkd=>?_
 cases t with
 |agg l=>simp[T.kd] at hkd
 |_=>exact(SI hk h h1).2.1
theorem Y9(hk:oD F E): ∀ {ts:List T} {vs:List Value},bg E ts vs->Bf E.h ts=true->aS E ts vs:=by
 intro ts;induction ts with
 |nil=>intro vs h _; simp[bg] at h; subst h; simp[aS]
 |cons t ts ih =>
  intro vs h h1;rw[bW] at h;obtain⟨v,r,rfl,h2,h3⟩:=h;simp only[Bf,aD] at h1;obtain⟨g1,g2,g3⟩:=SI hk h2 h1.1;simp only[aS];exact⟨g1,v,r,rfl,g2,g3,ih h3 h1.2⟩
theorem ajf(R:Rel F M E s a){f:FuncId}{first cap:Array Operand}{cap':List X}(hc:qw cap.toList=some cap'){o:Oper}
  (ho:o.op= .makeFunc (.func f) first cap) (hf:first.size=0) (h:qc s (.mf f cap')):y8 P E a o (qt s (.mf f cap')):=by
 have hfirst:first= #[]:=Array.eq_empty_of_size_eq_zero hf;subst hfirst;simp only[qc,aD,cI] at h;obtain⟨h,hlt⟩:=h;refine⟨.func (.func f) #[] (cap.map a.eval),by simp[execOp,ho,Instr.makeFunc],?_⟩;simp only[qt];rw[aC rfl];simp only[aK];refine .inl ⟨cI.mpr (Nat.lt_trans hlt (by decide)),_,by rw[LK hlt],?_⟩;rw[<- R.he] at h;have:=Y9 R.hk (yD hc R).1 h;simpa using this
theorem ajg(R:Rel F M E s a){f:FuncId}{first cap:Array Operand}{x:Operand}{x':X}(hx:bD x=some x'){o:Oper}
  (ho:o.op= .makeFunc (.func f) first cap) (hf:first.toList=[x]) (hc:cap.toList=[]) (h:qc s (.mb f x')):y8 P E a o (qt s (.mb f x')):=by
 have hfirst:first= #[x]:=gP (by simpa using hf);have hcap:cap= #[]:=gP (by simpa using hc);subst hfirst hcap;have rx:=dK R hx;simp only[qc] at h;split at h
 ·rename_i l e1;rw[e1,Ac] at rx;obtain⟨cs,hv,hr⟩:=rx;refine⟨.func (.func f) #[a.eval x] #[],by simp[execOp,ho,Instr.makeFunc],?_⟩;simp only[qt,e1];rw[aC rfl];simp only[aK];exact .inl ⟨cI.mpr (by have:f<4096:=h; show f+4096<8192; exact Nat.add_lt_add_right this 4096),cs,by rw[agE h,hv],hr⟩
 ·exact h.elim
end ops
section
variable {P:Program} {F:Fr P} {M:Nat->Prop} {E:Env} {s:AS} {a:Act}
def Qq(P:Program)(t:TypeId)(xs:List Int):Value:=if kindOf P t=some 0 then .int .i64 (xs.getD 0 0) else .agg (xs.map (Value.int .i64)).toArray
theorem EU{t:TypeId}{k:Nat}(hk:kindOf P t=some k){X:List Int}{off n:Nat}(hn:n=bn k)(h:off+n<=X.length)(w:World) :
  (part t (X.map (Value.int .i64)).toArray off).run P w= .ok (Qq P t ((X.drop off).take n)) w:=by
 simp only[part,Sem.run_bind,Bc hk,Result.andThen_ok];unfold Qq;rw[hk];cases k with
 |zero =>
  simp only[bn] at hn;subst hn;have hlt:off<X.length:=by omega
  simp only[bne_self_eq_false,cz,cP,cW,List.getElem?_toArray,cM,bE hlt,bu,Sem.run_pure,Result.ok.injEq,Value.int.injEq,gH,and_true];simp[List.getD_eq_getElem?_getD,hlt]
 |succ m =>
  have hne: ¬ (some (m+1)=some 0):=by simp
  have hb:((m+1) !=0)=true:=by simp
  rw[av hne];simp only[hb,cW,Sem.run_bind,jc hk,Result.andThen_ok,Sem.run_pure,Result.ok.injEq,Value.agg.injEq,and_true];apply gP;simp[hn,List.extract_eq_take_drop,List.map_take,List.map_drop]
theorem Za: ∀ {d:Nat} {t:TypeId} {n:Nat},Bl P d t=some n-> ∃ k,kindOf P t=some k/\n=bn k:=by
 intro d;cases d with
 |zero=>intro t n h; cases h
 |succ d =>
  intro t n h;simp only[Bl] at h;split at h
  ·rename_i h1 h2; cases h; exact⟨0,h2,rfl⟩
  ·rename_i fs k h1 h2;split at h
   ·split at h
    ·split at h
     ·rename_i h3; cases h; exact⟨k,h2,by rw[h3]; rfl⟩
     ·cases h
    ·cases h
   ·cases h
  ·cases h
theorem Oc{g:TypeId->Option Nat}{d:Nat}(hg: ∀ t n,g t=some n->(∃ k,kindOf P t=some k/\n=bn k)/\ ∀ (xs ys:List Int),xs.length=n->ys.length=n-> ∀ w,(Op.equalIn d t (Qq P t xs) (Qq P t ys)).run P w= .ok (decide (xs=ys)) w)
  {X Y:List Int} {N:Nat} (hX:X.length=N) (hY:Y.length=N): ∀ {fs:List Field} {off:Nat},LH g fs off=some N->off<=N/\ ∀ w,(Op.eqFields d (X.map (Value.int .i64)).toArray (Y.map (Value.int .i64)).toArray fs).run P w= .ok (decide (X.drop off=Y.drop off)) w:=by
 intro fs;induction fs with
 |nil =>
  intro off h;simp only[LH,bc] at h;subst h;refine⟨bO _,fun w=>?_⟩;rw[fv (by omega),fv (by omega)];simp[Op.eqFields]
 |cons f fs ih =>
  intro off h;simp only[LH] at h;split at h
  ·rename_i hf;obtain⟨hnm,rfl⟩:=hf;split at h
   ·rename_i n hn;obtain⟨⟨k,hk,hnk⟩,hrun⟩:=hg _ _ hn;obtain⟨hle,hrest⟩:=ih h;refine⟨by omega,fun w=>?_⟩;rw[Op.eqFields,ba hnm];simp only[Sem.run_bind,EU hk hnk (X:=X) (off:=f.offset) (by omega),EU hk hnk (X:=Y) (off:=f.offset) (by omega),Result.andThen_ok];rw[hrun _ _ (by simp; omega) (by simp; omega) w];simp only[Result.andThen_ok];have hsplit: ∀ Z:List Int,Z.drop f.offset=(Z.drop f.offset).take n++Z.drop (f.offset+n):=fun Z=>by rw[<- dE]; exact(bx n _).symm
    by_cases he:(X.drop f.offset).take n=(Y.drop f.offset).take n
    ·simp only[he,decide_true,Bool.not_true,cz,cP,hrest]
     congr 1
     rw[hsplit X,hsplit Y,he];simp
    ·have hne: ¬ (X.drop f.offset=Y.drop f.offset):=fun e=>he (by rw[e])
     simp[he,hne]
   ·cases h
  ·cases h
theorem SK: ∀ {d:Nat} {t:TypeId} {n:Nat},Bl P d t=some n-> ∀ e,d<=e-> ∀ (xs ys:List Int),xs.length=n->ys.length=n-> ∀ w,(Op.equalIn e t (Qq P t xs) (Qq P t ys)).run P w= .ok (decide (xs=ys)) w:=by
 intro d;induction d with
 |zero=>intro t n h; cases h
 |succ d ih =>
  intro t n h e he xs ys hx hy w;obtain⟨e,rfl⟩: ∃ e',e=e'+1:=⟨e-1,by omega⟩
  have hfl:=h;simp only[Bl] at h;split at h
  ·rename_i h1 h2;cases h;simp only[Qq,h2,cW];rw[run_equalIn_int w e t .i64 .i64 _ _ h1];match xs,ys,hx,hy with
   |[x],[y],_,_=>simp; rfl
  ·rename_i fs k h1 h2;split at h
   ·rename_i hst;split at h
    ·rename_i m hm;split at h
     ·rename_i hk;cases h;have hk0: ¬ (kindOf P t=some 0):=by rw[h2,hk]; simp
      simp only[Qq,av hk0];have hfo:P.fieldsOf t=fs:=by simp[Program.fieldsOf,h1]
      rw[run_equalIn_struct w e t _ _ (by rw[hfo]; exact h1) hst.1,hfo];have:=(Oc (P:=P) (g:=Bl P d) (d:=e) (fun t' n' h'=>⟨Za h',ih h' e (by omega)⟩) hx hy hm).2 w;simpa using this
     ·cases h
    ·cases h
   ·cases h
  ·cases h
def zC:T->Int
 | .lit (.int _ n)=>n
 |_=>0
theorem LP: ∀ {l:List T} {vs:List Value},qX l=true->aS E l vs->vs=(l.map zC).map (Value.int .i64):=by
 intro l;induction l with
 |nil=>intro vs _ h; simpa [aS] using h
 |cons t ts ih =>
  intro vs ha h;simp only[aS] at h;obtain⟨_,v,r,rfl,_,h1,h2⟩:=h;cases t with
  |lit u =>
   cases u with
   |int k n =>
    cases k<;>simp only[qX] at ha<;>first|(cases ha; done)|skip
    rw[ih ha h2];simp only[aK] at h1;simp at h1;simp[zC,h1]
   |_=>simp[qX] at ha
  |_=>simp[qX] at ha
theorem Zb: ∀ {l l':List T},qX l=true->qX l'=true->uQ l l'=decide (l.map zC=l'.map zC):=by
 intro l;induction l with
 |nil=>intro l' _ h; cases l' with
  |nil=>rfl
  |cons t ts=>simp[uQ]
 |cons t ts ih =>
  intro l' ha hb;cases t with
  |lit u =>
   cases u with
   |int k n =>
    cases k<;>simp only[qX] at ha<;>first|(cases ha; done)|skip
    cases l' with
    |nil=>simp[uQ]
    |cons t' ts' =>
     cases t' with
     |lit u' =>
      cases u' with
      |int k' n' =>
       cases k'<;>simp only[qX] at hb<;>first|(cases hb; done)|skip
       simp only[uQ,ih ha hb,bp,zC,eB];rw[cF]; simp
      |_=>simp[qX] at hb
     |_=>simp[qX] at hb
   |_=>simp[qX] at ha
  |_=>simp[qX] at ha
theorem af6(R:Rel F M E s a){op:BinOp}{t ty':TypeId}{fs:Array Field}{ne:Bool}{n:Nat}{x y:Operand}{x' y':X}(hx:bD x=some x')(hy:bD y=some y'){o:Oper}
  (ho:o.op= .binOp op t x y ty') (hop:op=if ne then .neq else .eql) (hs:P.underlying t=some (.struct fs)) (ht:Bl P 20 t=some n) (h:qc s (.eqs ne n x' y')):y8 P E a o (qt s (.eqs ne n x' y')):=by
 have rx:=dK R hx; have ry:=dK R hy;simp only[qc] at h;split at h
 ·rename_i l l' e1 e2;simp only[aD,bo] at h;obtain⟨⟨⟨h1,h2⟩,h3⟩,h4⟩:=h;rw[e1,Ac] at rx; rw[e2,Ac] at ry;obtain⟨cs,hcs,hr⟩:=rx;obtain⟨cs',hcs',hr'⟩:=ry;have g1:=LP h1 hr;have g2:=LP h2 hr';have hg:P.eqGuardType P.depth t=false:=by
   unfold Bl at ht;rw[hs] at ht;generalize kindOf P t=kk at ht;cases kk with
   |none=>simp at ht
   |some k =>
    simp only at ht;by_cases hq:P.stoodInHeld t=false/\P.eqGuardType P.depth t=false
    ·exact hq.2
    ·rw[av hq] at ht; cases ht
  have hk0: ¬ (kindOf P t=some 0):=by
   unfold kindOf;rw[hs];cases P.info? t with
   |none=>simp
   |some i=>simp only; split<;>simp
  have heq:=SK ht Op.maxDepth (by unfold Op.maxDepth; omega) (l.map zC) (l'.map zC) (by simp[h3]) (by simp[h4]) E.w;simp only[Qq,av hk0] at heq;have c1:(List.map (Value.int IntKind.i64) (List.map zC l)).toArray=cs:=by rw[<- g1]
  have c2:(List.map (Value.int IntKind.i64) (List.map zC l')).toArray=cs':=by rw[<- g2]
  rw[c1,c2] at heq;refine⟨.bool (bif ne then !(uQ l l') else uQ l l'),?_,by simp only[qt,e1,e2,aV]⟩;rw[Zb h1 h2];have hgd:(eqGuard op t x y (.agg cs) (.agg cs')).run P E.w= .ok () E.w:=by
   subst hop;unfold eqGuard;cases ne<;>simp[hg]
  cases ne
  ·simp only[hop,cz,cP] at ho hgd ⊢;simp only[execOp,ho,hcs,hcs',hgd,binOp,Sem.run_bind,Sem.run_pure,Result.andThen_ok,Op.equal,heq,bB]
  ·simp only[hop,cW] at ho hgd ⊢;simp only[execOp,ho,hcs,hcs',hgd,binOp,Sem.run_bind,Sem.run_pure,Result.andThen_ok,Op.equal,heq,bS]
 ·exact h.elim
end
inductive SL{α β:Type}(R:α->β->Prop):List α->List β->Prop
 |nil:SL R [] []
 |cons {a:α} {b:β} {as:List α} {bs:List β}:R a b->SL R as bs->SL R (a::as) (b::bs)
section ops
variable {P:Program} {F:Fr P} {M:Nat->Prop} {E:Env} {s:AS} {a:Act}
theorem SN(off:Nat): ∀ (xs:List Value) (n:Nat) (cs:Array Value),off+n+xs.length<=cs.size ->
  ((xs.zipIdx n).foldl (fun(cs:Array Value) (p:Value×Nat)=>cs.setIfInBounds (off+p.2) p.1) cs).toList=cs.toList.take (off+n)++xs++cs.toList.drop (off+n+xs.length)
 |[],n,cs,_=>by simp
 |x::xs,n,cs,h=>by
  simp only[bN] at h;rw[List.zipIdx_cons,dq,SN off xs (n+1) _ (by simp; omega)];simp only[Array.toList_setIfInBounds,bN];have h1:off+n<cs.toList.length:=by simp; omega
  rw[List.drop_set_of_lt (by omega)];have e1:(cs.toList.set (off+n) x).take (off+(n+1))=cs.toList.take (off+n)++[x]:=by
   rw[<- gM,cJ,List.take_set_of_le (bO _)];simp[List.getElem?_set_self h1]
  rw[e1];have e2:off+(n+1)+xs.length=off+n+(xs.length+1):=by omega
  rw[e2]; simp
theorem O6(off:Nat)(v:Value)(cs:Array Value)(h:off+v.cells.size<=cs.size) :
  (v.cells.zipIdx.foldl (fun(cs:Array Value) (p:Value×Nat)=>cs.setIfInBounds (off+p.2) p.1) cs).toList=cs.toList.take off++v.cells.toList++cs.toList.drop (off+v.cells.size):=by
 have:=SN off v.cells.toList 0 cs (by simpa using h);rw[<- Array.foldl_toList];simpa [Array.toList_zipIdx] using this
theorem GV{z:List T}{zs:List Value}(h:aS E z zs){off n:Nat}{c:List T}{vs:List Value}(hc:aS E c vs) :
  aS E (z.take off++c++z.drop (off+n)) (zs.take off++vs++zs.drop (off+n)):=by
 rw[GN];refine⟨zs.take off++vs,_,rfl,?_,LC h _⟩;rw[GN];exact⟨_,_,rfl,Lu h _,hc⟩
theorem SQ(hk:oD F E)(place:Nat->Option (Nat×Nat)): ∀ (ps:List (Nat×Value)) (qs:List (Nat×Nat×T)) (z:List T) (cs:Array Value),
  SL (fun p q=>place p.1=some (q.1,q.2.1)/\jM E q.2.2 p.2/\q.2.2.kW E.h=true) ps qs->aS E z cs.toList->II z qs=true ->
  ∃ cs',Instr.fill place cs ps=some cs'/\aS E (JC z qs) cs'.toList:=by
 intro ps;induction ps with
 |nil=>intro qs z cs h hz _; cases h; exact⟨cs,rfl,hz⟩
 |cons p ps ih =>
  intro qs z cs h hz hf;obtain⟨i,v⟩:=p;cases h with
  |cons hpq hrest =>
   rename_i q qs;obtain⟨off,n,t⟩:=q;obtain⟨h1,h2,h3⟩:=hpq;simp only[II,aD,bo,em] at hf;obtain⟨⟨hf1,hf2⟩,hf3⟩:=hf;have hc:=yE hk h2 h3;have hlen:=mG hc;have hzl:=mG hz;simp only[br] at hlen hzl;simp only[Instr.fill,h1,JC];rw[av (by simp; omega)];refine ih _ _ _ hrest ?_ hf3;rw[O6 off v cs (by omega),hlen,hf1];exact GV hz hc
theorem zk(R:Rel F M E s a){ty:TypeId}{fs:Array Field}(hu:P.underlying ty=some (.struct fs)){places:List (Nat×Nat)}
  (hp:fs.toList.mapM (fun f=>(P.info? f.type).map fun i=>(f.offset,i.size))=some places) :
  ∀ {ps:List (Nat×Operand)} {ps':List (Nat×Nat×X)},compFields P ty ps=some ps'->yw s.hp (ps'.map fun p=>s.ev p.2.2)=true ->
   SL (fun(p:Nat×Value) (q:Nat×Nat×T)=>places.toArray[p.1]? =some (q.1,q.2.1)/\jM E q.2.2 p.2/\q.2.2.kW E.h=true)
    (ps.map fun p=>(p.1,a.eval p.2)) (ps'.map fun p=>(p.1,p.2.1,s.ev p.2.2))/\T.aN M (ps'.map fun p=>s.ev p.2.2):=by
 intro ps;induction ps with
 |nil=>intro ps' h _; cases h; exact⟨.nil,by simp[T.aN]⟩
 |cons p ps ih =>
  intro ps' h hst;obtain⟨i,x⟩:=p;simp only[compFields] at h;split at h
  ·rename_i x' off k r' h1 h2 h3;cases h;simp only[bp,yw,aD] at hst;obtain⟨i1,i2⟩:=ih h3 hst.2;refine⟨.cons ⟨?_,dK R h1,by rw[R.he]; exact hst.1⟩ i1,by simp only[bp,T.aN]; exact⟨lJ R h1,i2⟩⟩;obtain⟨fs',fd,g1,g2,g3,_,g5⟩:=LM h2;rw[hu] at g1; cases g1;obtain⟨inf,d,k1,_,k3,_⟩:=xA g3;have hlist:fs.toList[i]? =some fd:=by simpa using g2
   have hpl:places[i]? =some (off,bn k):=by
    have hgen: ∀ (l:List Field) (r:List (Nat×Nat)) (j:Nat),l.mapM (fun f=>(P.info? f.type).map fun i=>(f.offset,i.size))=some r->l[j]? =some fd->r[j]? =some (fd.offset,inf.size):=by
     intro l;induction l with
     |nil=>intro r j _ hj; simp at hj
     |cons f l ihl =>
      intro r j hm hj;simp only[List.mapM_cons,Option.bind_eq_bind,Option.pure_def,Option.bind_eq_some_iff] at hm;obtain⟨y,hy,ys,hys,hr⟩:=hm;cases hr;cases j with
      |zero=>simp at hj; subst hj; simp[k1] at hy; simp[hy]
      |succ j=>simpa using ihl ys j hys (by simpa using hj)
    rw[hgen _ _ _ hp hlist,g5,k3]
   simpa using hpl
  ·cases h
theorem O7{z:List T}: ∀ {qs:List (Nat×Nat×T)},T.aN M z->T.aN M (qs.map fun q=>q.2.2)->T.aN M (JC z qs):=by
 intro qs;induction qs generalizing z with
 |nil=>intro h _; exact h
 |cons q qs ih =>
  obtain⟨off,n,t⟩:=q;intro h h';simp only[bp,T.aN] at h';simp only[JC];exact ih (fJ.2 ⟨fJ.2 ⟨xu h _,xw h'.1⟩,Aa h _⟩) h'.2
theorem ajh(R:Rel F M E s a){ty:TypeId}{parts:Array (Nat×Operand)}{fs:Array Field}{cs:Array Value}{ps:List (Nat×Nat×X)}{o:Oper}
  (ho:o.op= .build ty parts) (hu:P.underlying ty=some (.struct fs)) (hz:zeroOf P ty=some (.agg cs)) (hc:compFields P ty parts.toList=some ps)
  (hok:kC (.agg cs)=true) (hpl:(fs.toList.mapM (fun f=>(P.info? f.type).map fun i=>(f.offset,i.size))).isSome=true)
  (h:qc s (.mk (cs.toList.map Qm) ps)):y8 P E a o (qt s (.mk (cs.toList.map Qm) ps)):=by
 obtain⟨places,hp⟩:=am.1 hpl;simp only[qc,aD] at h;obtain⟨hF,_⟩:=zk R hu hp hc h.2;have hzr:aS E (cs.toList.map Qm) cs.toList:=Eh fun v hv=>by
  simp only[kC,Value.cells,eQ] at hok;exact hok v (by simpa using hv)
 obtain⟨cs',h1,h2⟩:=SQ R.hk (fun i=>places.toArray[i]?) _ _ _ cs hF hzr h.1;have hb:P.built ty ((parts.map fun(i,x)=>(i,a.eval x)).toList)=some cs':=by
  unfold zeroOf at hz;cases hi:P.info? ty with
  |none=>simp[hi] at hz
  |some it =>
   have hz':it.zero=some (.agg cs):=by simpa [hi] using hz
   simp only[Program.built,hi,hu,hz',hp,Value.cells];simpa using h1
 refine⟨.agg cs',?_,?_⟩
 ·simp only[execOp,ho,Sem.run_bind,run_build E.w ty _ cs' hb,Result.andThen_ok,Sem.run_pure]
 ·simp only[qt]; rw[Ac]; exact⟨cs',rfl,h2⟩
theorem xC(R:Rel F M E s a){x:Option Operand}{x':Option X}(h:C9 x=some x') :
  (x=none/\x'=none)\/ ∃ y y',x=some y/\x'=some y'/\jM E (s.ev y') (a.eval y):=by
 cases x with
 |none=>cases h; exact .inl ⟨rfl,rfl⟩
 |some y =>
  simp only[C9,bX] at h;obtain⟨y',h1,rfl⟩:=h;exact .inr ⟨y,y',rfl,rfl,dK R h1⟩
theorem Ae{k:Nat}{f':Bool}{l:List T}{ad:Option Addr}{c:Nat}(hlc:l.length<=c)
  (hrow:l=[]\/ ∃ b off cur e m,ad=some ⟨b,off,none⟩/\E.S b/\E.w.heap[b]? =some (.cells cur e m)/\T.aN (fun _=>False) l/\aH E k l (cur.toList.drop off))
  {lo hi mx:Nat} (h1:lo<=hi) (h2:hi<=l.length) (h3:hi<=mx) (_h4:mx<=c) (hfull:f'=true->mx=hi) {k':Nat} (hk:k=k'\/l=[]) :
  aK E (.sl k' f' ((l.take hi).drop lo)) [.slice (if mx=lo then ad else ad.map (·.add (lo*bn k'))) (hi-lo) (mx-lo)]:=by
 simp only[aK];have hlen:((l.take hi).drop lo).length=hi-lo:=by simp; omega
 refine⟨_,_,by rw[hlen],by omega,fun hf=>by rw[hfull hf,hlen],?_⟩;by_cases he:lo=hi
 ·exact .inl (ai (by omega))
 ·have hne:l≠[]:=by rintro rfl; simp at h2; omega
  obtain⟨b,off,cur,e,m,rfl,hS,hh,hid,hr⟩:=hrow.resolve_left hne;have hk':=hk.resolve_right hne;subst hk';refine .inr ⟨b,off+lo*bn k,cur,e,m,?_,hS,hh,Aa (xu hid _) _,?_⟩
  ·rw[av (by omega)]; simp[addr_add]
  ·rw[<- dE];exact Bh (wS hr hi) lo (by simp; omega)
theorem rU{ty e k:Nat}(hu:P.underlying ty=some (.slice e))(hk:kindOf P e=some k){ad:Option Addr}{len cap:Nat}{x:Operand}{lo hi mx:Option Operand}{o:Oper}
  (ho:o.op= .slice ty x lo hi mx) (ha:a.eval x= .slice ad len cap) {l h m:Nat} (hb:(Instr.sliceBounds true len cap (lo.map a.eval) (hi.map a.eval) (mx.map a.eval)).run P E.w= .ok (l,h,m) E.w) :
  (execOp a.eval o).run P E.w= .ok (.value (.slice (if m=l then ad else ad.map (·.add (l*bn k))) (h-l) (m-l))) E.w:=by
 simp only[execOp,ho,ha,Instr.sliceAt,Instr.slice,underlying,Sem.run_bind,run_program,Result.andThen_ok,hu,Sem.run_pure,hb,jc hk]
theorem nN{kd:IntKind}{n:Int}{y:Nat}{cde:BoundsCode}(h0:0<=n)(h1:n<=y)(w:World):(Instr.sliceBound (.int kd n) y cde).run P w= .ok n.toNat w:=by
 simp[Instr.sliceBound,asIntOf,h0,h1]
theorem ah2(R:Rel F M E s a){ty e k:Nat}{x:Operand}{lo hi mx:Option Operand}{x':X}{lo' hi' mx':Option X}(hx:bD x=some x')(hlo:C9 lo=some lo')(hhi:C9 hi=some hi')(hmx:C9 mx=some mx'){o:Oper}
  (ho:o.op= .slice ty x lo hi mx) (hu:P.underlying ty=some (.slice e)) (hk:kindOf P e=some k) (h:slC k (s.ev x') (lo'.map s.ev) (hi'.map s.ev) (mx'.map s.ev)):y8 P E a o (SA k (s.ev x') (lo'.map s.ev) (hi'.map s.ev) (mx'.map s.ev)):=by
 have rx:=dK R hx;have rl:=xC R hlo; have rh:=xC R hhi; have rm:=xC R hmx;unfold slC at h
 have row: ∀ {k' f l},s.ev x'= .sl k' f l-> ∃ ad c,a.eval x= .slice ad l.length c/\l.length<=c/\(f=true->c=l.length) /\
   (l=[]\/ ∃ b off cur e m,ad=some ⟨b,off,none⟩/\E.S b/\E.w.heap[b]? =some (.cells cur e m)/\T.aN (fun _=>False) l/\aH E k' l (cur.toList.drop off)):=by
  intro k' f l e1;rw[e1,aC rfl] at rx;simp only[aK] at rx;obtain⟨ad,c,hu',h1,h2,h3⟩:=rx;exact⟨ad,c,by simpa using hu',h1,h2,h3⟩
 have qY: ∀ {x:Option Operand} {x':Option X},((x=none/\x'=none)\/ ∃ y y',x=some y/\x'=some y'/\jM E (s.ev y') (a.eval y))->x'.map s.ev=none->x=none:=by
  intro x x' h h';rcases h with ⟨h,_⟩|⟨y,y',_,rfl,_⟩
  ·exact h
  ·simp at h'
 have yF: ∀ {x:Option Operand} {x':Option X} {kd n},((x=none/\x'=none)\/ ∃ y y',x=some y/\x'=some y'/\jM E (s.ev y') (a.eval y))->x'.map s.ev=some (.lit (.int kd n))->x.map a.eval=some (.int kd n):=by
  intro x x' kd n h h';rcases h with ⟨_,rfl⟩|⟨y,y',rfl,rfl,h⟩
  ·simp at h'
  ·simp only[bu,bc] at h' ⊢; rw[h',aV] at h; exact h
 split at h
 ·rename_i k' f l e1 e2 e3 e4;obtain⟨ad,c,ha,hlc,hf,hrow⟩:=row e1;have n1:=qY rl e2; have n2:=qY rh e3; have n3:=qY rm e4;subst n1 n2 n3;refine⟨_,rU hu hk ho ha (l:=0) (h:=l.length) (m:=c) (by simp[Instr.sliceBounds]),?_⟩;simp only[SA,e1,e2,e3,e4];rw[aC rfl];have:=Ae (f':=f) hlc hrow (lo:=0) (hi:=l.length) (mx:=c) (by omega) (by omega) hlc (by omega) hf h;simpa using this
 ·rename_i k' f l kd n e1 e2 e3 e4;obtain⟨hkk,h0,h1⟩:=h;obtain⟨ad,c,ha,hlc,hf,hrow⟩:=row e1;have n1:=yF rl e2; have n2:=qY rh e3; have n3:=qY rm e4;subst n2 n3;refine⟨_,rU hu hk ho ha (l:=n.toNat) (h:=l.length) (m:=c) (by simp[Instr.sliceBounds,n1,nN h0 h1]),?_⟩;simp only[SA,e1,e2,e3,e4];rw[aC rfl];have:=Ae (f':=f) hlc hrow (lo:=n.toNat) (hi:=l.length) (mx:=c) (by omega) (by omega) hlc (by omega) hf hkk;simpa using this
 ·rename_i k' f l kd n e1 e2 e3 e4;obtain⟨hkk,h0,h1⟩:=h;obtain⟨ad,c,ha,hlc,hf,hrow⟩:=row e1;have n1:=qY rl e2; have n2:=yF rh e3; have n3:=qY rm e4;subst n1 n3;refine⟨_,rU hu hk ho ha (l:=0) (h:=n.toNat) (m:=c) (by simp[Instr.sliceBounds,n2,nN h0 (show n<=(c:Int) by omega)]),?_⟩;simp only[SA,e1,e2,e3,e4];rw[aC rfl];have:=Ae (f':=(f&&decide (n=l.length))) hlc hrow (lo:=0) (hi:=n.toNat) (mx:=c) (by omega) (by omega) (by omega) (by omega) (fun hq=>by simp only[aD,ab] at hq; have:=hf hq.1; omega) hkk;simpa using this
 ·rename_i k' f l kd n kd' n' e1 e2 e3 e4;obtain⟨hkk,h0,h1,h2⟩:=h;obtain⟨ad,c,ha,hlc,hf,hrow⟩:=row e1;have n1:=yF rl e2; have n2:=yF rh e3; have n3:=qY rm e4;subst n3
  refine⟨_,rU hu hk ho ha (l:=n.toNat) (h:=n'.toNat) (m:=c) (by
   simp[Instr.sliceBounds,n1,n2,nN (show 0<=n' by omega) (show n'<=(c:Int) by omega),nN h0 (show n<=(n'.toNat:Int) by omega)]),?_⟩
  simp only[SA,e1,e2,e3,e4];rw[aC rfl];have:=Ae (f':=false) hlc hrow (lo:=n.toNat) (hi:=n'.toNat) (mx:=c) (by omega) (by omega) (by omega) (by omega) (by simp) hkk;simpa using this
 ·rename_i k' f l kd n kd' n' e1 e2 e3 e4;obtain⟨hkk,h0,h1,h2⟩:=h;obtain⟨ad,c,ha,hlc,hf,hrow⟩:=row e1;have n1:=qY rl e2; have n2:=yF rh e3; have n3:=yF rm e4;subst n1
  refine⟨_,rU hu hk ho ha (l:=0) (h:=n.toNat) (m:=n'.toNat) (by
   simp[Instr.sliceBounds,n2,n3,nN (show 0<=n' by omega) (show n'<=(c:Int) by omega),nN h0 (show n<=(n'.toNat:Int) by omega)]),?_⟩
  simp only[SA,e1,e2,e3,e4];rw[aC rfl];have:=Ae (f':=decide (n=n')) hlc hrow (lo:=0) (hi:=n.toNat) (mx:=n'.toNat) (by omega) (by omega) (by omega) (by omega) (by simp; omega) hkk;simpa using this
 ·exact h.elim
theorem agJ(R:Rel F M E s a){ty e k:Nat}{x:Operand}{lo hi mx:Option Operand}{x':X}{lo' hi' mx':Option X}(hx:bD x=some x')(hlo:C9 lo=some lo')(hhi:C9 hi=some hi')(hmx:C9 mx=some mx'){o:Oper}
  (ho:o.op= .slice ty x lo hi mx) (hu:P.underlying ty=some (.slice e)) (hk:kindOf P e=some k) {i:Nat} {ob:Ob} (ei:s.ev x'= .own i) (hob:s.hp i=some ob) (h:GK k ob (lo'.map s.ev) (hi'.map s.ev) (mx'.map s.ev)) :
  y8 P E a o (BQ i ob (lo'.map s.ev) (hi'.map s.ev) (mx'.map s.ev))/\(BQ i ob (lo'.map s.ev) (hi'.map s.ev) (mx'.map s.ev)).ids M:=by
 have rx:=dK R hx;have ix:=lJ R hx;have rl:=xC R hlo; have rh:=xC R hhi; have rm:=xC R hmx;rw[ei,aC rfl] at rx;rw[ei] at ix;simp only[aK] at rx;obtain⟨u,hu1,hlive⟩:=rx;have fV:E.h i=some ob:=by rw[R.he]; exact hob
 have hφ:=hlive (by rw[fV]; rfl);obtain⟨hok,JQ,hsz⟩:=R.hk.obs i ob fV;have ha:a.eval x=E.φ i:=by rw[<- hφ]; simpa using hu1
 have qY: ∀ {x:Option Operand} {x':Option X},((x=none/\x'=none)\/ ∃ y y',x=some y/\x'=some y'/\jM E (s.ev y') (a.eval y))->x'.map s.ev=none->x=none:=by
  intro x x' h h';rcases h with ⟨h,_⟩|⟨y,y',_,rfl,_⟩
  ·exact h
  ·simp at h'
 have yF: ∀ {x:Option Operand} {x':Option X} {kd n},((x=none/\x'=none)\/ ∃ y y',x=some y/\x'=some y'/\jM E (s.ev y') (a.eval y))->x'.map s.ev=some (.lit (.int kd n))->x.map a.eval=some (.int kd n):=by
  intro x x' kd n h h';rcases h with ⟨_,rfl⟩|⟨y,y',rfl,rfl,h⟩
  ·simp at h'
  ·simp only[bu,bc] at h' ⊢; rw[h',aV] at h; exact h
 have row:ob.k=k-> ∃ ad c,E.φ i= .slice ad ob.l.length c/\ob.l.length<=c:=by
  intro hkk;rcases hok.row (by rw[hkk]; exact Dc hk) with ⟨ad,h1,h2⟩|⟨g,c,cur,h1,h2,_⟩
  ·exact⟨ad,0,by rw[h1,h2]; rfl,by rw[h2]; simp⟩
  ·exact⟨_,_,h1,h2⟩
 unfold GK at h;split at h
 ·rename_i kd n e2 e3 e4;obtain⟨hkk,h0,h1⟩:=h;obtain⟨ad,c,hv,hlc⟩:=row hkk;have n1:=yF rl e2; have n2:=qY rh e3; have n3:=qY rm e4;subst n2 n3;simp only[BQ,e2,e3,e4];refine⟨⟨_,rU hu hk ho (ha.trans hv) (l:=n.toNat) (h:=ob.l.length) (m:=c) (by simp[Instr.sliceBounds,n1,nN h0 h1]),?_⟩,ix⟩;rw[aC rfl]; simp only[aK];exact⟨_,rfl,fun _=>⟨ad,_,c,hv,by omega,bO _,hlc,by rw[JQ,hkk]⟩⟩
 ·rename_i kd n e2 e3 e4;obtain⟨hkk,h0,h1⟩:=h;obtain⟨ad,c,hv,hlc⟩:=row hkk;have n1:=qY rl e2; have n2:=yF rh e3; have n3:=qY rm e4;subst n1 n3;simp only[BQ,e2,e3,e4];refine⟨⟨_,rU hu hk ho (ha.trans hv) (l:=0) (h:=n.toNat) (m:=c) (by simp[Instr.sliceBounds,n2,nN h0 (show n<=(c:Int) by omega)]),?_⟩,ix⟩;rw[aC rfl]; simp only[aK];exact⟨_,rfl,fun _=>⟨ad,_,c,hv,by omega,by omega,hlc,by rw[JQ,hkk]⟩⟩
 ·rename_i kd n kd' n' e2 e3 e4;obtain⟨hkk,h0,h1,h2⟩:=h;obtain⟨ad,c,hv,hlc⟩:=row hkk;have n1:=yF rl e2; have n2:=yF rh e3; have n3:=qY rm e4;subst n3;simp only[BQ,e2,e3,e4]
  refine⟨⟨_,rU hu hk ho (ha.trans hv) (l:=n.toNat) (h:=n'.toNat) (m:=c) (by
   simp[Instr.sliceBounds,n1,n2,nN (show 0<=n' by omega) (show n'<=(c:Int) by omega),nN h0 (show n<=(n'.toNat:Int) by omega)]),?_⟩,ix⟩
  rw[aC rfl]; simp only[aK];exact⟨_,rfl,fun _=>⟨ad,_,c,hv,by omega,by omega,hlc,by rw[JQ,hkk]⟩⟩
 ·exact h.elim
end ops
end Go.Ab
