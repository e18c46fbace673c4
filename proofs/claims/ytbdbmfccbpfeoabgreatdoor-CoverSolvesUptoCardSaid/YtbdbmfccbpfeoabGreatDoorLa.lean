/-
 The abstract layer, part 1: abstract values, an intermediate code, its abstract weakest precondition, and the translation into it.
 No condition; definitions alone.
-/
import Derived.Orders
import Derived.Tactics
import Derived.Laws.AppendOwn
import Derived.Below
import Derived.Lib.LaidTab
import Derived.Lib.Space
import Derived.RangeFuncSeq
import Derived.Laws.CopyRow
import Derived.Laws.StructEq
namespace Go.Ab
theorem aD:type_of% @Bool.and_eq_true:=@Bool.and_eq_true
theorem aL:type_of% @of_decide_eq_false:=@of_decide_eq_false
theorem aM:type_of% @List.length_append:=@List.length_append
theorem aR:type_of% @List.getD_eq_getElem?_getD:=@List.getD_eq_getElem?_getD
theorem ab:type_of% @Nat.zero_le:=@Nat.zero_le
theorem ag:type_of% @decide_eq_true_eq:=@decide_eq_true_eq
theorem ai:type_of% @of_decide_eq_true:=@of_decide_eq_true
theorem am:type_of% @decide_eq_false_iff_not:=@decide_eq_false_iff_not
theorem ao:type_of% @List.eq_nil_of_length_eq_zero:=@List.eq_nil_of_length_eq_zero
theorem ap:type_of% @Int.toNat_natCast:=@Int.toNat_natCast
theorem aq:type_of% @Bool.false_ne_true:=@Bool.false_ne_true
theorem av:type_of% @List.mem_map:=@List.mem_map
theorem ax:type_of% @List.append_assoc:=@List.append_assoc
theorem bA:type_of% @Option.isSome_iff_exists:=@Option.isSome_iff_exists
theorem bB:type_of% @List.take_of_length_le:=@List.take_of_length_le
theorem bE:type_of% @List.length_take:=@List.length_take
theorem bL:type_of% @List.length_cons:=@List.length_cons
theorem bN:type_of% @List.getElem?_eq_getElem:=@List.getElem?_eq_getElem
theorem bO:type_of% @cond_false:=@cond_false
theorem bR:type_of% @Option.some.injEq:=@Option.some.injEq
theorem bS:type_of% @cond_true:=@cond_true
theorem bX:type_of% @if_neg:=@if_neg
theorem ba:type_of% @Nat.le_refl:=@Nat.le_refl
theorem bc:type_of% @List.length_map:=@List.length_map
theorem be:type_of% @List.getElem_mem:=@List.getElem_mem
theorem bh:type_of% @Option.map_eq_some_iff:=@Option.map_eq_some_iff
theorem bi:type_of% @List.getElem?_eq_some_iff:=@List.getElem?_eq_some_iff
theorem bj:type_of% @List.take_succ_eq_append_getElem:=@List.take_succ_eq_append_getElem
theorem bk:type_of% @if_pos:=@if_pos
theorem bl:type_of% @List.mem_singleton:=@List.mem_singleton
theorem bm:type_of% @Bool.or_eq_false_iff:=@Bool.or_eq_false_iff
theorem bo:type_of% @Bool.not_eq_true':=@Bool.not_eq_true'
theorem bp:type_of% @List.take_length:=@List.take_length
theorem bq:type_of% @beq_eq_false_iff_ne:=@beq_eq_false_iff_ne
theorem br:type_of% @List.mem_cons:=@List.mem_cons
theorem bt:type_of% @List.take_append_drop:=@List.take_append_drop
theorem bu:type_of% @List.all_eq_true:=@List.all_eq_true
theorem bv:type_of% @beq_iff_eq:=@beq_iff_eq
theorem bw:type_of% @List.any_eq_true:=@List.any_eq_true
theorem bx:type_of% @Option.map_some:=@Option.map_some
theorem cA:type_of% @Array.length_toList:=@Array.length_toList
theorem cB:type_of% @List.length_drop:=@List.length_drop
theorem cC:type_of% @Bool.and_eq_false_iff:=@Bool.and_eq_false_iff
theorem cD:type_of% @List.length_nil:=@List.length_nil
theorem cE:type_of% @List.getElem?_map:=@List.getElem?_map
theorem cF:type_of% @decide_eq_false:=@decide_eq_false
theorem cG:type_of% @List.map_cons:=@List.map_cons
theorem cH:type_of% @List.mem_append:=@List.mem_append
theorem cI:type_of% @List.drop_eq_nil_of_le:=@List.drop_eq_nil_of_le
theorem cJ:type_of% @decide_eq_true:=@decide_eq_true
theorem cK:type_of% @Bool.eq_iff_iff:=@Bool.eq_iff_iff
theorem cL:type_of% @List.mem_range:=@List.mem_range
theorem cM:type_of% @List.map_congr_left:=@List.map_congr_left
theorem cN:type_of% @List.append_nil:=@List.append_nil
theorem cP:type_of% @Nat.ne_of_beq_eq_false:=@Nat.ne_of_beq_eq_false
theorem cQ:type_of% @if_false:=@if_false
theorem cR:type_of% @List.take_add_one:=@List.take_add_one
theorem cS:type_of% @Bool.or_eq_true:=@Bool.or_eq_true
theorem cT:type_of% @List.map_map:=@List.map_map
theorem cU:type_of% @List.mem_of_mem_take:=@List.mem_of_mem_take
theorem cV:type_of% @List.getElem?_drop:=@List.getElem?_drop
theorem cW:type_of% @Nat.blt_eq:=@Nat.blt_eq
theorem cX:type_of% @List.getElem?_take_of_lt:=@List.getElem?_take_of_lt
theorem cY:type_of% @Nat.lt_of_lt_of_le:=@Nat.lt_of_lt_of_le
theorem ce:type_of% @List.mem_of_getElem?:=@List.mem_of_getElem?
theorem ci:type_of% @List.mem_flatMap:=@List.mem_flatMap
theorem cj:type_of% @if_true:=@if_true
theorem ck:type_of% @List.range_succ:=@List.range_succ
theorem cm:type_of% @List.map_append:=@List.map_append
theorem cn:type_of% @List.getElem?_append_left:=@List.getElem?_append_left
theorem co:type_of% @List.any_eq_false:=@List.any_eq_false
theorem cp:type_of% @Nat.mul_le_mul_right:=@Nat.mul_le_mul_right
theorem cq:type_of% @List.getElem?_set_ne:=@List.getElem?_set_ne
theorem cr:type_of% @Bool.false_or:=@Bool.false_or
theorem ct:type_of% @List.getElem?_append_right:=@List.getElem?_append_right
theorem cv:type_of% @List.flatMap_append:=@List.flatMap_append
theorem cw:type_of% @Bool.true_and:=@Bool.true_and
theorem cx:type_of% @List.length_set:=@List.length_set
theorem cy:type_of% @Nat.lt_succ_of_lt:=@Nat.lt_succ_of_lt
theorem cz:type_of% @List.Perm.refl:=@List.Perm.refl
theorem dC:type_of% @Array.getElem?_eq_some_iff:=@Array.getElem?_eq_some_iff
theorem dE:type_of% @Nat.add_mul:=@Nat.add_mul
theorem dT:type_of% @List.getElem?_eq_none:=@List.getElem?_eq_none
theorem da:type_of% @Bool.false_eq_true:=@Bool.false_eq_true
theorem db:type_of% @Nat.lt_or_ge:=@Nat.lt_or_ge
theorem dc:type_of% @Array.getD_eq_getD_getElem?:=@Array.getD_eq_getD_getElem?
theorem de:type_of% @List.ext_getElem:=@List.ext_getElem
theorem dg:type_of% @List.cons_append:=@List.cons_append
theorem di:type_of% @List.drop_drop:=@List.drop_drop
theorem dj:type_of% @List.pairwise_cons:=@List.pairwise_cons
theorem dm:type_of% @List.take_append_of_le_length:=@List.take_append_of_le_length
theorem dp:type_of% @List.Pairwise.sublist:=@List.Pairwise.sublist
theorem dq:type_of% @List.any_append:=@List.any_append
theorem dt:type_of% @congrArg:=@congrArg
theorem du:type_of% @Bool.not_eq_false':=@Bool.not_eq_false'
theorem dv:type_of% @Nat.eq_of_beq_eq_true:=@Nat.eq_of_beq_eq_true
theorem dx:type_of% @List.Perm.append_left:=@List.Perm.append_left
theorem dy:type_of% @List.mem_cons_of_mem:=@List.mem_cons_of_mem
theorem dz:type_of% @List.mem_take_iff_getElem:=@List.mem_take_iff_getElem
theorem eA:type_of% @Option.getD_some:=@Option.getD_some
theorem eB:type_of% @List.not_mem_nil:=@List.not_mem_nil
theorem eC:type_of% @List.pairwise_iff_getElem:=@List.pairwise_iff_getElem
theorem eD:type_of% @List.drop_eq_getElem_cons:=@List.drop_eq_getElem_cons
theorem eE:type_of% @Array.getElem?_eq_getElem:=@Array.getElem?_eq_getElem
theorem eI:type_of% @List.getElem_of_mem:=@List.getElem_of_mem
theorem eJ:type_of% @List.any_cons:=@List.any_cons
theorem eK:type_of% @Nat.succ_mul:=@Nat.succ_mul
theorem eL:type_of% @Bool.not_not:=@Bool.not_not
theorem eM:type_of% @Nat.le_of_ble_eq_true:=@Nat.le_of_ble_eq_true
theorem eN:type_of% @List.eq_of_mem_replicate:=@List.eq_of_mem_replicate
theorem eO:type_of% @Option.map_none:=@Option.map_none
theorem eQ:type_of% @List.mem_filter:=@List.mem_filter
theorem eR:type_of% @List.cons.injEq:=@List.cons.injEq
theorem eT:type_of% @List.pairwise_append:=@List.pairwise_append
theorem eV:type_of% @Array.all_eq_true_iff_forall_mem:=@Array.all_eq_true_iff_forall_mem
theorem eW:type_of% @List.sum_cons:=@List.sum_cons
theorem eZ:type_of% @Bool.and_self:=@Bool.and_self
theorem ee:type_of% @List.pairwise_map:=@List.pairwise_map
theorem ef:type_of% @List.length_range:=@List.length_range
theorem eh:type_of% @List.flatMap_cons:=@List.flatMap_cons
theorem ek:type_of% @Bool.eq_false_iff:=@Bool.eq_false_iff
theorem em:type_of% @List.replicate_succ:=@List.replicate_succ
theorem en:type_of% @Nat.min_eq_left:=@Nat.min_eq_left
theorem ep:type_of% @Nat.le_antisymm:=@Nat.le_antisymm
theorem et:type_of% @Nat.ble_eq:=@Nat.ble_eq
theorem ez:type_of% @Nat.le_trans:=@Nat.le_trans
theorem fL:type_of% @List.getElem_map:=@List.getElem_map
theorem fS:type_of% @List.set_cons_zero:=@List.set_cons_zero
theorem fT:type_of% @List.set_eq_of_length_le:=@List.set_eq_of_length_le
theorem fW:type_of% @List.take_sublist:=@List.take_sublist
theorem fX:type_of% @List.foldl_cons:=@List.foldl_cons
theorem fY:type_of% @List.getElem?_range:=@List.getElem?_range
theorem fb:type_of% @Classical.propComplete:=@Classical.propComplete
theorem fc:type_of% @Bool.or_false:=@Bool.or_false
theorem fe:type_of% @List.getElem?_take_eq_none:=@List.getElem?_take_eq_none
theorem ff:type_of% @forall_eq_or_imp:=@forall_eq_or_imp
theorem fg:type_of% @List.filter_cons:=@List.filter_cons
theorem fh:type_of% @List.map_replicate:=@List.map_replicate
theorem fk:type_of% @List.mem_or_eq_of_mem_set:=@List.mem_or_eq_of_mem_set
theorem fo:type_of% @List.mem_drop_iff_getElem:=@List.mem_drop_iff_getElem
theorem fp:type_of% @Nat.sub_self:=@Nat.sub_self
theorem fq:type_of% @Nat.pow_succ:=@Nat.pow_succ
theorem ft:type_of% @Nat.mul_comm:=@Nat.mul_comm
theorem fu:type_of% @Nat.pow_le_pow_right:=@Nat.pow_le_pow_right
theorem fv:type_of% @Int.mul_le_mul_of_nonneg_right:=@Int.mul_le_mul_of_nonneg_right
theorem fw:type_of% @List.drop_sublist:=@List.drop_sublist
theorem fx:type_of% @List.drop_append_of_le_length:=@List.drop_append_of_le_length
theorem fy:type_of% @List.length_eq_zero_iff:=@List.length_eq_zero_iff
theorem f5:type_of% @List.length_pos_iff:=@List.length_pos_iff
theorem f7:type_of% @List.getD_cons_zero:=@List.getD_cons_zero
theorem f8:type_of% @Nat.mul_le_mul:=@Nat.mul_le_mul
theorem f9:type_of% @Bool.not_false:=@Bool.not_false
theorem gA:type_of% @Nat.one_mul:=@Nat.one_mul
theorem gC:type_of% @List.drop_of_length_le:=@List.drop_of_length_le
theorem gD:type_of% @Nat.zero_add:=@Nat.zero_add
theorem gE:type_of% @Nat.add_zero:=@Nat.add_zero
theorem gF:type_of% @Nat.add_comm:=@Nat.add_comm
theorem gH:type_of% @List.nil_append:=@List.nil_append
theorem gL:type_of% @List.set_getElem_self:=@List.set_getElem_self
theorem gM:type_of% @List.set_append_right:=@List.set_append_right
theorem gN:type_of% @List.length_filter_le:=@List.length_filter_le
theorem gO:type_of% @List.getElem_set_self:=@List.getElem_set_self
theorem gP:type_of% @Nat.add_assoc:=@Nat.add_assoc
theorem gR:type_of% @List.all_cons:=@List.all_cons
theorem gS:type_of% @List.foldl_append:=@List.foldl_append
theorem gT:type_of% @List.mem_of_mem_drop:=@List.mem_of_mem_drop
theorem ga:type_of% @true_and:=@true_and
theorem gb:type_of% @Nat.le_of_lt:=@Nat.le_of_lt
theorem ge:type_of% @Nat.beq_refl:=@Nat.beq_refl
theorem gg:type_of% @Nat.le_add_right:=@Nat.le_add_right
theorem gh:type_of% @Int.natCast_mul:=@Int.natCast_mul
theorem gk:type_of% @Int.le_refl:=@Int.le_refl
inductive T where
 |lit (v:Value)
 |agg (l:List T)
 |sl (k:Nat) (full:Bool) (l:List T)
 |ref (k:Nat) (t:T)
 |own (i:Nat)
 |ptr (i j off:Nat)
 |pU (i lo hi:Nat)
 |fn (f:FuncId) (cap:List T)
 |dQ (l:List T)
 |any
 deriving Inhabited
@[reducible] def T.int(n:Int):T:=.lit (.int .i64 n)
@[reducible] def T.bool(b:Bool):T:=.lit (.bool b)
@[reducible] def T.nil:T:=.sl 0 true []
@[reducible] def T.un:T:=.lit (.tuple #[])
def T.cells:T->List T
 | .agg l=>l
 |t=>[t]
def T.kd:T->Nat
 | .agg l=>l.length+1
 |_=>0
def bn:Nat->Nat
 |0=>1
 |m+1=>m
structure Ob where
 ty:TypeId
 k:Nat
 l:List T
abbrev Hp:=Nat->Option Ob
def upd(h:Hp)(i:Nat)(o:Option Ob):Hp:=fun j=>if j=i then o else h j
structure AS where
 fr:List T
 hp:Hp
 nx:Nat
 pin:Nat
inductive X where
 |t (n:Nat)
 |c (v:T)
 deriving Inhabited
def AS.put(s:AS)(d:Option Tmp)(t:T):AS :=
 match d with
 |some i=> {s with fr:=s.fr.set i t}
 |none=>s
def AS.ev(s:AS):X->T
 | .t n=>s.fr.getD n T.un
 | .c v=>v
inductive oN where
 |mv (x:X)
 |pick (c a b:X)
 |bin (op:BinOp) (x y:X)
 |bb (ne:Bool) (x y:X)
 |not (x:X)
 |conv (k:IntKind) (x:X)
 |fa (off k:Nat) (x:X)
 |ia (k:Nat) (x i:X)
 |ch (x i:X)
 |ld (k:Nat) (x:X)
 |len (str:Bool) (x:X)
 |mx (x y:X)
 |mk (z:List T) (ps:List (Nat×Nat×X))
 |ms (ty k:Nat) (z:T) (n:Nat) (ps:List (Nat×X))
 |sl (k:Nat) (x:X) (lo hi mx:Option X)
 |ex (x:X) (i:Nat)
 |mf (f:FuncId) (cap:List X)
 |box (ty k:Nat) (x:X)
 |al (ty k:Nat) (z:T)
 |make (ty k bytes:Nat) (z:T) (n c:X)
 |st (k:Nat) (x v:X)
 |app (ty k bytes:Nat) (x y:X)
 |call (f:FuncId) (xs:List X)
 |jc (x:X) (xs:List X)
 |BD (x:X)
 |eqs (ne:Bool) (n:Nat) (x y:X)
 |YW (k:Nat) (x:X) (lo hi mx:Option X)
 |VK (k:Nat) (z:T) (x:X)
 |BR (ty k:Nat) (z:T) (n:Nat) (ps:List (Nat×X))
 |mb (f:FuncId) (x:X)
 |bot
 deriving Inhabited
structure aJ where
 d:Option Nat
 op:oN
 g:Option (Nat×Bool)
 fl:Bool:=false
 ne:List Nat:=[]
 ad:Bool:=false
 ar:Bool:=false
 deriving Inhabited
inductive dZ where
 |skip
 |reg (draw:Bool) (ops:List aJ)
 |seq (a b:dZ)
 |cond (c:X) (a b:dZ)
 |blk (id:Nat) (b:dZ)
 |exit (id:Nat)
 |loop (b:dZ)
 |ret
 deriving Inhabited
def T.part(x:T)(off:Nat):Nat->T
 |0=>x.cells.getD off .any
 |m+1=>.agg ((x.cells.drop off).take m)
def qH(n off k:Nat):Bool:=Nat.ble (off+bn k) n
def kEq:IntKind->IntKind->Bool
 | .i8,.i8=>true| .i16,.i16=>true| .i32,.i32=>true| .i64,.i64=>true
 | .u8,.u8=>true| .u16,.u16=>true| .u32,.u32=>true| .u64,.u64=>true
 |_,_=>false
def fnV(f:FuncId)(cs:Array Value):Value:=bif Nat.blt f 4096 then .func (.func f) #[] cs else .func (.func (f % 4096)) #[.agg cs] #[]
def afT(k:IntKind)(a b:Int):Int:=k.wrap ((BitVec.ofInt k.bits a &&& BitVec.ofInt k.bits b).toNat)
def Et(op:BinOp):Value->Value->Option Value
 | .int k a,.int k' b =>
  match kEq k k',op with
  |_,.shr=>bif decide (0<=b) then some (.int k (a.fdiv (2 ^ (min b.toNat k.bits)))) else none
  |true,.add=>some (.int k (k.wrap (a+b)))
  |true,.sub=>some (.int k (k.wrap (a-b)))
  |true,.mul=>some (.int k (k.wrap (a*b)))
  |true,.and=>some (.int k (afT k a b))
  |true,.eql=>some (.bool (a==b))
  |true,.neq=>some (.bool (a !=b))
  |true,.lss=>some (.bool (decide (a<b)))
  |true,.leq=>some (.bool (decide (a<=b)))
  |true,.gtr=>some (.bool (decide (b<a)))
  |true,.geq=>some (.bool (decide (b<=a)))
  |true,.rem=>bif decide (b=0) then none else some (.int k (a.tmod b))
  |_,_=>none
 | .string a,.string b =>
  match op with
  | .eql=>some (.bool (a.toList==b.toList))
  | .neq=>some (.bool (!(a.toList==b.toList)))
  | .add=>bif decide (((a.size+b.size:Nat):Int)<=9223372036854775807) then some (.string (a++b)) else none
  |_=>none
 |_,_=>none
def CP(c a b:T):T :=
 match c with
 | .lit (.bool t) =>
  match a,b with
  | .lit (.bool x),.lit (.bool y)=>.lit (.bool (bif t then x else y))
  |a,b=>bif t then a else b
 |_=>.any
def isBool:T->Bool
 | .lit (.bool _)=>true
 |_=>false
def inR(n:Int)(l:Nat):Prop:=0<=n/\n<l
def JA(z:List T):List (Nat×Nat×T)->List T
 |[]=>z
 |(off,n,t)::r=>JA (z.take off++t.cells++z.drop (off+n)) r
def IG(z:List T):List (Nat×Nat×T)->Bool
 |[]=>true
 |(off,n,t)::r=>(t.cells.length==n)&&(Nat.ble (off+n) z.length)&&IG (z.take off++t.cells++z.drop (off+n)) r
def tu(z:List T):List (Nat×T)->List T
 |[]=>z
 |(i,t)::r=>tu (z.set i t) r
def LG(k n:Nat):List (Nat×T)->Bool
 |[]=>true
 |(i,t)::r=>(t.kd==k)&&Nat.blt i n&&LG k n r
def T.BO(h:Hp):T->Bool
 | .lit v=>v.oneCell'
 | .own i=>(h i).isSome
 | .ptr i _ _=>(h i).isSome
 | .pU i _ _=>(h i).isSome
 | .sl _ _ _=>true
 | .ref _ _=>true
 | .fn _ _=>true
 |_=>false
def T.lC(h:Hp):T->Bool
 | .agg _=>true
 |t=>t.BO h
def xH(h:Hp):List T->Bool
 |[]=>true
 |t::ts=>t.lC h&&xH h ts
def AA(h:Hp):List T->Bool
 |[]=>true
 |t::ts=>t.BO h&&AA h ts
mutual
def T.free:T->Bool
 | .own _=>false
 | .ptr _ _ _=>false
 | .pU _ _ _=>false
 | .agg l=>T.bW l
 | .fn _ cap=>T.bW cap
 | .dQ l=>T.bW l
 |_=>true
def T.bW:List T->Bool
 |[]=>true
 |t::ts=>T.free t&&T.bW ts
end
def rG:List T->Bool
 |[]=>true
 | .lit (.int .i64 _)::r=>rG r
 |_=>false
def uJ:List T->List T->Bool
 |[],[]=>true
 | .lit (.int _ a)::r,.lit (.int _ b)::r'=>(a==b)&&uJ r r'
 |_,_=>false
def afr(n:Int):List T->Option T
 |[]=>none
 | .dQ [.lit (.int _ m),u]::r=>bif n==m then some u else afr n r
 |_::r=>afr n r
def BF(i:Nat)(ob:Ob):Option T->Option T->Option T->T
 |some (.lit (.int _ a)),none,none=>.pU i a.toNat ob.l.length
 |none,some (.lit (.int _ b)),none=>.pU i 0 b.toNat
 |some (.lit (.int _ a)),some (.lit (.int _ b)),none=>.pU i a.toNat b.toNat
 |_,_,_=>.any
def Gt(k:Nat)(ob:Ob):Option T->Option T->Option T->Prop
 |some (.lit (.int _ a)),none,none=>ob.k=k/\0<=a/\a<=ob.l.length
 |none,some (.lit (.int _ b)),none=>ob.k=k/\0<=b/\b<=ob.l.length
 |some (.lit (.int _ a)),some (.lit (.int _ b)),none=>ob.k=k/\0<=a/\a<=b/\b<=ob.l.length
 |_,_,_=>False
def SG(k:Nat)(x:T)(lo hi mx:Option T):T :=
 match x,lo,hi,mx with
 | .sl _ f l,none,none,none=>.sl k f l
 | .sl _ f l,some (.lit (.int _ a)),none,none=>.sl k f (l.drop a.toNat)
 | .sl _ f l,none,some (.lit (.int _ b)),none=>.sl k (f&&decide (b=l.length)) (l.take b.toNat)
 | .sl _ _ l,some (.lit (.int _ a)),some (.lit (.int _ b)),none=>.sl k false ((l.take b.toNat).drop a.toNat)
 | .sl _ _ l,none,some (.lit (.int _ b)),some (.lit (.int _ m))=>.sl k (decide (b=m)) (l.take b.toNat)
 |_,_,_,_=>.any
def slC(k:Nat)(x:T)(lo hi mx:Option T):Prop :=
 match x,lo,hi,mx with
 | .sl k' _ l,none,none,none=>k'=k\/l=[]
 | .sl k' _ l,some (.lit (.int _ a)),none,none=>(k'=k\/l=[])/\0<=a/\a<=l.length
 | .sl k' _ l,none,some (.lit (.int _ b)),none=>(k'=k\/l=[])/\0<=b/\b<=l.length
 | .sl k' _ l,some (.lit (.int _ a)),some (.lit (.int _ b)),none=>(k'=k\/l=[])/\0<=a/\a<=b/\b<=l.length
 | .sl k' _ l,none,some (.lit (.int _ b)),some (.lit (.int _ m))=>(k'=k\/l=[])/\0<=b/\b<=m/\m<=l.length
 |_,_,_,_=>False
def qt(s:AS):oN->T
 | .mv x=>s.ev x
 | .pick c a b=>CP (s.ev c) (s.ev a) (s.ev b)
 | .bin op x y =>
  match s.ev x,s.ev y with
  | .lit u,.lit v=>match Et op u v with|some r=>.lit r|none=>.any
  |_,_=>.any
 | .bb ne x y =>
  match s.ev x,s.ev y with
  | .lit (.bool a),.lit (.bool b)=>.lit (.bool (bif ne then !(a==b) else a==b))
  |_,_=>.any
 | .not x=>match s.ev x with| .lit (.bool b)=>.lit (.bool !b)|_=>.any
 | .conv k x=>match s.ev x with| .lit (.int _ n)=>.lit (.int k (k.wrap n))|_=>.any
 | .fa off k x =>
  match s.ev x with
  | .ptr i j o=>.ptr i j (o+off)
  | .ref _ t=>.ref k (t.part off k)
  |_=>.any
 | .ia k x i =>
  match s.ev x,s.ev i with
  | .sl _ _ l,.lit (.int _ n)=>.ref k (l.getD n.toNat .any)
  | .own o,.lit (.int _ n)=>.ptr o n.toNat 0
  | .pU o lo _,.lit (.int _ n)=>.ptr o (lo+n.toNat) 0
  |_,_=>.any
 | .ch x i =>
  match s.ev x,s.ev i with
  | .lit (.string b),.lit (.int _ n)=>.lit (.int .u8 (b.data.getD n.toNat 0).toNat)
  |_,_=>.any
 | .ld k x =>
  match s.ev x with
  | .ref _ t=>t
  | .ptr i j off =>
   match s.hp i with
   |some ob=>bif (off==0&&ob.k==k) then ob.l.getD j .any else(ob.l.getD j .any).part off k
   |none=>.any
  |_=>.any
 | .len _ x =>
  match s.ev x with
  | .sl _ _ l=>.lit (.int .i64 l.length)
  | .own o=>match s.hp o with|some ob=>.lit (.int .i64 ob.l.length)|none=>.any
  | .pU _ lo hi=>.lit (.int .i64 ((hi-lo:Nat):Int))
  | .lit (.string b)=>.lit (.int .i64 b.size)
  |_=>.any
 | .mx x y =>
  match s.ev x,s.ev y with
  | .lit (.int k a),.lit (.int _ b)=>.lit (.int k (if a<b then b else a))
  |_,_=>.any
 | .mk z ps=>.agg (JA z (ps.map fun p=>(p.1,p.2.1,s.ev p.2.2)))
 | .ms _ k z n ps=>.sl k true (tu (List.replicate n z) (ps.map fun p=>(p.1,s.ev p.2)))
 | .sl k x lo hi mx=>SG k (s.ev x) (lo.map s.ev) (hi.map s.ev) (mx.map s.ev)
 | .YW k x lo hi mx =>
  match s.ev x with
  | .own i=>match s.hp i with|some ob=>BF i ob (lo.map s.ev) (hi.map s.ev) (mx.map s.ev)|none=>.any
  |t=>SG k t (lo.map s.ev) (hi.map s.ev) (mx.map s.ev)
 | .ex x i=>match s.ev x with| .dQ l=>l.getD i .any|_=>.any
 | .mf f cap=>.fn f (cap.map s.ev)
 | .mb f x=>match s.ev x with| .agg l=>.fn (f+4096) l|_=>.any
 | .eqs ne _ x y =>
  match s.ev x,s.ev y with
  | .agg l,.agg l'=>.lit (.bool (bif ne then !(uJ l l') else uJ l l'))
  |_,_=>.any
 |_=>.any
def qc(s:AS):oN->Prop
 | .mv _=>True
 | .pick c _ _=>isBool (s.ev c)=true
 | .bin op x y =>
  match s.ev x,s.ev y with
  | .lit u,.lit v=>(Et op u v).isSome=true
  |_,_=>False
 | .bb _ x y=>(isBool (s.ev x)&&isBool (s.ev y))=true
 | .not x=>isBool (s.ev x)=true
 | .conv _ x=>match s.ev x with| .lit (.int _ _)=>True|_=>False
 | .fa off k x =>
  match s.ev x with
  | .ptr i _ _=>(s.hp i).isSome=true
  | .ref kt _=>(!(kt==0)&&qH (bn kt) off k)=true
  |_=>False
 | .ia k x i =>
  match s.ev x,s.ev i with
  | .sl k' _ l,.lit (.int _ n)=>k'=k/\inR n l.length
  | .own o,.lit (.int _ n)=>match s.hp o with|some ob=>ob.k=k/\inR n ob.l.length|none=>False
  | .pU o lo hi,.lit (.int _ n)=>match s.hp o with|some ob=>ob.k=k/\inR n (hi-lo)|none=>False
  |_,_=>False
 | .ch x i =>
  match s.ev x,s.ev i with
  | .lit (.string b),.lit (.int _ n)=>inR n b.size
  |_,_=>False
 | .ld k x =>
  match s.ev x with
  | .ref k' _=>(k'==k&&Nat.blt 0 (bn k))=true
  | .ptr i j off =>
   match s.hp i with
   |some ob=>j<ob.l.length/\((off==0&&ob.k==k)||(!(ob.k==0)&&qH (bn ob.k) off k))=true
   |none=>False
  |_=>False
 | .len str x =>
  match s.ev x with
  | .sl _ _ _=>str=false
  | .own o=>match s.hp o with|some ob=>str=false/\ob.k≠1000000007|none=>False
  | .pU i _ _=>str=false/\(s.hp i).isSome=true
  | .lit (.string _)=>str=true
  |_=>False
 | .mx x y =>
  match s.ev x,s.ev y with
  | .lit (.int _ _),.lit (.int _ _)=>True
  |_,_=>False
 | .mk z ps=>(IG z (ps.map fun p=>(p.1,p.2.1,s.ev p.2.2))&&xH s.hp (ps.map fun p=>s.ev p.2.2))=true
 | .ms _ k z n ps=>((z.kd==k)&&z.free&&LG k n (ps.map fun p=>(p.1,s.ev p.2))&&xH s.hp (ps.map fun p=>s.ev p.2)&&T.bW (ps.map fun p=>s.ev p.2)&&Nat.ble (n*bn k) 16777216&&Nat.blt 0 (bn k))=true
 | .sl k x lo hi mx=>slC k (s.ev x) (lo.map s.ev) (hi.map s.ev) (mx.map s.ev)
 | .YW k x lo hi mx =>
  match s.ev x with
  | .own i=>match s.hp i with|some ob=>Gt k ob (lo.map s.ev) (hi.map s.ev) (mx.map s.ev)|none=>False
  |t=>slC k t (lo.map s.ev) (hi.map s.ev) (mx.map s.ev)
 | .ex x i=>match s.ev x with| .dQ l=>Nat.blt i l.length=true|_=>False
 | .mf f cap=>(AA s.hp (cap.map s.ev)&&Nat.blt f 4096)=true
 | .mb f x=>match s.ev x with| .agg _=>f<4096|_=>False
 | .eqs _ n x y =>
  match s.ev x,s.ev y with
  | .agg l,.agg l'=>(rG l&&rG l'&&(l.length==n)&&(l'.length==n))=true
  |_,_=>False
 |_=>False
def bH:oN->Bool
 | .box .. =>false
 | .al .. =>false
 | .make .. =>false
 | .st .. =>false
 | .app .. =>false
 | .call .. =>false
 | .jc .. =>false
 | .BD .. =>false
 | .VK .. =>false
 | .BR .. =>false
 | .bot=>false
 |_=>true
inductive rP where
 |normal
 |exit (id:Nat)
 |ret
structure Yd where
 l:Nat
 r:Loop
 k:Nat
structure Env where
 w:World
 S:Nat->Prop
 φ:Nat->Value
 κ:Nat->Nat
 h:Hp
 y:Option Yd
mutual
def T.ids(M:Nat->Prop):T->Prop
 | .lit _=>True
 | .agg l=>T.aQ M l
 | .sl _ _ _=>True
 | .ref _ _=>True
 | .own i=>M i
 | .ptr i _ _=>M i
 | .pU i _ _=>M i
 | .fn _ cap=>T.aQ M cap
 | .dQ l=>T.aQ M l
 | .any=>True
def T.aQ(M:Nat->Prop):List T->Prop
 |[]=>True
 |t::ts=>T.ids M t/\T.aQ M ts
end
mutual
def aN(E:Env):T->List Value->Prop
 | .lit v,vs=>vs=[v]
 | .agg l,vs=>aW E l vs
 | .sl k full l,vs=> ∃ a c,vs=[.slice a l.length c]/\l.length<=c/\(full=true->c=l.length) /\
   (l=[]\/ ∃ b off cur e m,a=some ⟨b,off,none⟩/\E.S b/\E.w.heap[b]? =some (.cells cur e m)/\T.aQ (fun _=>False) l/\aG E k l (cur.toList.drop off))
 | .ref k t,vs=> ∃ b off cur e m,vs=[.pointer (some ⟨b,off,none⟩)]/\E.S b/\E.w.heap[b]? =some (.cells cur e m)/\t.kd=k/\t.ids (fun _=>False) /\
   bn k<=(cur.toList.drop off).length/\aN E t ((cur.toList.drop off).take (bn k))
 | .own i,vs=> ∃ u,vs=[u]/\((E.h i).isSome=true->u=E.φ i)
 | .ptr i j off,vs=> ∃ u,vs=[u]/\((E.h i).isSome=true-> ∃ b n c,E.φ i= .slice (some ⟨b,0,none⟩) n c/\u= .pointer (some ⟨b,j*bn (E.κ i)+off,none⟩))
 | .pU i lo hi,vs=> ∃ u,vs=[u]/\((E.h i).isSome=true-> ∃ ad n c,E.φ i= .slice ad n c/\lo<=hi/\hi<=n/\n<=c/\u= .slice (if c=lo then ad else ad.map (·.add (lo*bn (E.κ i)))) (hi-lo) (c-lo))
 | .fn f cap,vs=>(Nat.blt f 8192=true/\ ∃ cs:Array Value,vs=[fnV f cs]/\aW E cap cs.toList)\/(Nat.blt f 8192=false/\ ∃ p:Yd,E.y=some p/\p.k+8192=f/\vs=[.func (.yield p.l) #[] #[]]/\bF E cap p.r.tmps.toList)
 | .dQ l,vs=> ∃ cs:Array Value,vs=[.tuple cs]/\bF E l cs.toList
 | .any,_=>True
def aW(E:Env):List T->List Value->Prop
 |[],vs=>vs=[]
 |t::ts,vs=>t.kd=0/\ ∃ v r,vs=v::r/\v.oneCell'=true/\aN E t [v]/\aW E ts r
def bF(E:Env):List T->List Value->Prop
 |[],vs=>vs=[]
 |t::ts,vs=> ∃ v r,vs=v::r/\((t.kd≠0/\ ∃ cs:Array Value,v= .agg cs/\aN E t cs.toList)\/(t.kd=0/\aN E t [v]))/\bF E ts r
def aG(E:Env)(k:Nat):List T->List Value->Prop
 |[],_=>True
 |t::ts,vs=>t.kd=k/\bn k<=vs.length/\(∀ v∈vs.take (bn k),v.oneCell'=true)/\aN E t (vs.take (bn k))/\aG E k ts (vs.drop (bn k))
end
def jX(E:Env)(t:T)(v:Value):Prop :=
 (t.kd≠0/\ ∃ cs:Array Value,v= .agg cs/\aN E t cs.toList)\/(t.kd=0/\aN E t [v])
theorem dI{E:Env}{t:T}{ts:List T}{vs:List Value}:bF E (t::ts) vs↔ ∃ v r,vs=v::r/\jX E t v/\bF E ts r:=by
 simp only[bF,jX]
section mono
variable {E E':Env}
structure Keeps(E E':Env)(M:Nat->Prop):Prop where
 s: ∀ b,E.S b->E'.S b
 w: ∀ b,E.S b->E'.w.heap[b]? =E.w.heap[b]?
 i: ∀ i,M i->(E'.h i).isSome=true->(E.h i).isSome=true/\E'.φ i=E.φ i/\E'.κ i=E.κ i
 y:E'.y=E.y
theorem Keeps.no{M:Nat->Prop}(h:Keeps E E' M):Keeps E E' (fun _=>False):=⟨h.s,h.w,fun _ hf=>hf.elim,h.y⟩
mutual
theorem fU:(t:T)->(M:Nat->Prop)->Keeps E E' M->t.ids M->(vs:List Value)->aN E t vs->aN E' t vs
 | .lit v,_,_,_,vs,h=>by simpa [aN] using h
 | .agg l,M,hK,hm,vs,h=>by
  simp only[aN] at h ⊢;exact AB l M hK (by simpa [T.ids] using hm) vs h
 | .sl k full l,M,hK,hm,vs,h=>by
  simp only[aN] at h ⊢;obtain⟨a,c,h1,h2,h3,h4⟩:=h;refine⟨a,c,h1,h2,h3,?_⟩;rcases h4 with h4|⟨b,off,cur,e,m,ha,hb,hh,hf,hr⟩
  ·exact .inl h4
  ·exact .inr ⟨b,off,cur,e,m,ha,hK.s b hb,by rw[hK.w b hb]; exact hh,hf,dN l k _ hK.no hf _ hr⟩
 | .ref k t,M,hK,hm,vs,h=>by
  simp only[aN] at h ⊢;obtain⟨b,off,cur,e,m,h1,hb,hh,hk,hf,hl,hr⟩:=h;exact⟨b,off,cur,e,m,h1,hK.s b hb,by rw[hK.w b hb]; exact hh,hk,hf,hl,fU t _ hK.no hf _ hr⟩
 | .own i,M,hK,hm,vs,h=>by
  simp only[aN] at h ⊢;simp only[T.ids] at hm;obtain⟨u,h1,h2⟩:=h;refine⟨u,h1,fun hd=>?_⟩;obtain⟨g1,g2,g3⟩:=hK.i i hm hd;rw[g2]; exact h2 g1
 | .ptr i j off,M,hK,hm,vs,h=>by
  simp only[aN] at h ⊢;simp only[T.ids] at hm;obtain⟨u,h1,h2⟩:=h;refine⟨u,h1,fun hd=>?_⟩;obtain⟨g1,g2,g3⟩:=hK.i i hm hd;rw[g2,g3]; exact h2 g1
 | .pU i lo hi,M,hK,hm,vs,h=>by
  simp only[aN] at h ⊢;simp only[T.ids] at hm;obtain⟨u,h1,h2⟩:=h;refine⟨u,h1,fun hd=>?_⟩;obtain⟨g1,g2,g3⟩:=hK.i i hm hd;rw[g2,g3]; exact h2 g1
 | .fn f cap,M,hK,hm,vs,h=>by
  simp only[aN] at h ⊢;rcases h with ⟨h0,cs,h1,h2⟩|⟨h0,p,hp,hf,h1,h2⟩
  ·exact .inl ⟨h0,cs,h1,AB cap M hK (by simpa [T.ids] using hm) _ h2⟩
  ·exact .inr ⟨h0,p,hK.y.trans hp,hf,h1,iV cap M hK (by simpa [T.ids] using hm) _ h2⟩
 | .dQ l,M,hK,hm,vs,h=>by
  simp only[aN] at h ⊢;obtain⟨cs,h1,h2⟩:=h;exact⟨cs,h1,iV l M hK (by simpa [T.ids] using hm) _ h2⟩
 | .any,_,_,_,vs,h=>by simp[aN]
theorem AB:(l:List T)->(M:Nat->Prop)->Keeps E E' M->T.aQ M l->(vs:List Value)->aW E l vs->aW E' l vs
 |[],_,_,_,vs,h=>by simpa [aW] using h
 |t::ts,M,hK,hm,vs,h=>by
  simp only[aW] at h ⊢;simp only[T.aQ] at hm;obtain⟨hk,v,r,h1,h0,h2,h3⟩:=h;exact⟨hk,v,r,h1,h0,fU t M hK hm.1 _ h2,AB ts M hK hm.2 _ h3⟩
theorem iV:(l:List T)->(M:Nat->Prop)->Keeps E E' M->T.aQ M l->(vs:List Value)->bF E l vs->bF E' l vs
 |[],_,_,_,vs,h=>by simpa [bF] using h
 |t::ts,M,hK,hm,vs,h=>by
  simp only[bF] at h ⊢;simp only[T.aQ] at hm;obtain⟨v,r,h1,h2,h3⟩:=h;refine⟨v,r,h1,?_,iV ts M hK hm.2 _ h3⟩;rcases h2 with ⟨hk,cs,h4,h5⟩|⟨hk,h4⟩
  ·exact .inl ⟨hk,cs,h4,fU t M hK hm.1 _ h5⟩
  ·exact .inr ⟨hk,fU t M hK hm.1 _ h4⟩
theorem dN:(l:List T)->(k:Nat)->(M:Nat->Prop)->Keeps E E' M->T.aQ M l->(vs:List Value)->aG E k l vs->aG E' k l vs
 |[],_,_,_,_,vs,h=>by simp[aG]
 |t::ts,k,M,hK,hm,vs,h=>by
  simp only[aG] at h ⊢;simp only[T.aQ] at hm;obtain⟨hk,h1,h0,h2,h3⟩:=h;exact⟨hk,h1,h0,fU t M hK hm.1 _ h2,dN ts k M hK hm.2 _ h3⟩
end
theorem II{M:Nat->Prop}(hK:Keeps E E' M){t:T}(hm:t.ids M){v:Value}(h:jX E t v):jX E' t v:=by
 rcases h with ⟨hk,cs,h4,h5⟩|⟨hk,h4⟩
 ·exact .inl ⟨hk,cs,h4,fU t M hK hm _ h5⟩
 ·exact .inr ⟨hk,fU t M hK hm _ h4⟩
end mono
section ids
variable {M M':Nat->Prop}
mutual
theorem T.bg(h: ∀ i,M i->M' i):(t:T)->t.ids M->t.ids M'
 | .lit _,_=>by simp[T.ids]
 | .agg l,hm=>by simp only[T.ids] at hm ⊢; exact T.aB h l hm
 | .sl _ _ _,_=>by simp[T.ids]
 | .ref _ _,_=>by simp[T.ids]
 | .own i,hm=>by simp only[T.ids] at hm ⊢; exact h i hm
 | .ptr i _ _,hm=>by simp only[T.ids] at hm ⊢; exact h i hm
 | .pU i _ _,hm=>by simp only[T.ids] at hm ⊢; exact h i hm
 | .fn _ cap,hm=>by simp only[T.ids] at hm ⊢; exact T.aB h cap hm
 | .dQ l,hm=>by simp only[T.ids] at hm ⊢; exact T.aB h l hm
 | .any,_=>by simp[T.ids]
theorem T.aB(h: ∀ i,M i->M' i):(l:List T)->T.aQ M l->T.aQ M' l
 |[],_=>by simp[T.aQ]
 |t::ts,hm=>by simp only[T.aQ] at hm ⊢; exact⟨T.bg h t hm.1,T.aB h ts hm.2⟩
end
theorem bP{l:List T}:T.aQ M l↔ ∀ t∈l,t.ids M:=by
 induction l with
 |nil=>simp[T.aQ]
 |cons t ts ih=>simp[T.aQ,ih]
theorem wJ{l:List T}(h:T.aQ M l){i:Nat}{d:T}(hd:d.ids M):(l.getD i d).ids M:=by
 rw[aR];cases hg:l[i]? with
 |none=>simpa using hd
 |some t=>simpa using bP.1 h t (ce hg)
theorem xI{l:List T}(h:T.aQ M l){i:Nat}{t:T}(ht:t.ids M):T.aQ M (l.set i t) :=
 bP.2 fun x hx=>by
  rcases fk hx with h'|rfl
  ·exact bP.1 h x h'
  ·exact ht
theorem fK{a b:List T}:T.aQ M (a++b)↔T.aQ M a/\T.aQ M b:=by
 simp only[bP,cH];exact⟨fun h=>⟨fun t ht=>h t (.inl ht),fun t ht=>h t (.inr ht)⟩,fun h t ht=>ht.elim (h.1 t) (h.2 t)⟩
theorem wK{l:List T}(h:T.aQ M l)(n:Nat):T.aQ M (l.take n):=bP.2 fun t ht=>bP.1 h t (cU ht)
theorem zK{l:List T}(h:T.aQ M l)(n:Nat):T.aQ M (l.drop n):=bP.2 fun t ht=>bP.1 h t (gT ht)
theorem wL{t:T}(h:t.ids M):T.aQ M t.cells:=by
 cases t<;>simp_all[T.cells,T.ids,T.aQ]
theorem SI{t:T}(h:t.ids M)(off k:Nat):(t.part off k).ids M:=by
 cases k with
 |zero=>exact wJ (wL h) (by simp[T.ids])
 |succ m=>simp only[T.part,T.ids]; exact wK (zK (wL h) _) _
end ids
section rep
variable {E:Env}
theorem aX{v u:Value}:jX E (.lit v) u↔u=v:=by
 simp[jX,T.kd,aN]
theorem aF{t:T}(h:t.kd=0){v:Value}:jX E t v↔aN E t [v]:=by
 simp[jX,h]
theorem zL{l:List T}{v:Value}:jX E (.agg l) v↔ ∃ cs:Array Value,v= .agg cs/\aW E l cs.toList:=by
 simp[jX,T.kd,aN]
theorem mV: ∀ {l:List T} {vs:List Value},aW E l vs->vs.length=l.length:=by
 intro l;induction l with
 |nil=>intro vs h; simp[aW] at h; simp[h]
 |cons t ts ih =>
  intro vs h;simp only[aW] at h;obtain⟨_,v,r,rfl,_,_,h⟩:=h;simp[ih h]
theorem D7: ∀ {l:List T} {vs:List Value},aW E l vs-> ∀ v∈vs,v.oneCell'=true:=by
 intro l;induction l with
 |nil=>intro vs h; simp[aW] at h; simp[h]
 |cons t ts ih =>
  intro vs h;simp only[aW] at h;obtain⟨_,v,r,rfl,h1,_,h⟩:=h;intro u hu;rcases br.1 hu with rfl|hu
  ·exact h1
  ·exact ih h u hu
theorem qh: ∀ {l:List T} {vs:List Value},bF E l vs->vs.length=l.length:=by
 intro l;induction l with
 |nil=>intro vs h; simp[bF] at h; simp[h]
 |cons t ts ih =>
  intro vs h;rw[dI] at h;obtain⟨v,r,rfl,_,h⟩:=h;simp[ih h]
theorem xJ: ∀ {l:List T} {vs:List Value},bF E l vs-> ∀ i,jX E (l.getD i T.un) (vs.getD i undef):=by
 intro l;induction l with
 |nil=>intro vs h i; simp[bF] at h; subst h; simp[aX,undef]
 |cons t ts ih =>
  intro vs h i;rw[dI] at h;obtain⟨v,r,rfl,h1,h2⟩:=h;cases i with
  |zero=>simpa using h1
  |succ i=>simpa using ih h2 i
theorem IJ: ∀ {l:List T} {vs:List Value},bF E l vs-> ∀ (i:Nat) {t:T} {v:Value},jX E t v->bF E (l.set i t) (vs.set i v):=by
 intro l;induction l with
 |nil=>intro vs h i t v _; simp[bF] at h; subst h; simp[bF]
 |cons t ts ih =>
  intro vs h i t' v' hv;rw[dI] at h;obtain⟨v,r,rfl,h1,h2⟩:=h;cases i with
  |zero=>simp only[fS,dI]; exact⟨v',r,rfl,hv,h2⟩
  |succ i=>simp only[List.set_cons_succ,dI]; exact⟨v,_,rfl,h1,ih h2 i hv⟩
theorem Gu: ∀ {l l':List T} {vs vs':List Value},bF E l vs->bF E l' vs'->bF E (l++l') (vs++vs'):=by
 intro l;induction l with
 |nil=>intro l' vs vs' h h'; simp[bF] at h; subst h; simpa using h'
 |cons t ts ih =>
  intro l' vs vs' h h';rw[dI] at h;obtain⟨v,r,rfl,h1,h2⟩:=h;rw[dg,dg,dI];exact⟨v,_,rfl,h1,ih h2 h'⟩
theorem OJ: ∀ {l:List T} {vs:List Value},aW E l vs-> ∀ {i:Nat},i<l.length ->
  ∃ v,vs[i]? =some v/\(l.getD i .any).kd=0/\v.oneCell'=true/\aN E (l.getD i .any) [v]:=by
 intro l;induction l with
 |nil=>intro vs h i hi; simp at hi
 |cons t ts ih =>
  intro vs h i hi;simp only[aW] at h;obtain⟨hk,v,r,rfl,h0,h1,h2⟩:=h;cases i with
  |zero=>exact⟨v,by simp,by simpa using hk,h0,by simpa using h1⟩
  |succ i=>simpa using ih h2 (by simpa using hi)
theorem Gv{l l':List T}{vs:List Value}:aW E (l++l') vs↔ ∃ a b,vs=a++b/\aW E l a/\aW E l' b:=by
 induction l generalizing vs with
 |nil =>
  simp only[gH,aW];exact⟨fun h=>⟨[],vs,rfl,rfl,h⟩,fun⟨a,b,h1,h2,h3⟩=>by subst h2; simp at h1; subst h1; exact h3⟩
 |cons t ts ih =>
  simp only[dg,aW,ih];constructor
  ·rintro⟨hk,v,r,rfl,h0,h1,a,b,rfl,h2,h3⟩;exact⟨v::a,b,rfl,⟨hk,v,a,rfl,h0,h1,h2⟩,h3⟩
  ·rintro⟨a,b,rfl,⟨hk,v,r,rfl,h0,h1,h2⟩,h3⟩;exact⟨hk,v,r++b,rfl,h0,h1,r,b,rfl,h2,h3⟩
theorem LH{l:List T}{vs:List Value}(h:aW E l vs)(n:Nat):aW E (l.take n) (vs.take n):=by
 induction l generalizing vs n with
 |nil=>simp[aW] at h; subst h; simp[aW]
 |cons t ts ih =>
  simp only[aW] at h;obtain⟨hk,v,r,rfl,h0,h1,h2⟩:=h;cases n with
  |zero=>simp[aW]
  |succ n=>simp only[List.take_succ_cons,aW]; exact⟨hk,v,_,rfl,h0,h1,ih h2 n⟩
theorem LJ{l:List T}{vs:List Value}(h:aW E l vs)(n:Nat):aW E (l.drop n) (vs.drop n):=by
 induction l generalizing vs n with
 |nil=>simp[aW] at h; subst h; simp[aW]
 |cons t ts ih =>
  simp only[aW] at h;obtain⟨hk,v,r,rfl,h0,h1,h2⟩:=h;cases n with
  |zero=>simp only[List.drop_zero,aW]; exact⟨hk,v,r,rfl,h0,h1,h2⟩
  |succ n=>simpa using ih h2 n
theorem xK{t:T}{vs:List Value}(hk:t.kd≠0):aN E t vs↔aW E t.cells vs:=by
 cases t<;>simp_all[T.kd,T.cells,aN]
theorem cells_one{v:Value}(h:v.oneCell'=true):v.cells= #[v]:=by
 cases v<;>simp_all[Value.cells,Value.oneCell']
theorem EC{t:T}(h:t.kd=0):t.cells=[t]:=by cases t<;>simp_all[T.kd,T.cells]
theorem VL{t:T}{v:Value}(h:jX E t v)(ht:t.kd=0->v.oneCell'=true):aW E t.cells v.cells.toList:=by
 rcases h with ⟨hk,cs,rfl,h⟩|⟨hk,h⟩
 ·rw[xK hk] at h; simpa [Value.cells] using h
 ·rw[EC hk,cells_one (ht hk)];simp only[aW];exact⟨hk,v,[],rfl,ht hk,h,rfl⟩
theorem qI(t:T):bn t.kd=t.cells.length:=by cases t<;>simp[T.kd,bn,T.cells]
theorem SK{t:T}{vs:List Value}(h:aN E t vs)(hk:t.kd≠0):vs.length=bn t.kd:=by
 rw[xK hk] at h; rw[qI]; exact mV h
theorem adM{t:T}{off k:Nat}(h:qH t.cells.length off k=true)(hs:k=0->(t.cells.getD off .any).kd=0):(t.part off k).kd=k:=by
 cases k with
 |zero=>exact hs rfl
 |succ m =>
  simp only[T.part,T.kd,qH,bn,et] at h ⊢;simp only[bE,cB]; omega
theorem OL{t:T}{vs:List Value}(h:aN E t vs)(hk:t.kd≠0){off k:Nat}(ho:qH t.cells.length off k=true) :
  aN E (t.part off k) ((vs.drop off).take (bn k))/\(t.part off k).kd=k/\off+bn k<=vs.length:=by
 have hl:=SK h hk;rw[qI] at hl;rw[xK hk] at h;have ho':=ho;simp only[qH,et] at ho';cases k with
 |zero =>
  simp only[bn] at ho' ⊢;obtain⟨v,hv,hkd,_,hr⟩:=OJ h (i:=off) (by omega);refine⟨?_,hkd,by omega⟩
  have:(vs.drop off).take 1=[v]:=by
   rw[bi] at hv;obtain⟨hlt,rfl⟩:=hv;rw[eD hlt,List.take_succ_cons,List.take_zero]
  rw[this]; exact hr
 |succ m =>
  refine⟨?_,adM ho (by simp),by omega⟩;simp only[T.part,aN,bn];exact LH (LJ h _) _
theorem uZ: ∀ {k:Nat} {l:List T} {vs:List Value},aG E k l vs-> ∀ {j:Nat},j<l.length ->
  (l.getD j .any).kd=k/\j*bn k+bn k<=vs.length/\(∀ v∈(vs.drop (j*bn k)).take (bn k),v.oneCell'=true)/\aN E (l.getD j .any) ((vs.drop (j*bn k)).take (bn k)):=by
 intro k l;induction l with
 |nil=>intro vs _ j hj; simp at hj
 |cons t ts ih =>
  intro vs h j hj;simp only[aG] at h;obtain⟨hk,hl,h0,h1,h2⟩:=h;cases j with
  |zero=>simpa using ⟨hk,hl,h0,h1⟩
  |succ j =>
   obtain⟨g1,g2,g0,g3⟩:=ih h2 (j:=j) (by simpa using hj);rw[di,show bn k+j*bn k=(j+1)*bn k by rw[dE]; omega] at g3 g0;refine⟨by simpa using g1,?_,g0,by simpa using g3⟩;rw[cB] at g2; rw[dE]; omega
theorem xM{n:Nat}{vs ws:List Value}(he: ∀ i,i<n->ws[i]? =vs[i]?):ws.take n=vs.take n:=by
 apply List.ext_getElem?;intro i;by_cases hi:i<n
 ·rw[cX hi,cX hi]; exact he i hi
 ·rw[fe (by omega),fe (by omega)]
theorem jr: ∀ {k:Nat} {l:List T} {vs ws:List Value},aG E k l vs->(∀ i,i<l.length*bn k->ws[i]? =vs[i]?)->aG E k l ws:=by
 intro k l;induction l with
 |nil=>intro vs ws _ _; simp[aG]
 |cons t ts ih =>
  intro vs ws h he;simp only[aG] at h ⊢;obtain⟨hk,hl,h0,h1,h2⟩:=h;have hlen:(t::ts).length*bn k=ts.length*bn k+bn k:=by rw[bL,dE]; omega
  have htake:ws.take (bn k)=vs.take (bn k):=xM fun i hi=>he i (by omega)
  refine⟨hk,?_,by rw[htake]; exact h0,by rw[htake]; exact h1,ih h2 fun i hi=>?_⟩
  ·have:=dt List.length htake;simp only[bE] at this; omega
  ·rw[cV,cV]; exact he _ (by omega)
theorem CQ: ∀ {k:Nat} {l:List T} {vs:List Value},aG E k l vs->l.length*bn k<=vs.length:=by
 intro k l;induction l with
 |nil=>intro vs _; simp
 |cons t ts ih =>
  intro vs h;simp only[aG] at h;obtain⟨_,h1,_,_,h2⟩:=h;have:=ih h2;rw[cB] at this;rw[bL,dE]; omega
theorem SL: ∀ {k:Nat} {l:List T} {vs:List Value},aG E k l vs-> ∀ v∈vs.take (l.length*bn k),v.oneCell'=true:=by
 intro k l;induction l with
 |nil=>intro vs _; simp
 |cons t ts ih =>
  intro vs h;simp only[aG] at h;obtain⟨_,h1,h0,_,h2⟩:=h;intro v hv;rw[bL,dE,gA,gF,List.take_add] at hv;rcases cH.1 hv with hv|hv
  ·exact h0 v hv
  ·exact ih h2 v hv
theorem wC: ∀ {k:Nat} {l:List T} {vs:List Value},aG E k l vs-> ∀ n,aG E k (l.take n) vs:=by
 intro k l;induction l with
 |nil=>intro vs _ n; simp[aG]
 |cons t ts ih =>
  intro vs h n;cases n with
  |zero=>simp[aG]
  |succ n =>
   simp only[aG,List.take_succ_cons] at h ⊢;exact⟨h.1,h.2.1,h.2.2.1,h.2.2.2.1,ih h.2.2.2.2 n⟩
theorem AL: ∀ {k:Nat} {l:List T} {vs:List Value},aG E k l vs-> ∀ n,n<=l.length->aG E k (l.drop n) (vs.drop (n*bn k)):=by
 intro k l;induction l with
 |nil=>intro vs _ n _; simp[aG]
 |cons t ts ih =>
  intro vs h n hn;cases n with
  |zero=>simpa using h
  |succ n =>
   simp only[aG] at h;have:=ih h.2.2.2.2 n (by simpa using hn);rw[di,show bn k+n*bn k=(n+1)*bn k by rw[dE]; omega] at this;simpa using this
theorem tC: ∀ {k:Nat} {l l':List T} {vs:List Value},aG E k (l++l') vs↔aG E k l vs/\aG E k l' (vs.drop (l.length*bn k)):=by
 intro k l;induction l with
 |nil=>intro l' vs; simp[aG]
 |cons t ts ih =>
  intro l' vs;simp only[dg,aG,ih,di,bL];rw[show bn k+ts.length*bn k=(ts.length+1)*bn k by rw[dE]; omega];constructor
  ·rintro⟨h1,h2,h0,h3,h4,h5⟩; exact⟨⟨h1,h2,h0,h3,h4⟩,h5⟩
  ·rintro⟨⟨h1,h2,h0,h3,h4⟩,h5⟩; exact⟨h1,h2,h0,h3,h4,h5⟩
theorem JB: ∀ {k:Nat} {l:List T} {vs ws:List Value},aG E k l vs-> ∀ {j:Nat} {t:T},t.kd=k->j<l.length ->
  ws.length=vs.length->(∀ v∈(ws.drop (j*bn k)).take (bn k),v.oneCell'=true)->aN E t ((ws.drop (j*bn k)).take (bn k)) ->
  (∀ i,i<j*bn k\/j*bn k+bn k<=i->ws[i]? =vs[i]?)->aG E k (l.set j t) ws:=by
 intro k l;induction l with
 |nil=>intro vs ws _ j t _ hj; simp at hj
 |cons t ts ih =>
  intro vs ws h j t' hk' hj hlen ho hr he;simp only[aG] at h;obtain⟨hk,hl,h0,h1,h2⟩:=h;cases j with
  |zero =>
   simp only[fS,aG];refine⟨hk',by omega,by simpa using ho,by simpa using hr,jr h2 fun i _=>?_⟩;rw[cV,cV]; exact he _ (.inr (by omega))
  |succ j =>
   have e1:(j+1)*bn k=j*bn k+bn k:=by rw[dE]; omega
   simp only[List.set_cons_succ,aG];have htake:ws.take (bn k)=vs.take (bn k):=xM fun i hi=>he i (.inl (by omega))
   have e2:bn k+j*bn k=(j+1)*bn k:=by omega
   refine⟨hk,by omega,by rw[htake]; exact h0,by rw[htake]; exact h1,ih h2 hk' (by simpa using hj) (by simp[hlen]) ?_ ?_ fun i hi=>?_⟩
   ·rw[di,e2]; exact ho
   ·rw[di,e2]; exact hr
   ·rw[cV,cV]; exact he _ (by omega)
theorem xO{k:Nat}{t:T}{vs:List Value}(hk:t.kd=k)(hl:vs.length=bn k)(h1: ∀ v∈vs,v.oneCell'=true)(h:aN E t vs):aG E k [t] vs:=by
 simp only[aG]
 have:vs.take (bn k)=vs:=by rw[<- hl,bp]
 rw[this];exact⟨hk,by omega,h1,h,trivial⟩
end rep
@[reducible] def iM:Nat:=1000000007
def AO(k:Nat):Bool:=Nat.blt 0 (bn k)&&Nat.blt k 1000000007
theorem AP{k:Nat}(h:AO k=true):0<bn k/\k≠iM:=by
 simp only[AO,aD,cW] at h;exact⟨h.1,by simp only[iM]; omega⟩
structure Fr(P:Program) where
 s:Nat->Prop
 dl:List Deferred:=[]
instance {P:Program}:CoeFun (Fr P) (fun _=>Nat->Prop):=⟨Fr.s⟩
def zh(P:Program)(g:Nat):Option (Array Value) :=
 if P.globalNamed "strings.asciiSpace" = some g then some (Lib.asciiSpaceTab.map fun z=>Value.int .u8 z).toArray else none
def rowB:Value->Option Nat
 | .slice (some a) _ (_+1)=>some a.block
 | .map (some g)=>some g
 |_=>none
def mW(E:Env):List T->List MapEntry->Prop
 |[],es=>es=[]
 |t::ts,es=> ∃ n u e r,t= .dQ [.lit (.int .i64 n),u]/\es=e::r/\e.key= .int .i64 n/\u.kd=0/\e.val.oneCell'=true/\aN E u [e.val]/\mW E ts r
def SN(E:Env)(ob:Ob)(v:Value):Prop :=
 (∃ a,v= .slice a 0 0/\ob.l=[]) \/
 ∃ g c cur,v= .slice (some ⟨g,0,none⟩) ob.l.length (c+1)/\ob.l.length<=c+1/\c+1<=maxLen/\E.w.heap[g]? =some (.cells cur ob.ty (0,0)) /\
  cur.size=(c+1)*bn ob.k/\aG E ob.k ob.l cur.toList
def afs(E:Env)(ob:Ob)(v:Value):Prop :=
 ∃ g es clock,v= .map (some g)/\E.w.heap[g]? =some (.map es clock)/\mW E ob.l es.toList
def vg(E:Env)(ob:Ob)(v:Value):Prop:=(ob.k≠iM/\SN E ob v)\/(ob.k=iM/\afs E ob v)
theorem vg.row{E:Env}{ob:Ob}{v:Value}(h:vg E ob v)(hk:ob.k≠iM):SN E ob v:=by
 rcases h with h|h
 ·exact h.2
 ·exact absurd h.1 hk
theorem vg.map{E:Env}{ob:Ob}{v:Value}(h:vg E ob v)(hk:ob.k=iM):afs E ob v:=by
 rcases h with h|h
 ·exact absurd hk h.1
 ·exact h.2
theorem vg.of_slice{E:Env}{ob:Ob}{v:Value}(h:vg E ob v){a:Option Addr}{n c:Nat}(hv:v= .slice a n c):SN E ob v/\ob.k≠iM:=by
 rcases h with h|⟨_,g,es,cl,h1,_⟩
 ·exact⟨h.2,h.1⟩
 ·rw[hv] at h1; cases h1
def CS:Code->Option (Array Tmp×Code×Code)
 | .rangeFunc _ ps a b=>some (ps,a,b)
 | .seq a b=>match CS a with|some s=>some s|none=>CS b
 | .cond _ a b=>match CS a with|some s=>some s|none=>CS b
 | .block _ b=>CS b
 | .loop b=>CS b
 | .scope b=>CS b
 |_=>none
def afU(P:Program)(p:Yd):Prop:= ∃ fn c,P.funcs[p.k]? =some fn/\fn.body=some c/\CS c=some (p.r.params,p.r.assign,p.r.body)
def SQ{P:Program}(F:Nat->Prop)(E:Env):Prop:= ∀ p:Yd,E.y=some p->(p.r.state= .ready/\p.r.pending=none)/\afU P p/\F p.l/\E.w.heap[p.l]? =some (.loop p.r)
structure rQ{P:Program}(F:Fr P)(E:Env):Prop where
 obs: ∀ i ob,E.h i=some ob->vg E ob (E.φ i)/\E.κ i=ob.k/\0<bn ob.k
 out: ∀ i ob g,E.h i=some ob->rowB (E.φ i)=some g-> ¬ E.S g/\ ¬ F g
 sep: ∀ i j oi oj g,i≠j->E.h i=some oi->E.h j=some oj->rowB (E.φ i)=some g->rowB (E.φ j)=some g->False
 slt: ∀ g,E.S g->g<E.w.heap.size
 flt: ∀ g,F g->g<E.w.heap.size
 sf: ∀ g,E.S g->F g->False
 gl:(∀ g cs,zh P g=some cs->F g/\ ∃ ty m,E.w.heap[g]? =some (.cells cs ty m))/\SQ (P:=P) F.s E
def oO(M:Nat->Prop)(h:Hp):Prop:= ∀ i ob,h i=some ob->M i/\T.aQ M ob.l
structure Rel{P:Program}(F:Fr P)(M:Nat->Prop)(E:Env)(s:AS)(a:Act):Prop where
 hk:rQ F E
 he:E.h=s.hp
 fr:bF E s.fr a.tmps.toList
 df:a.defers=F.dl
 mf:T.aQ M s.fr
 mh:oO M s.hp
structure Ext{P:Program}(F:Fr P)(E E':Env):Prop where
 s: ∀ g,E.S g->E'.S g
 w: ∀ g,E.S g\/F g->E'.w.heap[g]? =E.w.heap[g]?
 size:E.w.heap.size<=E'.w.heap.size
 os:E'.w.os=E.w.os
 tape:E'.w.tape=E.w.tape
 output:E'.w.output=E.w.output
 dr:E.w.drawn<=E'.w.drawn
 y:E'.y=E.y
theorem SQ.of{P:Program}{F F':Nat->Prop}{E E':Env}(h:SQ (P:=P) F E)(hf: ∀ g,F g->F' g)(hw: ∀ g,F g->E'.w.heap[g]? =E.w.heap[g]?)(hy:E'.y=E.y):SQ (P:=P) F' E':=fun p hp=>by
 obtain⟨h0,h1,h2,h3⟩:=h p (hy.symm.trans hp);exact⟨h0,h1,hf _ h2,(hw _ h2).trans h3⟩
theorem Ext.gl{P:Program}{F:Fr P}{E E':Env}(h:Ext F E E')(hk:rQ F E):(∀ g cs,zh P g=some cs->F g/\ ∃ ty m,E'.w.heap[g]? =some (.cells cs ty m))/\SQ (P:=P) F.s E':=⟨fun g cs hg=>by
 obtain⟨h1,ty,m,h2⟩:=hk.gl.1 g cs hg
 exact⟨h1,ty,m,by rw[h.w g (.inr h1)]; exact h2⟩,hk.gl.2.of (fun _ h=>h) (fun g hg=>h.w g (.inr hg)) h.y⟩
theorem Ext.refl{P:Program}(F:Fr P)(E:Env):Ext F E E:=⟨fun _ h=>h,fun _ _=>rfl,ba _,rfl,rfl,rfl,ba _,rfl⟩
theorem Ext.trans{P:Program}{F:Fr P}{E E' E'':Env}(h:Ext F E E')(h':Ext F E' E''):Ext F E E'' :=
 ⟨fun g hg=>h'.s g (h.s g hg),fun g hg=>(h'.w g (hg.imp (h.s g) id)).trans (h.w g hg),ez h.size h'.size,
  h'.os.trans h.os,h'.tape.trans h.tape,h'.output.trans h.output,ez h.dr h'.dr,h'.y.trans h.y⟩
def Same(E E':Env)(M:Nat->Prop):Prop :=
 ∀ i,M i->(E'.h i).isSome=true->(E.h i).isSome=true/\E'.φ i=E.φ i/\E'.κ i=E.κ i
theorem Keeps.of{P:Program}{F:Fr P}{M:Nat->Prop}{E E':Env}(h:Ext F E E')(hs:Same E E' M):Keeps E E' M :=
 ⟨h.s,fun b hb=>h.w b (.inl hb),hs,h.y⟩
def callable(P:Program)(f:FuncId):Prop:= ∀ args w,Sem.run P (callFunc f args) w= .ok (.enter f args) w
def Ends{P:Program}(F:Fr P)(M:Nat->Prop)(E:Env)(n:Nat)(post:T->Hp->Prop)(e:Ending)(w':World):Prop :=
 ∃ v t E',e= .returned v/\E'.w=w'/\post t E'.h/\jX E' t v/\rQ F E'/\Ext F E E'/\Same E E' M /\
  t.ids (fun i=>M i\/i=n)/\oO (fun i=>M i\/i=n) E'.h
def aP(P:Program)(f:FuncId)(ts:List T)(h:Hp)(n:Nat)(post:T->Hp->Prop):Prop :=
 (∃ t h',post t h')/\callable P f /\
 ∀ (F:Fr P) (M:Nat->Prop) (E:Env) (vs:List Value),rQ F E->E.h=h->bF E ts vs->T.aQ M ts->oO M h-> ¬ M n ->
  Calls P f vs.toArray E.w (Ends F M E n post)
theorem aP.mono{P:Program}{f:FuncId}{ts:List T}{h:Hp}{n:Nat}{post post':T->Hp->Prop}
  (H:aP P f ts h n post) (hp: ∀ t h',post t h'->post' t h'):aP P f ts h n post':=by
 obtain⟨⟨t,h',h1⟩,h2,h3⟩:=H;refine⟨⟨t,h',hp _ _ h1⟩,h2,fun F M E vs a b c d e g=>(h3 F M E vs a b c d e g).mono ?_⟩;rintro e w' ⟨v,t,E',r1,r2,r3,r4⟩;exact⟨v,t,E',r1,r2,hp _ _ r3,r4⟩
def IK(P:Program)(t:T)(ts:List T)(h:Hp)(n:Nat)(post:T->Hp->Prop):Prop :=
 (∃ t h',post t h') /\
 ∀ (F:Fr P) (M:Nat->Prop) (E:Env) (v:Value) (vs:List Value),rQ F E->E.h=h->jX E t v->bF E ts vs->t.ids M->T.aQ M ts->oO M h-> ¬ M n ->
  ∀ p:Yd,E.y=some p->YieldAt Fence.wide 0 P p.l vs.toArray E.w (Ends F M E n post)
def ahj{P:Program}(F:Fr P)(M:Nat->Prop)(E:Env)(n k:Nat)(post:T->Hp->Prop)(e:Ending)(w':World):Prop :=
 ∃ v t E',e= .returned v/\E'.w=w'/\post t E'.h/\jX E' t v/\rQ F E'/\Ext F E E'/\Same E E' M /\
  t.ids (fun i=>M i\/n<=i/\i<=n+k)/\oO (fun i=>M i\/n<=i/\i<=n+k) E'.h
def jP(P:Program)(f:FuncId)(ts:List T)(h:Hp)(n k:Nat)(post:T->Hp->Prop):Prop :=
 (∃ t h',post t h')/\callable P f /\
 ∀ (F:Fr P) (M:Nat->Prop) (E:Env) (vs:List Value),rQ F E->E.h=h->bF E ts vs->T.aQ M ts->oO M h->(∀ i,M i->i<n) ->
  Calls P f vs.toArray E.w (ahj F M E n k post)
theorem jP.mono{P:Program}{f:FuncId}{ts:List T}{h:Hp}{n k:Nat}{post post':T->Hp->Prop}
  (H:jP P f ts h n k post) (hp: ∀ t h',post t h'->post' t h'):jP P f ts h n k post':=by
 obtain⟨⟨t,h',h1⟩,h2,h3⟩:=H;refine⟨⟨t,h',hp _ _ h1⟩,h2,fun F M E vs a b c d e g=>(h3 F M E vs a b c d e g).mono ?_⟩;rintro e w' ⟨v,t,E',r1,r2,r3,r4⟩;exact⟨v,t,E',r1,r2,hp _ _ r3,r4⟩
def T.splice(e:T)(off:Nat)(v:T):T:=.agg (e.cells.take off++v.cells++e.cells.drop (off+v.cells.length))
inductive Src where
 |no
 |list (l:List T)
def VN(h:Hp)(k:Nat):T->Src
 | .sl k' _ l=>match l with|[]=>.list []|x::r=>bif k'==k then .list (x::r) else .no
 | .own o=>match h o with|some ob=>bif ob.k==k then .list ob.l else .no|none=>.no
 |_=>.no
def nM(P:Program)(dr:Bool)(n:Nat)(d:Option Nat)(f:FuncId)(ts:List T)(K:AS->Prop)(s:AS):Prop :=
 aP P f ts s.hp n fun t h=>(dr=true->h=s.hp/\t.free=true)/\K {(s.put d t) with hp:=h}
def oP(P:Program)(dr:Bool)(n:Nat)(d:Option Nat)(op:oN)(K:AS->Prop)(s:AS):Prop :=
 match op with
 | .box ty k x=>((s.ev x).kd==k&&(s.ev x).lC s.hp&&AO k)=true /\
   K {(s.put d (.ptr n 0 0)) with hp:=upd s.hp n (some ⟨ty,k,[s.ev x]⟩)}
 | .al ty k z=>(z.kd==k&&z.lC s.hp&&z.free&&AO k)=true/\K {(s.put d (.ptr n 0 0)) with hp:=upd s.hp n (some ⟨ty,k,[z]⟩)}
 | .make ty k bytes z x y =>
  match s.ev x,s.ev y with
  | .lit (.int _ a),.lit (.int _ b)=>(z.kd==k&&z.lC s.hp&&z.free&&AO k)=true/\(0<=a/\a<=b/\b*bytes<=140737488355328/\b<=1152921504606846976) /\
    K {(s.put d (.own n)) with hp:=upd s.hp n (some ⟨ty,k,List.replicate a.toNat z⟩)}
  |_,_=>False
 | .st k x v =>
  match s.ev x with
  | .ptr i j off =>
   match s.hp i with
   |some ob=>((s.ev v).kd==k&&(s.ev v).lC s.hp)=true/\j<ob.l.length/\((off==0&&ob.k==k)||(!(ob.k==0)&&qH (bn ob.k) off k))=true /\
     K {s with hp:=upd s.hp i (some ⟨ob.ty,ob.k,ob.l.set j (bif (off==0&&ob.k==k) then s.ev v else(ob.l.getD j .any).splice off (s.ev v))⟩)}
   |none=>False
  |_=>False
 | .app ty k bytes x y =>
  match VN s.hp k (s.ev y) with
  | .list m =>
   match s.ev x with
   | .sl k' true l=>(k'=k\/l=[])/\((l=[]\/m≠[])\/(dr=false/\K (s.put d (.sl k' true l))))/\(l.length+m.length)*bytes<=140737488355328/\l.length+m.length<=1152921504606846976 /\
     K {(s.put d (.own n)) with hp:=upd s.hp n (some ⟨ty,k,l++m⟩)}
   | .own i =>
    match s.hp i with
    |some ob=>(ob.k==k&&ob.ty==ty)=true/\(ob.l.length+m.length)*bytes<=140737488355328/\ob.l.length+m.length<=1152921504606846976 /\
      K {(s.put d (.own n)) with hp:=upd (upd s.hp i none) n (some ⟨ty,k,ob.l++m⟩)}
    |none=>False
   |_=>False
  | .no=>False
 | .call f xs=>nM P dr n d f (xs.map s.ev) K s
 | .jc x xs=>match s.ev x with| .fn f cap=>(bif Nat.blt f 4096 then nM P dr n d f (xs.map s.ev++cap) K s else Nat.blt f 8192=true/\nM P dr n d (f % 4096) (.agg cap::xs.map s.ev) K s)|_=>False
 | .BD x =>
  match s.ev x with
  | .sl _ _ l=>(l=[]->K (s.put d (.lit (.bool true))))/\K (s.put d (.lit (.bool false)))
  | .own i=>match s.hp i with
   |some ob=>(ob.l=[]->K (s.put d (.lit (.bool true))))/\K (s.put d (.lit (.bool false)))/\ob.k≠iM
   |none=>False
  |_=>False
 | .VK k z x =>
  match s.ev x with
  | .pU i lo hi=>match s.hp i with
   |some ob=>(ob.k==k&&z.kd==k&&z.lC s.hp&&z.free)=true/\hi<=ob.l.length/\K {(s.put d T.un) with hp:=upd s.hp i (some ⟨ob.ty,ob.k,ob.l.take lo++List.replicate (hi-lo) z++ob.l.drop hi⟩)}
   |none=>False
  |_=>False
 | .BR ty k z m ps=>((z.kd==k)&&z.free&&LG k m (ps.map fun p=>(p.1,s.ev p.2))&&xH s.hp (ps.map fun p=>s.ev p.2)&&Nat.ble (m*bn k) 16777216&&AO k)=true /\
   K {(s.put d (.own n)) with hp:=upd s.hp n (some ⟨ty,k,tu (List.replicate m z) (ps.map fun p=>(p.1,s.ev p.2))⟩)}
 | .bot=>False
 |op=>qc s op/\K (s.put d (qt s op))
mutual
def T.lt(n:Nat):T->Bool
 | .own i=>Nat.blt i n
 | .ptr i _ _=>Nat.blt i n
 | .pU i _ _=>Nat.blt i n
 | .agg l=>T.OE n l
 | .fn _ cap=>T.OE n cap
 | .dQ l=>T.OE n l
 |_=>true
def T.OE(n:Nat):List T->Bool
 |[]=>true
 |t::ts=>T.lt n t&&T.OE n ts
end
mutual
def T.nid(i:Nat):T->Bool
 | .own j=> !(j==i)
 | .ptr j _ _=> !(j==i)
 | .pU j _ _=> !(j==i)
 | .agg l=>T.YX i l
 | .fn _ cap=>T.YX i cap
 | .dQ l=>T.YX i l
 |_=>true
def T.YX(i:Nat):List T->Bool
 |[]=>true
 |t::ts=>T.nid i t&&T.YX i ts
end
def T.newer(n:Nat):T->Bool
 | .own i=>Nat.ble n i
 | .ptr i _ _=>Nat.ble n i
 | .sl _ _ _=>true
 |_=>false
def oN.xs:oN->List X
 | .mv x=>[x]
 | .pick c a b=>[c,a,b]
 | .bin _ x y=>[x,y]
 | .bb _ x y=>[x,y]
 | .not x=>[x]
 | .conv _ x=>[x]
 | .fa _ _ x=>[x]
 | .ia _ x i=>[x,i]
 | .ch x i=>[x,i]
 | .ld _ x=>[x]
 | .len _ x=>[x]
 | .mx x y=>[x,y]
 | .mk _ ps=>ps.map fun p=>p.2.2
 | .ms _ _ _ _ ps=>ps.map fun p=>p.2
 | .sl _ x lo hi m=>x::(lo.toList++hi.toList++m.toList)
 | .ex x _=>[x]
 | .mf _ cap=>cap
 | .box _ _ x=>[x]
 | .al .. =>[]
 | .make _ _ _ _ x y=>[x,y]
 | .st _ x v=>[x,v]
 | .app _ _ _ x y=>[x,y]
 | .call _ xs=>xs
 | .jc x xs=>x::xs
 | .BD x=>[x]
 | .eqs _ _ x y=>[x,y]
 | .YW _ x lo hi m=>x::(lo.toList++hi.toList++m.toList)
 | .VK _ _ x=>[x]
 | .BR _ _ _ _ ps=>ps.map fun p=>p.2
 | .mb _ x=>[x]
 | .bot=>[]
def AS.obj(s:AS)(m:Nat):Option Nat :=
 match s.fr.getD m .any with
 | .ptr i _ _=>some i
 |_=>none
def IL(s:AS)(xs:List X):List Nat->Bool
 |[]=>true
 |m::r=>(bif Nat.blt m 1000000 then(match s.obj m with|some i=>xs.all fun x=>T.nid i (s.ev x)|none=>false)
   else bif Nat.beq m 1000000 then xs.all fun x=>T.lt 10000 (s.ev x) else(match xs with|x::_=>T.newer 10000 (s.ev x)|[]=>false))&&IL s xs r
def jE(o:aJ)(s:AS):Prop :=
 (o.fl=true->(match o.op with
  | .st _ x _=>T.newer s.nx (s.ev x)
  | .app _ _ _ x _=>T.newer s.nx (s.ev x)
  | .VK _ _ _=>false
  | .call _ _=>true
  | .jc _ _=>true
  |op=>op.xs.all fun x=>T.lt s.nx (s.ev x))=true)/\IL s o.op.xs o.ne=true
def aJ.dr(o:aJ)(dr:Bool):Bool :=
 match o.op with
 | .call _ _=>dr&& !o.fl
 | .jc _ _=>dr&& !o.fl
 |_=>dr
def IQ(g:Option (Nat×Bool))(s:AS)(yes no:AS->Prop):Prop :=
 match g with
 |none=>yes s
 |some (d,want) =>
  match s.fr.getD d .any with
  | .lit (.bool b)=>(b=want->yes (s.put (some d) (.lit (.bool want))))/\(b= !want->no (s.put (some d) (.lit (.bool !want))))
  | .lit (.tuple _)=>no s
  |_=>False
def opW(P:Program)(dr:Bool)(n:Nat)(d:Option Nat)(op:oN)(K:AS->Prop)(s:AS):Prop :=
 match op with
 | .call f xs=>dr=false/\ ∃ k,jP P f (xs.map s.ev) s.hp n k fun t h=>K {(s.put d t) with hp:=h,nx:=s.nx+k}
 | .jc x xs=>dr=false/\match s.ev x with
  | .fn f cap=>Nat.blt f 8192=false/\IK P (.fn f cap) (xs.map s.ev) s.hp n fun t h=>K {(s.put d t) with hp:=h}
  |_=>False
 |_=>False
def jF(h:Hp)(n:Nat):Option Ob->Hp
 |none=>h
 |some ob=>upd h n (some ob)
def opF(P:Program)(n:Nat)(d:Option Nat)(op:oN)(K:AS->Prop)(s:AS):Prop :=
 match op with
 | .call f xs=> ∃ (t:T) (o:Option Ob),t.ids (fun i=>i=n)/\(∀ ob,o=some ob->T.bW ob.l=true) /\
   (∀ h:Hp,(∀ i ob,s.hp i=some ob->h i=some ob)->(∀ i ob,s.hp i=some ob->T.aQ (fun j=>(h j).isSome=true->(s.hp j).isSome=true) ob.l)->aP P f (xs.map s.ev) h n fun t' h'=>t'=t/\h'=jF h n o)/\K {(s.put d t) with hp:=jF s.hp n o}
 |_=>False
def mkK(o:aJ)(s:AS)(K:AS->Prop)(s':AS):Prop:=(o.ad=true-> ∀ i ob,s.hp i=some ob->s'.hp i=some ob)/\K s'
def opR(P:Program)(dr:Bool)(n:Nat)(o:aJ)(K:AS->Prop)(s:AS):Prop :=
 (o.ar=false/\oP P (o.dr dr) n o.d o.op (mkK o s K) s)\/(o.ar=true/\o.fl=true/\opF P n o.d o.op K s)
def uw(P:Program)(dr:Bool)(m:Nat)(K:AS->Prop):List aJ->Nat->AS->Prop
 |[],_,s=>K {s with nx:=s.nx+m}
 |o::r,i,s=>IQ o.g s (fun s=>jE o s/\(opR P dr (s.nx+i) o (uw P dr m K r (i+1)) s\/opW P dr (s.nx+i) o.d o.op (uw P dr m K r (i+1)) s)) (fun s=>uw P dr m K r (i+1) (s.put o.d T.un))
mutual
def T.ren(ρ:Nat->Nat):T->T
 | .own i=>.own (ρ i)
 | .ptr i j off=>.ptr (ρ i) j off
 | .pU i lo hi=>.pU (ρ i) lo hi
 | .agg l=>.agg (T.bK ρ l)
 | .fn f cap=>.fn f (T.bK ρ cap)
 | .dQ l=>.dQ (T.bK ρ l)
 |t=>t
def T.bK(ρ:Nat->Nat):List T->List T
 |[]=>[]
 |t::ts=>T.ren ρ t::T.bK ρ ts
end
mutual
def T.sub(Z:Nat->Prop)(h:Hp):T->T->Prop
 | .any,_=>True
 | .sl k f l,.sl k' f' l'=>(l=l'\/(T.dF Z h l l'/\ ∀ t∈l,t.kd=k))/\(k=k'\/l=[])/\(f=true->f'=true)
 | .sl k f l,.pU i lo hi=>f=false/\Z i/\T.bW l=true/\k≠iM/\ ∃ ty l',h i=some ⟨ty,k,l'⟩/\hi<=l'.length/\l=(l'.take hi).drop lo
 | .sl k f l,.own i=>f=false/\Z i/\T.bW l=true/\k≠iM/\ ∃ ty,h i=some ⟨ty,k,l⟩
 | .ref k t,.ptr i j o=>o=0/\Z i/\T.free t=true/\k≠iM/\ ∃ ty l',h i=some ⟨ty,k,l'⟩/\l'[j]? =some t
 | .agg l,.agg l'=>T.dF Z h l l'
 | .dQ l,.dQ l'=>T.dF Z h l l'
 |t,t'=>t=t'
def T.dF(Z:Nat->Prop)(h:Hp):List T->List T->Prop
 |[],[]=>True
 |t::ts,t'::ts'=>T.sub Z h t t'/\T.dF Z h ts ts'
 |_,_=>False
end
def gG:T->Bool
 | .dQ [.lit (.int .i64 _),_]=>true
 |_=>false
structure LK(Z:Nat->Prop)(h:Hp)(ρ:Nat->Nat)(ob ob':Ob):Prop where
 ty:ob'.ty=ob.ty
 k:ob'.k=ob.k
 l:T.dF Z h (T.bK ρ ob.l) ob'.l
 kd:(ob.k=iM/\ob.l.all gG=true)\/(ob.k≠iM/\ ∀ t∈ob.l,t.kd=ob.k)
structure adN(Z:Nat->Prop)(ρ:Nat->Nat)(s s':AS):Prop where
 fr:T.dF Z s'.hp (T.bK ρ s.fr) s'.fr
 hp: ∀ i ob,s.hp i=some ob-> ∃ ob',s'.hp (ρ i)=some ob'/\ ¬ Z (ρ i)/\LK Z s'.hp ρ ob ob'
 inj: ∀ i j,(s.hp i).isSome=true->(s.hp j).isSome=true->ρ i=ρ j->i=j
 mf:T.aQ (· <s.nx) s.fr
 mh:oO (· <s.nx) s.hp
 pin:s.pin=s'.pin
 le:s'.pin<=s.nx
 fix: ∀ i,i<s.pin->(s.hp i).isSome=true->ρ i=i
def Qe(s s':AS):Prop:= ∃ i k' ty k,s'.fr.getD i .any= .sl k' true []/\AO k=true /\
 s= {s' with fr:=s'.fr.set i (.own s'.nx),hp:=upd s'.hp s'.nx (some ⟨ty,k,[]⟩),nx:=s'.nx+1}
def Qg(s s':AS):Prop:= ∃ j c k' ty k oty cs,s'.hp j=some ⟨oty,cs.length+1,[.agg cs]⟩/\c<cs.length/\cs.getD c .any= .sl k' true []/\AO k=true/\j<s'.nx /\
 s= {s' with hp:=upd (upd s'.hp j (some ⟨oty,cs.length+1,[.agg (cs.set c (.own s'.nx))]⟩)) s'.nx (some ⟨ty,k,[]⟩),nx:=s'.nx+1}
def VO(s s':AS):Prop:= ∃ j k' ty k oty,s'.hp j=some ⟨oty,0,[.sl k' true []]⟩/\AO k=true/\j<s'.nx /\
 s= {s' with hp:=upd (upd s'.hp j (some ⟨oty,0,[.own s'.nx]⟩)) s'.nx (some ⟨ty,k,[]⟩),nx:=s'.nx+1}
def LM(s s':AS):Prop:= ∃ j i hi ob,s'.fr.getD j .any= .pU i 0 hi/\s'.hp i=some ob/\i<s'.nx/\hi<=ob.l.length/\ob.k≠iM /\
 s= {s' with fr:=s'.fr.set j (.own s'.nx),hp:=upd (upd s'.hp i none) s'.nx (some ⟨ob.ty,ob.k,ob.l.take hi⟩),nx:=s'.nx+1}
structure abb(Z:Nat->Prop)(s s':AS):Prop where
 fr:T.dF Z s'.hp s.fr s'.fr
 hp: ∀ i ob,s.hp i=some ob-> ∃ ob',s'.hp i=some ob'/\ ¬ Z i/\ob'.ty=ob.ty/\ob'.k=ob.k/\T.dF Z s'.hp ob.l ob'.l/\ob.l.map T.kd=ob'.l.map T.kd/\ob.l.map gG=ob'.l.map gG
 nx:s.nx=s'.nx
 pin:s.pin=s'.pin
inductive IU:AS->AS->Prop
 |refl (s:AS):IU s s
 |slot {s s' s'':AS}:Qe s' s''->IU s s'->IU s s''
 |cell {s s' s'':AS}:Qg s' s''->IU s s'->IU s s''
 |box {s s' s'':AS}:VO s' s''->IU s s'->IU s s''
 |take {s s' s'':AS}:LM s' s''->IU s s'->IU s s''
 |fz {s s' s'':AS} {Z:Nat->Prop}:abb Z s' s''->IU s s'->IU s s''
def Wk(s s':AS):Prop:= ∃ s1,IU s1 s'/\(s=s1\/ ∃ Z ρ,adN Z ρ s s1)
def BG(body:(rP->AS->Prop)->AS->Prop)(Q:rP->AS->Prop)(s:AS):Prop :=
 ∃ (I:AS->Prop) (μ:AS->Nat),(∃ s₀,Wk s₀ s/\I s₀) /\
  ∀ s,I s->body (fun e s'=>match e with| .normal=> ∃ s₁,Wk s₁ s'/\I s₁/\μ s₁<μ s|e=>Q e s') s
def aw(P:Program):dZ->(rP->AS->Prop)->AS->Prop
 | .skip,Q,s=>Q .normal s
 | .reg dr ops,Q,s=>uw P dr ops.length (Q .normal) ops 0 s
 | .seq a b,Q,s=>aw P a (fun e s'=>match e with| .normal=>aw P b Q s'|e=>Q e s') s
 | .cond c a b,Q,s =>
  match s.ev c with
  | .lit (.bool t)=>(t=true->aw P a Q s)/\(t=false->aw P b Q s)
  |_=>False
 | .blk id b,Q,s=>aw P b (fun e s'=>match e with| .exit j=>(bif j==id then Q .normal s' else Q (.exit j) s')|e=>Q e s') s
 | .exit id,Q,s=>Q (.exit id) s
 | .ret,Q,s=>Q .ret s
 | .loop b,Q,s=>BG (aw P b) Q s
def Qh:Value->T
 | .slice none 0 0=>.sl 0 true []
 |v=>.lit v
def BH:Value->T
 | .agg cs=>.agg (cs.toList.map Qh)
 |v=>Qh v
def Qi:Value->Bool
 | .agg cs=>cs.all (·.oneCell')
 |_=>true
def bD:Operand->Option X
 | .tmp t=>some (.t t)
 | .const v=>if Qi v then some (.c (BH v)) else none
 | .func f=>if f<4096 then some (.c (.fn f [])) else none
 | .global _=>none
def kindOf(P:Program)(ty:TypeId):Option Nat :=
 match P.info? ty,P.underlying ty with
 |some i,some (.struct _)=>if i.size<1000000 then some (i.size+1) else none
 |some i,some (.array _ _)=>if i.size<1000000 then some (i.size+1) else none
 |some i,some _=>if i.size=1 then some 0 else none
 |_,_=>none
def LP(g:TypeId->Option Nat):List Field->Nat->Option Nat
 |[],off=>some off
 |f::fs,off=>if f.name≠ "_" /\ f.offset=off then(match g f.type with|some n=>LP g fs (off+n)|none=>none) else none
def AQ(P:Program):Nat->TypeId->Option Nat
 |0,_=>none
 |d+1,t=>match P.underlying t,kindOf P t with
  |some (.int .i64),some 0=>some 1
  |some (.struct fs),some k=>if P.stoodInHeld t=false/\P.eqGuardType P.depth t=false then(match LP (AQ P d) fs.toList 0 with|some n=>if k=n+1 then some n else none|none=>none) else none
  |_,_=>none
def zeroOf(P:Program)(ty:TypeId):Option Value:=(P.info? ty).bind (·.zero)
def D8(P:Program)(ty:TypeId)(f:Nat):Option (Nat×Nat) :=
 match P.underlying ty with
 |some (.struct fs)=>match fs[f]? with
  |some fd=>match kindOf P fd.type with
   |some k=>if bn k=0 then none else some (fd.offset,k)
   |none=>none
  |none=>none
 |_=>none
def elemOf(P:Program)(ty:TypeId):Option TypeId :=
 match P.underlying ty with
 |some (.slice e)=>some e
 |_=>none
def kH(z:Value):Bool:=z.cells.all (·.oneCell')
def kR:List (Nat×Operand)->Option (List (Nat×X))
 |[]=>some []
 |(i,x)::r=>match bD x,kR r with
  |some x',some r'=>some ((i,x')::r')
  |_,_=>none
def compFields(P:Program)(ty:TypeId):List (Nat×Operand)->Option (List (Nat×Nat×X))
 |[]=>some []
 |(i,x)::r=>match bD x,D8 P ty i,compFields P ty r with
  |some x',some (off,k),some r'=>some ((off,bn k,x')::r')
  |_,_,_=>none
def qJ:List Operand->Option (List X)
 |[]=>some []
 |x::r=>match bD x,qJ r with
  |some x',some r'=>some (x'::r')
  |_,_=>none
def CU:Option Operand->Option (Option X)
 |none=>some none
 |some x=>(bD x).map some
def rU(P:Program)(b:Builtin)(argTypes:List TypeId)(xs:List X):Option oN :=
 match b,argTypes,xs with
 | .len,t::_,[x] =>
  match P.underlying t with
  |some (.slice _)=>some (.len false x)
  |some .string=>some (.len true x)
  |_=>none
 | .clear,t::_,[x] =>
  match P.underlying t with
  |some (.slice e)=>match kindOf P e,zeroOf P e with
   |some k,some z=>if kH z/\0<bn k then some (.VK k (BH z) x) else none
   |_,_=>none
  |_=>none
 | .max,_,[x,y]=>some (.mx x y)
 | .append,[t,t'],[x,y] =>
  match P.underlying t,P.underlying t' with
  |some (.slice e),some (.slice e') =>
   match kindOf P e,P.info? e with
   |some k,some i=>match i.zero with
    |some z=>if e=e'/\z.cells.size=bn k/\0<bn k then some (.app e k i.bytes x y) else none
    |none=>none
   |_,_=>none
  |_,_=>none
 |_,_,_=>none
def isRow:Value->Bool
 | .slice _ _ _=>true
 |_=>false
def afV(z:Value):Bool:=z.cells.any isRow
def tH(P:Program)(nd:Bool):Op->Option oN
 | .move x=>(bD x).map .mv
 | .assign x=>(bD x).map .mv
 | .pick c a b=>match bD c,bD a,bD b with
  |some c,some a,some b=>some (.pick c a b)
  |_,_,_=>none
 | .binOp op t x y _=>match bD x,bD y with
  |some x,some y=>match P.underlying t with
   |some (.int _)=>some (.bin op x y)
   |some .string=>some (.bin op x y)
   |some .bool=>match op with
    | .eql=>some (.bb false x y)
    | .neq=>some (.bb true x y)
    |_=>none
   |some (.struct _)=>match AQ P 20 t,op with
    |some n,.eql=>some (.eqs false n x y)
    |some n,.neq=>some (.eqs true n x y)
    |_,_=>none
   |some (.slice _)=>match op,y with
    | .eql,.c (.sl 0 true [])=>some (.BD x)
    |_,_=>none
   |_=>none
  |_,_=>none
 | .makeInterface _ _=>some .bot
 | .panic _=>some .bot
 | .unOp .not _ x=>(bD x).map .not
 | .convert src dst x=>match bD x,P.underlying src,P.underlying dst with
  |some x,some _,some (.int k)=>some (.conv k x)
  |_,_,_=>none
 | .fieldAddr ty x f=>match bD x,D8 P ty f with
  |some x,some (off,k)=>some (.fa off k x)
  |_,_=>none
 | .indexAddr ty x i=>match bD x,bD i,elemOf P ty with
  |some x,some i,some e=>(kindOf P e).map fun k=>.ia k x i
  |_,_,_=>none
 | .index ty x i=>match bD x,bD i,P.underlying ty with
  |some x,some i,some .string=>some (.ch x i)
  |_,_,_=>none
 | .load ty x=>match bD x,kindOf P ty with
  |some x,some k=>some (.ld k x)
  |_,_=>none
 | .store ty x v=>match bD x,bD v,kindOf P ty with
  |some x,some v,some k=>some (.st k x v)
  |_,_,_=>none
 | .build ty ps=>match P.underlying ty,zeroOf P ty,compFields P ty ps.toList with
  |some (.struct fs),some (.agg cs),some ps =>
   if kH (.agg cs)/\(fs.toList.mapM (fun f=>(P.info? f.type).map fun i=>(f.offset,i.size))).isSome=true then some (.mk (cs.toList.map Qh) ps) else none
  |some (.array _ e),some (.agg cs),_=>match kR ps.toList,kindOf P e with
   |some ps,some 0=>if kH (.agg cs) then some (.mk (cs.toList.map Qh) (ps.map fun p=>(p.1,1,p.2))) else none
   |_,_=>none
  |_,_,_=>none
 | .buildSlice ty n ps=>match elemOf P ty,kR ps.toList with
  |some e,some ps=>match kindOf P e,zeroOf P e with
   |some k,some z=>if kH z/\(BH z).kd=k then(if nd=true/\afV z=true then some (.BR e k (BH z) n ps) else some (.ms e k (BH z) n ps)) else none
   |_,_=>none
  |_,_=>none
 | .slice ty x lo hi mx=>match bD x,CU lo,CU hi,CU mx with
  |some x,some lo,some hi,some mx=>match P.underlying ty with
   |some (.slice e)=>(kindOf P e).map fun k=>bif nd then .YW k x lo hi mx else .sl k x lo hi mx
   |_=>none
  |_,_,_,_=>none
 | .extract x i=>(bD x).map fun x=>.ex x i
 | .makeFunc (.func f) first cap=>if first.size=0 then(qJ cap.toList).map fun c=>.mf f c else
   match first.toList,cap.toList with
   |[x],[]=>(bD x).map fun x=>.mb f x
   |_,_=>none
 | .box ty x=>match bD x,kindOf P ty with
  |some x,some k=>some (.box ty k x)
  |_,_=>none
 | .alloc ty=>match kindOf P ty,zeroOf P ty with
  |some k,some z=>if kH z then some (.al ty k (BH z)) else none
  |_,_=>none
 | .makeSlice ty n c=>match bD n,bD c,elemOf P ty with
  |some n,some c,some e=>match kindOf P e,P.info? e with
   |some k,some i=>match i.zero with
    |some z=>if kH z then some (.make e k i.bytes (BH z) n c) else none
    |none=>none
   |_,_=>none
  |_,_,_=>none
 | .call c=>match qJ c.args.toList with
  |some xs=>match c.callee with
   | .value (.func f)=>some (.call f xs)
   | .value x=>(bD x).map fun x=>.jc x xs
   | .builtin b=>rU P b c.argTypes.toList xs
   | .invoke _ _=>none
  |none=>none
 |_=>none
theorem addr_add(b off n:Nat):(⟨b,off,none⟩:Addr).add n=⟨b,off+n,none⟩:=by
 unfold Addr.add; split<;>simp_all
theorem Qj{w:World}{b:Nat}{cur:Array Value}{e:TypeId}{m:Nat×Nat}(h:w.heap[b]? =some (.cells cur e m))(off:Nat) :
  w.cell? ⟨b,off,none⟩=cur[off]? :=by
 simp[World.cell?,h]
section kinds
variable {P:Program} {ty k:Nat} {w:World}
theorem wM(h:kindOf P ty=some k): ∃ i d,P.info? ty=some i/\P.underlying ty=some d/\i.size=bn k /\
  ((match d with| .struct _=>true| .array _ _=>true|_=>false)=(k !=0)):=by
 unfold kindOf at h;split at h
 ·rename_i i fs h1 h2;split at h
  ·cases h; exact⟨i,_,h1,h2,rfl,by simp⟩
  ·cases h
 ·rename_i i n e h1 h2;split at h
  ·cases h; exact⟨i,_,h1,h2,rfl,by simp⟩
  ·cases h
 ·rename_i i d hs ha h1 h2;split at h
  ·cases h;refine⟨i,d,h1,h2,by simpa [bn],?_⟩;cases d<;>simp_all
  ·cases h
 ·cases h
theorem CV(h:kindOf P ty=some k):k≠iM:=by
 unfold kindOf at h;split at h
 ·split at h
  ·cases h; simp only[iM]; omega
  ·cases h
 ·split at h
  ·cases h; simp only[iM]; omega
  ·cases h
 ·split at h
  ·cases h; simp only[iM]; omega
  ·cases h
 ·cases h
theorem jq(h:kindOf P ty=some k):(sizeOf ty).run P w= .ok (bn k) w:=by
 obtain⟨i,d,h1,_,h3,_⟩:=wM h;simp[sizeOf,typeInfo,h1,h3]
theorem Aw(h:kindOf P ty=some k):(isAgg ty).run P w= .ok (k !=0) w:=by
 obtain⟨i,d,_,h2,_,h4⟩:=wM h;rw[<- h4];simp only[isAgg,underlying];cases d<;>simp[h2]
theorem Gw(h:kindOf P ty=some k){b off:Nat}{cur:Array Value}{e:TypeId}{m:Nat×Nat}(hh:w.heap[b]? =some (.cells cur e m))
  (hl:off+bn k<=cur.size) :
  (k≠0->(loadVar ty ⟨b,off,none⟩).run P w= .ok (.agg ((cur.toList.drop off).take (bn k)).toArray) w) /\
  (k=0-> ∃ v,cur[off]? =some v/\(loadVar ty ⟨b,off,none⟩).run P w= .ok v w):=by
 constructor
 ·intro hk;have hlen:((cur.toList.drop off).take (bn k)).length=bn k:=by simp; omega
  have hc:=run_loadCells_list (P:=P) w ⟨b,off,none⟩ ((cur.toList.drop off).take (bn k)) (fun j v hv=>by
   rw[addr_add,Qj hh];by_cases hj:j<bn k
   ·rw[cX hj,cV] at hv; simpa using hv
   ·rw[fe (by omega)] at hv; cases hv)
  rw[hlen] at hc;have hk':(k !=0)=true:=by simpa using hk
  simp only[loadVar,Sem.run_bind,Aw h,Result.andThen_ok,hk',cj,jq h,hc,Sem.run_pure]
 ·rintro rfl;simp only[bn] at hl;have hv:cur[off]? =some (cur[off]'(by omega)):=by simp
  refine⟨_,hv,?_⟩;simp only[loadVar,Sem.run_bind,Aw h,Result.andThen_ok];simp[load,Sem.run,Qj hh,hv]
end kinds
section ops
variable {P:Program} {F:Fr P} {M:Nat->Prop} {E:Env} {s:AS} {a:Act}
theorem LQ{v:Value}:aN E (Qh v) [v]:=by
 unfold Qh;split
 ·exact⟨none,0,rfl,by simp,by simp,.inl rfl⟩
 ·simp[aN]
theorem Qk(v:Value):(Qh v).kd=0:=by unfold Qh; split<;>rfl
theorem D9: ∀ {vs:List Value},(∀ v∈vs,v.oneCell'=true)->aW E (vs.map Qh) vs:=by
 intro vs;induction vs with
 |nil=>intro _; simp[aW]
 |cons v vs ih =>
  intro h;simp only[cG,aW];exact⟨Qk v,v,vs,rfl,h v (by simp),LQ,ih fun u hu=>h u (by simp[hu])⟩
theorem VP{v:Value}(h: ∀ cs,v≠ .agg cs):BH v=Qh v:=by
 cases v<;>first|rfl|exact absurd rfl (h _)
theorem abd{v:Value}(h:Qi v=true):jX E (BH v) v:=by
 cases v with
 |agg cs =>
  rw[BH,zL]
  exact⟨cs,rfl,D9 fun u hu=>by
   simp only[Qi,eV] at h
   exact h u (by simpa using hu)⟩
 |_=>rw[VP (by intro cs hcs; cases hcs)]; exact .inr ⟨Qk _,LQ⟩
theorem J9(v:Value):(Qh v).ids (fun _=>False):=by unfold Qh; split<;>simp[T.ids]
theorem adO(v:Value):(BH v).ids (fun _=>False):=by
 cases v with
 |agg cs=>simp only[BH,T.ids]; exact bP.2 fun t ht=>by obtain⟨u,_,rfl⟩:=av.1 ht; exact J9 u
 |_=>rw[VP (by intro cs hcs; cases hcs)]; exact J9 _
theorem Ql{f:FuncId}(h:f<4096){cs:Array Value}:fnV f cs= .func (.func f) #[] cs:=by
 unfold fnV; rw[cW.mpr h]; rfl
theorem XB{f:FuncId}(h: ¬ f<4096){cs:Array Value}:fnV f cs= .func (.func (f % 4096)) #[.agg cs] #[]:=by
 unfold fnV
 have:Nat.blt f 4096=false:=by
  cases h':Nat.blt f 4096 with
  |false=>rfl
  |true=>rw[cW] at h'; exact absurd h' h
 rw[this]; rfl
theorem afW{f:FuncId}(h:f<4096){cs:Array Value}:fnV (f+4096) cs= .func (.func f) #[.agg cs] #[]:=by
 rw[XB (fun q=>Nat.not_lt_of_le (Nat.le_add_left 4096 f) q)];have e:(f+4096) % 4096=f:=by rw[Nat.add_mod_right]; exact Nat.mod_eq_of_lt h
 rw[e]
theorem OM(f:FuncId)(cs:Array Value):(f<4096/\fnV f cs= .func (.func f) #[] cs)\/(¬ f<4096/\fnV f cs= .func (.func (f % 4096)) #[.agg cs] #[]):=by
 by_cases h:f<4096
 ·exact .inl ⟨h,Ql h⟩
 ·exact .inr ⟨h,XB h⟩
theorem dO(R:Rel F M E s a){x:Operand}{x':X}(h:bD x=some x'):jX E (s.ev x') (a.eval x):=by
 cases x with
 |tmp t =>
  cases h;have:=xJ R.fr t;simpa [AS.ev,Act.eval] using this
 |const v =>
  simp only[bD] at h;split at h
  ·cases h; exact abd (by assumption)
  ·cases h
 |global g=>cases h
 |func f =>
  simp only[bD] at h;split at h
  ·rename_i hf;cases h;exact .inr ⟨rfl,by simp only[AS.ev,aN,Act.eval]; exact .inl ⟨cW.mpr (Nat.lt_trans hf (by decide)),#[],by rw[Ql hf],rfl⟩⟩
  ·cases h
theorem mX(R:Rel F M E s a){x:Operand}{x':X}(h:bD x=some x'):(s.ev x').ids M:=by
 cases x with
 |tmp t=>cases h; exact wJ R.mf (by simp[T.ids])
 |const v =>
  simp only[bD] at h;split at h
  ·cases h; exact T.bg (fun _ hf=>hf.elim) _ (adO v)
  ·cases h
 |global g=>cases h
 |func f =>
  simp only[bD] at h;split at h
  ·cases h; simp[AS.ev,T.ids,T.aQ]
  ·cases h
def yG(P:Program)(E:Env)(a:Act)(o:Oper)(t:T):Prop :=
 ∃ v,(execOp a.eval o).run P E.w= .ok (.value v) E.w/\jX E t v
theorem ahk(R:Rel F M E s a){x:Operand}{x':X}(hx:bD x=some x'){o:Oper}(ho:o.op= .move x\/o.op= .assign x):yG P E a o (s.ev x'):=by
 refine⟨_,?_,dO R hx⟩;rcases ho with ho|ho<;>simp[execOp,ho]
theorem Ko{t:T}(h:isBool t=true): ∃ b,t= .lit (.bool b):=by
 unfold isBool at h; split at h
 ·exact⟨_,rfl⟩
 ·cases h
theorem afX(R:Rel F M E s a){c x y:Operand}{c' x' y':X}(hc:bD c=some c')(hx:bD x=some x')(hy:bD y=some y'){o:Oper}
  (ho:o.op= .pick c x y) (h:qc s (.pick c' x' y')):yG P E a o (qt s (.pick c' x' y')):=by
 have rc:=dO R hc; have rx:=dO R hx; have ry:=dO R hy;obtain⟨b,hb⟩:=Ko h;rw[hb,aX] at rc;refine⟨if b then a.eval x else a.eval y,?_,?_⟩
 ·simp[execOp,ho,rc,asBool]
 ·simp only[qt,hb,CP];split
  ·rename_i e1 e2; rw[e1,aX] at rx; rw[e2,aX] at ry; rw[rx,ry,aX]; cases b<;>rfl
  ·cases b<;>simpa
theorem afY{k k':IntKind}(h:kEq k k'=true):k=k':=by cases k<;>cases k'<;>first|rfl|cases h
theorem adP{op:BinOp}{u v r:Value}(h:Et op u v=some r)(t:TypeId)(x y:Operand)(w:World) :
  (do eqGuard op t x y u v; binOp op t u v:Sem Value).run P w= .ok r w:=by
 unfold Et at h;split at h
 ·rename_i k c k' d;by_cases hsh:op= .shr
  ·subst hsh;have hg:eqGuard BinOp.shr t x y (.int k c) (.int k' d)=pure ():=by unfold eqGuard; rfl
   rw[hg];have h':(bif decide (0<=d) then some (Value.int k (c.fdiv (2 ^ min d.toNat k.bits))) else none)=some r:=by cases hk:kEq k k'<;>rw[hk] at h<;>exact h
   by_cases hd:0<=d
   ·simp only[hd,decide_true,bS,bR] at h';subst h';have hd': ¬ d<0:=by omega
    simp[binOp,Op.shift,hd']
   ·simp[hd] at h'
  cases hk:kEq k k' with
  |false=>rw[hk] at h; cases op<;>first|(exact absurd rfl hsh)|(simp at h)
  |true =>
   have:=afY hk;subst this;have hg:eqGuard op t x y (.int k c) (.int k d)=pure ():=by
    unfold eqGuard; cases op<;>rfl
   rw[hg];rw[hk] at h;by_cases hr:op= .rem
   ·subst hr;by_cases hd:d=0
    ·simp[hd] at h
    ·simp only[hd,decide_false,bO,bR] at h;subst h;simp[binOp,Op.intDiv,hd]
   cases op<;>first|(exact absurd rfl hsh)|(exact absurd rfl hr)|(simp at h<;>subst h<;>simp[binOp,Op.intArith,Op.intCmp,Op.intBits,afT])
 ·rename_i c d;have hg:eqGuard op t x y (.string c) (.string d)=pure ():=by
   unfold eqGuard; cases op<;>rfl
  rw[hg];by_cases ha:op= .add
  ·subst ha;by_cases hs:(((c.size+d.size:Nat):Int)<=9223372036854775807)
   ·simp only[hs,decide_true,bS,bR] at h;subst h;have hn: ¬ (((c.size+d.size:Nat):Int)>IntKind.i64.max):=by
     have:IntKind.i64.max=9223372036854775807:=by decide
     rw[this]; omega
    show Sem.run P (do pure (); if((c.size+d.size:Nat):Int)>IntKind.i64.max then _ else pure (Value.string (c++d))) w=_;rw[bX hn]; rfl
   ·simp only[hs,decide_false,bO] at h; cases h
  cases op<;>first|(exact absurd rfl ha)|(simp at h<;>subst h<;>simp[binOp,Op.stringOp])
 ·cases h
theorem aft(R:Rel F M E s a){op:BinOp}{t ty':TypeId}{x y:Operand}{x' y':X}(hx:bD x=some x')(hy:bD y=some y'){o:Oper}
  (ho:o.op= .binOp op t x y ty') (h:qc s (.bin op x' y')):yG P E a o (qt s (.bin op x' y')):=by
 have rx:=dO R hx; have ry:=dO R hy;simp only[qc] at h;split at h
 ·rename_i u v e1 e2;rw[e1,aX] at rx; rw[e2,aX] at ry;cases hb:Et op u v with
  |none=>rw[hb] at h; cases h
  |some r =>
   refine⟨r,?_,?_⟩
   ·simp only[execOp,ho,rx,ry];have:=adP (P:=P) hb t x y E.w;simp only[Sem.run_bind] at this ⊢;rw[this]; rfl
   ·simp only[qt,e1,e2,hb,aX]
 ·exact h.elim
theorem ahl(R:Rel F M E s a){op:BinOp}{t ty':TypeId}{ne:Bool}{x y:Operand}{x' y':X}(hx:bD x=some x')(hy:bD y=some y'){o:Oper}
  (ho:o.op= .binOp op t x y ty') (hop:op=if ne then .neq else .eql) (ht:P.underlying t=some .bool) (h:qc s (.bb ne x' y')):yG P E a o (qt s (.bb ne x' y')):=by
 have rx:=dO R hx; have ry:=dO R hy;simp only[qc,aD] at h;obtain⟨b,hb⟩:=Ko h.1;obtain⟨c,hc⟩:=Ko h.2;rw[hb,aX] at rx; rw[hc,aX] at ry;refine⟨.bool (bif ne then !(b==c) else b==c),?_,by simp only[qt,hb,hc,aX]⟩;have heq:(Op.equal t (.bool b) (.bool c)).run P E.w= .ok (b==c) E.w:=by
  have h: ∀ d,(Op.equalIn (d+1) t (.bool b) (.bool c)).run P E.w= .ok (b==c) E.w:=fun d=>by
   simp only[Op.equalIn,underlying,Sem.run_bind,run_program,Result.andThen_ok,ht,Sem.run_pure]
  exact h 9999
 have hg:eqGuard op t x y (.bool b) (.bool c)=pure ():=by
  unfold eqGuard; cases op<;>rfl
 cases ne
 ·simp only[hop,da,cQ] at ho hg ⊢;simp only[execOp,ho,rx,ry,hg,binOp,Sem.run_bind,Sem.run_pure,Result.andThen_ok,heq,bO]
 ·simp only[hop,cj] at ho hg ⊢;simp only[execOp,ho,rx,ry,hg,binOp,Sem.run_bind,Sem.run_pure,Result.andThen_ok,heq,bS]
theorem ahm(R:Rel F M E s a){t:TypeId}{x:Operand}{x':X}(hx:bD x=some x'){o:Oper}
  (ho:o.op= .unOp .not t x) (h:qc s (.not x')):yG P E a o (qt s (.not x')):=by
 have rx:=dO R hx;obtain⟨b,hb⟩:=Ko h;rw[hb,aX] at rx;exact⟨.bool !b,by simp[execOp,ho,rx,Op.unary],by simp only[qt,hb,aX]⟩
theorem afZ(R:Rel F M E s a){src dst:TypeId}{k:IntKind}{d:TypeDesc}{x:Operand}{x':X}(hx:bD x=some x'){o:Oper}
  (ho:o.op= .convert src dst x) (h1:P.underlying src=some d) (h2:P.underlying dst=some (.int k)) (h:qc s (.conv k x')):yG P E a o (qt s (.conv k x')):=by
 have rx:=dO R hx;simp only[qc] at h;split at h
 ·rename_i k' n e1;rw[e1,aX] at rx;refine⟨.int k (k.wrap n),?_,by simp only[qt,e1,aX]⟩;simp[execOp,ho,rx,convert,underlying,h1,h2,Conv.intToInt]
 ·exact h.elim
theorem LU{ty f off k:Nat}(h:D8 P ty f=some (off,k)): ∃ fs fd,P.underlying ty=some (.struct fs)/\fs[f]? =some fd/\kindOf P fd.type=some k/\bn k≠0/\fd.offset=off:=by
 unfold D8 at h;split at h
 ·rename_i fs h1;split at h
  ·rename_i fd h2;split at h
   ·rename_i k' h3;split at h
    ·cases h
    ·rename_i h4; cases h; exact⟨fs,fd,h1,h2,h3,h4,rfl⟩
   ·cases h
  ·cases h
 ·cases h
theorem JC{ty f off k:Nat}(h:D8 P ty f=some (off,k))(b o:Nat)(w:World) :
  (Instr.fieldAt ty (.pointer (some ⟨b,o,none⟩)) f).run P w= .ok (.pointer (some ⟨b,o+off,none⟩)) w:=by
 obtain⟨fs,fd,h1,h2,h3,h4,rfl⟩:=LU h;simp only[Instr.fieldAt,underlying,Sem.run_bind,run_program,Result.andThen_ok,h1,Sem.run_pure,h2,Instr.sureAddr,fieldPlace,jq h3,h4,cQ,addr_add]
theorem aij(R:Rel F M E s a){ty f off k:Nat}{x:Operand}{x':X}(hx:bD x=some x'){o:Oper}
  (ho:o.op= .fieldAddr ty x f) (hf:D8 P ty f=some (off,k)) (h:qc s (.fa off k x')):yG P E a o (qt s (.fa off k x')):=by
 have rx:=dO R hx;simp only[qc] at h;split at h
 ·rename_i i j oo e1;rw[e1,aF rfl] at rx;simp only[aN] at rx;obtain⟨u,hu,hlive⟩:=rx;obtain⟨b,n,c,hφ,hu'⟩:=hlive (by rw[R.he]; exact h);have ha:a.eval x= .pointer (some ⟨b,j*bn (E.κ i)+oo,none⟩):=by rw[<- hu']; simpa using hu
  refine⟨.pointer (some ⟨b,j*bn (E.κ i)+oo+off,none⟩),?_,?_⟩
  ·simp[execOp,ho,ha,JC hf]
  ·simp only[qt,e1];rw[aF rfl];simp only[aN];exact⟨_,rfl,fun _=>⟨b,n,c,hφ,by rw[gP]⟩⟩
 ·rename_i kt t e1;rw[e1,aF rfl] at rx;simp only[aN] at rx;obtain⟨b,off',cur,e,m,hu,hS,hh,hk,hid,hl,hr⟩:=rx;simp only[aD,bo,bq,ne_eq] at h;have ha:a.eval x= .pointer (some ⟨b,off',none⟩):=by simpa using hu
  have hkt:t.kd≠0:=by rw[hk]; exact h.1
  have hp:=OL hr hkt (off:=off) (k:=k) (by rw[<- qI,hk]; exact h.2);refine⟨.pointer (some ⟨b,off'+off,none⟩),?_,?_⟩
  ·simp[execOp,ho,ha,JC hf]
  ·simp only[qt,e1];rw[aF rfl];simp only[aN];refine⟨b,off'+off,cur,e,m,rfl,hS,hh,hp.2.1,SI hid _ _,?_,?_⟩
   ·have:=hp.2.2;simp only[bE,cB] at this hl ⊢; omega
   ·have h1:=hp.1;rw[List.drop_take,List.take_take,di] at h1;have h2:=h.2;simp only[qH,et] at h2;rw[en (by omega)] at h1;exact h1
 ·exact h.elim
theorem wO{ty e:Nat}(h:elemOf P ty=some e):P.underlying ty=some (.slice e):=by
 unfold elemOf at h;split at h
 ·rename_i e' h1; cases h; exact h1
 ·cases h
theorem run_indexAt{ty e k:Nat}(he:elemOf P ty=some e)(hk:kindOf P e=some k){b off len cap:Nat}{kd:IntKind}{n:Int}(h0:0<=n)(h1:n<len)(w:World) :
  (Instr.indexAt ty (.slice (some ⟨b,off,none⟩) len cap) (.int kd n)).run P w= .ok (.pointer (some ⟨b,off+n.toNat*bn k,none⟩)) w:=by
 have hu:=wO he;simp[Instr.indexAt,asIntOf,underlying,hu,h0,h1,jq hk,addr_add]
theorem aik(R:Rel F M E s a){ty e k:Nat}{x i:Operand}{x' i':X}(hx:bD x=some x')(hi:bD i=some i'){o:Oper}
  (ho:o.op= .indexAddr ty x i) (he:elemOf P ty=some e) (hk:kindOf P e=some k) (h:qc s (.ia k x' i')):yG P E a o (qt s (.ia k x' i')):=by
 have rx:=dO R hx; have ri:=dO R hi;simp only[qc] at h;split at h
 ·rename_i k' full l kd n e1 e2;obtain⟨rfl,h0,h1⟩:=h;rw[e2,aX] at ri;rw[e1,aF rfl] at rx;simp only[aN] at rx;obtain⟨ad,c,hu,hlc,hfull,hrow⟩:=rx;have hne:l≠[]:=by rintro rfl; simp at h1; omega
  obtain⟨b,off,cur,te,m,rfl,hS,hh,hid,hr⟩:=hrow.resolve_left hne;have ha:a.eval x= .slice (some ⟨b,off,none⟩) l.length c:=by simpa using hu
  have hg:=uZ hr (j:=n.toNat) (by omega);refine⟨.pointer (some ⟨b,off+n.toNat*bn k',none⟩),?_,?_⟩
  ·simp[execOp,ho,ha,ri,run_indexAt he hk h0 h1]
  ·simp only[qt,e1,e2];rw[aF rfl];simp only[aN];refine⟨b,_,cur,te,m,rfl,hS,hh,hg.1,wJ hid (by simp[T.ids]),?_,?_⟩
   ·have:=hg.2.1;simp only[cB] at this ⊢; omega
   ·rw[<- di]; exact hg.2.2.2
 ·rename_i oo kd n e1 e2;split at h
  ·rename_i ob hob;obtain⟨rfl,h0,h1⟩:=h;rw[e2,aX] at ri;rw[e1,aF rfl] at rx;simp only[aN] at rx;obtain⟨u,hu,hlive⟩:=rx;have fZ:E.h oo=some ob:=by rw[R.he]; exact hob
   have hφ:=hlive (by rw[fZ]; rfl);obtain⟨hok,JV,hsz⟩:=R.hk.obs oo ob fZ;have ha:a.eval x=E.φ oo:=by rw[<- hφ]; simpa using hu
   rcases hok.row (CV hk) with ⟨ad,_,hnil⟩|⟨g,c,cur,hv,hc,_,hh,hcs,hr⟩
   ·rw[hnil] at h1; simp at h1; omega
   ·refine⟨.pointer (some ⟨g,0+n.toNat*bn ob.k,none⟩),?_,?_⟩
    ·simp[execOp,ho,ha,hv,ri,run_indexAt he hk h0 h1]
    ·simp only[qt,e1,e2];rw[aF rfl];simp only[aN];exact⟨_,rfl,fun _=>⟨g,_,_,hv,by rw[JV]; simp⟩⟩
  ·exact h.elim
 ·rename_i oo lo hi' kd n e1 e2;split at h
  ·rename_i ob hob;obtain⟨rfl,h0,h1⟩:=h;rw[e2,aX] at ri;rw[e1,aF rfl] at rx;simp only[aN] at rx;obtain⟨u,hu,hlive⟩:=rx;have fZ:E.h oo=some ob:=by rw[R.he]; exact hob
   obtain⟨ad,m,c,hφ,hl1,hl2,hl3,hu'⟩:=hlive (by rw[fZ]; rfl);obtain⟨hok,JV,hsz⟩:=R.hk.obs oo ob fZ;have ha:a.eval x=u:=by simpa using hu
   rcases hok.row (CV hk) with ⟨ad',hv,hnil⟩|⟨g,c',cur,hv,hc,_,hh,hcs,hr⟩
   ·rw[hφ] at hv; simp at hv; omega
   ·rw[hφ] at hv;simp only[Value.slice.injEq] at hv;obtain⟨rfl,rfl,rfl⟩:=hv;rw[bX (by omega),JV] at hu';simp only[bx,addr_add,gD] at hu';have h1':n<((hi'-lo:Nat):Int):=h1;refine⟨.pointer (some ⟨g,lo*bn ob.k+n.toNat*bn ob.k,none⟩),?_,?_⟩
    ·simp[execOp,ho,ha,hu',ri,run_indexAt he hk h0 h1']
    ·simp only[qt,e1,e2];rw[aF rfl];simp only[aN];exact⟨_,rfl,fun _=>⟨g,_,_,hφ,by rw[JV]; simp[Nat.add_mul]⟩⟩
  ·exact h.elim
 ·exact h.elim
theorem ail(R:Rel F M E s a){ty:Nat}{x i:Operand}{x' i':X}(hx:bD x=some x')(hi:bD i=some i'){o:Oper}
  (ho:o.op= .index ty x i) (ht:P.underlying ty=some .string) (h:qc s (.ch x' i')):yG P E a o (qt s (.ch x' i')):=by
 have rx:=dO R hx; have ri:=dO R hi;simp only[qc] at h;split at h
 ·rename_i b kd n e1 e2;rw[e1,aX] at rx; rw[e2,aX] at ri;obtain⟨h0,h1⟩:=h;have hlt:n.toNat<b.size:=by omega
  have hb:b[n.toNat]? =some (b[n.toNat]'hlt):=by simp[getElem?_pos,hlt]
  refine⟨.int .u8 (b[n.toNat]'hlt).toNat,?_,?_⟩
  ·simp[execOp,ho,rx,ri,Instr.index,asIntOf,underlying,ht,h0,hb]
  ·simp only[qt,e1,e2,aX]
   have:b.data.getD n.toNat 0=b[n.toNat]'hlt:=by
    rw[dc,eE (by simpa using hlt)]; rfl
   rw[this]
 ·exact h.elim
theorem q_ld(R:Rel F M E s a){ty k:Nat}{x:Operand}{x':X}(hx:bD x=some x'){o:Oper}
  (ho:o.op= .load ty x) (hk:kindOf P ty=some k) (h:qc s (.ld k x')):yG P E a o (qt s (.ld k x')):=by
 have rx:=dO R hx
 have key: ∀ (t:T) (b off:Nat) (cur:Array Value) (e:TypeId) (m:Nat×Nat),E.w.heap[b]? =some (.cells cur e m)->0<bn k->t.kd=k ->
   off+bn k<=cur.size->aN E t ((cur.toList.drop off).take (bn k))->a.eval x= .pointer (some ⟨b,off,none⟩)->yG P E a o t:=by
  intro t b off cur e m hh hpos hkd hl hr ha;obtain⟨g1,g2⟩:=Gw (P:=P) (w:=E.w) hk hh hl;by_cases h0:k=0
  ·obtain⟨v,hv,hrun⟩:=g2 h0;refine⟨v,by simp[execOp,ho,ha,Instr.loadAt,Instr.sureAddr,hrun],.inr ⟨by rw[hkd,h0],?_⟩⟩;subst h0;simp only[bn] at hr hl;rw[eD (by simp; omega),List.take_succ_cons,List.take_zero] at hr
   have:cur.toList[off]'(by simp; omega)=v:=by
    rw[dC] at hv; obtain⟨_,hv⟩:=hv; simpa using hv
   rwa [this] at hr
  ·exact⟨_,by simp[execOp,ho,ha,Instr.loadAt,Instr.sureAddr,g1 h0]; rfl,.inl ⟨by rw[hkd]; exact h0,_,rfl,by simpa using hr⟩⟩
 simp only[qc] at h;split at h
 ·rename_i k' t e1;simp only[aD,bv,cW] at h;obtain⟨rfl,hpos⟩:=h;rw[e1,aF rfl] at rx;simp only[aN] at rx;obtain⟨b,off,cur,e,m,hu,hS,hh,hkd,hid,hl,hr⟩:=rx;simp only[cB,cA] at hl;simp only[qt,e1];exact key t b off cur e m hh hpos hkd (by omega) hr (by simpa using hu)
 ·rename_i i j off e1;split at h
  ·rename_i ob hob;obtain⟨hj,hcond⟩:=h;rw[e1,aF rfl] at rx;simp only[aN] at rx;obtain⟨u,hu,hlive⟩:=rx;have fZ:E.h i=some ob:=by rw[R.he]; exact hob
   obtain⟨b,n,c,hφ,hu'⟩:=hlive (by rw[fZ]; rfl);obtain⟨hok,JV,hsz⟩:=R.hk.obs i ob fZ;rcases(hok.of_slice hφ).1 with ⟨ad,_,hnil⟩|⟨g,c',cur,hv,hc,_,hh,hcs,hr⟩
   ·rw[hnil] at hj; simp at hj
   ·rw[hφ] at hv;have hbg:b=g:=by simp at hv; exact hv.1
    subst hbg;have ha:a.eval x= .pointer (some ⟨b,j*bn ob.k+off,none⟩):=by rw[<- JV,<- hu']; simpa using hu
    obtain⟨r1,r2,r3,r4⟩:=uZ hr hj;simp only[cA] at r2;simp only[qt,e1,hob];cases hw:(off==0&&ob.k==k) with
    |true =>
     simp only[aD,bv] at hw;obtain⟨rfl,rfl⟩:=hw;simp only[bS];exact key _ b _ cur ob.ty (0,0) hh hsz r1 (by omega) (by simpa using r4) ha
    |false =>
     rw[hw,cr,aD,bo,bq] at hcond;simp only[bO];have af0:(ob.l.getD j .any).kd≠0:=by rw[r1]; exact hcond.1
     have hp:=OL r4 af0 (off:=off) (k:=k) (by rw[<- qI,r1]; exact hcond.2);have hpo:=hcond.2;simp only[qH,et] at hpo;by_cases hpos:0<bn k
     ·refine key _ b _ cur ob.ty (0,0) hh hpos hp.2.1 (by omega) ?_ ha;have h1:=hp.1;rw[List.drop_take,List.take_take,di,en (by omega)] at h1;exact h1
     ·have hk1:k=1:=by
       cases k with
       |zero=>simp[bn] at hpos
       |succ m=>simp only[bn] at hpos; omega
      subst hk1;obtain⟨g1,_⟩:=Gw (P:=P) (w:=E.w) hk hh (off:=j*bn ob.k+off) (by have e0:bn 1=0:=rfl; rw[e0] at hpo ⊢; omega);refine⟨_,by simp[execOp,ho,ha,Instr.loadAt,Instr.sureAddr,g1 (by omega)]; rfl,.inl ⟨by rw[hp.2.1]; omega,_,rfl,?_⟩⟩;simp[T.part,aN,aW,bn]
  ·exact h.elim
 ·exact h.elim
theorem Kq{at':Array TypeId}{t:TypeId}{x:Operand}{o:Oper}(ho:o.op= .call {callee:=.builtin .len,args:= #[x],argTypes:=at'})(h0:at'[0]? =some t){n:Nat}
  (h:(P.underlying t=some .string/\ ∃ b,a.eval x= .string b/\b.size=n)\/(∃ e,P.underlying t=some (.slice e)/\ ∃ ad c,a.eval x= .slice ad n c)) :
  (execOp a.eval o).run P E.w= .ok (.value (.int .i64 n)) E.w:=by
 rcases h with ⟨h1,b,h2,rfl⟩|⟨e,h1,ad,c,h2⟩ <;>
  simp[execOp,ho,resolve,invoke,builtin,Builtin.len_,h0,h2,underlying,h1,goInt]
theorem q_len(R:Rel F M E s a){at':Array TypeId}{t:TypeId}{str:Bool}{x:Operand}{x':X}(hx:bD x=some x'){o:Oper}
  (ho:o.op= .call {callee:=.builtin .len,args:= #[x],argTypes:=at'}) (h0:at'[0]? =some t)
  (ht:if str then P.underlying t=some .string else ∃ e,P.underlying t=some (.slice e)) (h:qc s (.len str x')):yG P E a o (qt s (.len str x')):=by
 have rx:=dO R hx;simp only[qc] at h;split at h
 ·rename_i k f l e1;subst h;rw[e1,aF rfl] at rx;simp only[aN] at rx;obtain⟨ad,c,hu,_⟩:=rx;simp only[da,cQ] at ht;obtain⟨e,ht⟩:=ht;refine⟨.int .i64 l.length,Kq ho h0 (.inr ⟨e,ht,ad,c,by simpa using hu⟩),by simp only[qt,e1,aX]⟩
 ·rename_i oo e1;split at h
  ·rename_i ob hob;obtain⟨rfl,hnm⟩:=h;rw[e1,aF rfl] at rx;simp only[aN] at rx;obtain⟨u,hu,hlive⟩:=rx;have fZ:E.h oo=some ob:=by rw[R.he]; exact hob
   have hφ:=hlive (by rw[fZ]; rfl);obtain⟨hok,JV,hsz⟩:=R.hk.obs oo ob fZ;have ha:a.eval x=E.φ oo:=by rw[<- hφ]; simpa using hu
   simp only[da,cQ] at ht;obtain⟨e,ht⟩:=ht;refine⟨.int .i64 ob.l.length,Kq ho h0 (.inr ⟨e,ht,?_⟩),by simp only[qt,e1,hob,aX]⟩;rcases hok.row hnm with ⟨ad,hv,hnil⟩|⟨g,c,cur,hv,_⟩
   ·exact⟨ad,0,by rw[ha,hv,hnil]; rfl⟩
   ·exact⟨_,_,by rw[ha,hv]⟩
  ·exact h.elim
 ·rename_i oo lo hi' e1;obtain⟨rfl,hsome⟩:=h;rw[e1,aF rfl] at rx;simp only[aN] at rx;obtain⟨u,hu,hlive⟩:=rx;obtain⟨ad,m,c,hφ,hl1,hl2,hl3,hu'⟩:=hlive (by rw[R.he]; exact hsome);have ha:a.eval x=u:=by simpa using hu
  simp only[da,cQ] at ht;obtain⟨e,ht⟩:=ht;exact⟨.int .i64 ((hi'-lo:Nat):Int),Kq ho h0 (.inr ⟨e,ht,_,_,by rw[ha,hu']⟩),by simp only[qt,e1,aX]⟩
 ·rename_i b e1;subst h;rw[e1,aX] at rx;simp only[cj] at ht;exact⟨.int .i64 b.size,Kq ho h0 (.inl ⟨ht,b,rx,rfl⟩),by simp only[qt,e1,aX]⟩
 ·exact h.elim
theorem ain(R:Rel F M E s a){at':Array TypeId}{x y:Operand}{x' y':X}(hx:bD x=some x')(hy:bD y=some y'){o:Oper}
  (ho:o.op= .call {callee:=.builtin .max,args:= #[x,y],argTypes:=at'}) (h:qc s (.mx x' y')):yG P E a o (qt s (.mx x' y')):=by
 have rx:=dO R hx; have ry:=dO R hy;simp only[qc] at h;split at h
 ·rename_i k n k' m e1 e2;rw[e1,aX] at rx; rw[e2,aX] at ry;refine⟨.int k (if n<m then m else n),?_,by simp only[qt,e1,e2,aX]⟩;simp[execOp,ho,resolve,invoke,builtin,Builtin.max_,Builtin.max2,rx,ry]
 ·exact h.elim
theorem aio(R:Rel F M E s a){i:Nat}{x:Operand}{x':X}(hx:bD x=some x'){o:Oper}(ho:o.op= .extract x i)(h:qc s (.ex x' i)):yG P E a o (qt s (.ex x' i)):=by
 have rx:=dO R hx;simp only[qc] at h;split at h
 ·rename_i l e1;rw[e1,aF rfl] at rx;simp only[aN] at rx;obtain⟨cs,hu,hr⟩:=rx;have ha:a.eval x= .tuple cs:=by simpa using hu
  have hlen:=qh hr;simp only[cA] at hlen;rw[cW] at h;have hg:=xJ hr i;have hci:cs[i]? =some (cs[i]'(by omega)):=by simp
  refine⟨cs[i]'(by omega),by simp[execOp,ho,ha,Instr.extract,hci],?_⟩;simp only[qt,e1];have e2:l.getD i T.un=l.getD i .any:=by simp[List.getD_eq_getElem?_getD,h]
  have e3:cs.toList.getD i undef=cs[i]'(by omega):=by simp[List.getD_eq_getElem?_getD,hci]
  rw[e2,e3] at hg; exact hg
 ·exact h.elim
theorem xP{xs:List Operand}{xs':List X}(h:qJ xs=some xs')(R:Rel F M E s a):bF E (xs'.map s.ev) (xs.map a.eval)/\T.aQ M (xs'.map s.ev):=by
 induction xs generalizing xs' with
 |nil=>cases h; simp[bF,T.aQ]
 |cons x r ih =>
  simp only[qJ] at h;split at h
  ·rename_i x' r' h1 h2;cases h;obtain⟨i1,i2⟩:=ih h2;rw[cG,cG,dI];exact⟨⟨_,_,rfl,dO R h1,i1⟩,by simp only[T.aQ]; exact⟨mX R h1,i2⟩⟩
  ·cases h
theorem SV{t:T}{v:Value}(hk:rQ F E)(h:jX E t v)(h1:t.BO E.h=true):t.kd=0/\v.oneCell'=true/\aN E t [v]:=by
 have hkd:t.kd=0:=by cases t<;>simp_all[T.BO,T.kd]
 rw[aF hkd] at h;refine⟨hkd,?_,h⟩;cases t with
 |lit u=>simp only[aN] at h; simp only[T.BO] at h1; simp at h; rw[h]; exact h1
 |sl k f l=>simp only[aN] at h; obtain⟨ad,c,hu,_⟩:=h; simp at hu; rw[hu]; rfl
 |ref k t=>simp only[aN] at h; obtain⟨b,off,cur,e,m,hu,_⟩:=h; simp at hu; rw[hu]; rfl
 |fn f cap =>
  simp only[aN] at h;rcases h with ⟨_,cs,hu,_⟩|⟨_,p,_,_,hu,_⟩<;>simp at hu<;>rw[hu]
  ·rcases OM f cs with ⟨_,h1⟩|⟨_,h1⟩<;>rw[h1]<;>rfl
  ·rfl
 |own i =>
  simp only[aN] at h; obtain⟨u,hu,hl⟩:=h;simp only[T.BO] at h1;have:=hl h1;simp at hu; rw[hu,this];obtain⟨ob,hob⟩:=bA.1 h1;rcases(hk.obs i ob hob).1 with ⟨_,⟨ad,hv,_⟩|⟨g,c,cur,hv,_⟩⟩|⟨_,g,es,cl,hv,_⟩<;>rw[hv]<;>rfl
 |ptr i j off =>
  simp only[aN] at h; obtain⟨u,hu,hl⟩:=h;simp only[T.BO] at h1;obtain⟨b,n,c,_,hu'⟩:=hl h1;simp at hu; rw[hu,hu']; rfl
 |pU i lo hi =>
  simp only[aN] at h; obtain⟨u,hu,hl⟩:=h;simp only[T.BO] at h1;obtain⟨ad,n,c,_,_,_,_,hu'⟩:=hl h1;simp at hu; rw[hu,hu']; rfl
 |agg l=>simp[T.BO] at h1
 |dQ l=>simp[T.BO] at h1
 |any=>simp[T.BO] at h1
theorem xQ{t:T}{v:Value}(hk:rQ F E)(h:jX E t v)(h1:t.lC E.h=true):aW E t.cells v.cells.toList:=by
 refine VL h fun hkd=>?_
 cases t with
 |agg l=>simp[T.kd] at hkd
 |_=>exact(SV hk h h1).2.1
theorem YZ(hk:rQ F E): ∀ {ts:List T} {vs:List Value},bF E ts vs->AA E.h ts=true->aW E ts vs:=by
 intro ts;induction ts with
 |nil=>intro vs h _; simp[bF] at h; subst h; simp[aW]
 |cons t ts ih =>
  intro vs h h1;rw[dI] at h;obtain⟨v,r,rfl,h2,h3⟩:=h;simp only[AA,aD] at h1;obtain⟨g1,g2,g3⟩:=SV hk h2 h1.1;simp only[aW];exact⟨g1,v,r,rfl,g2,g3,ih h3 h1.2⟩
theorem aip(R:Rel F M E s a){f:FuncId}{first cap:Array Operand}{cap':List X}(hc:qJ cap.toList=some cap'){o:Oper}
  (ho:o.op= .makeFunc (.func f) first cap) (hf:first.size=0) (h:qc s (.mf f cap')):yG P E a o (qt s (.mf f cap')):=by
 have hfirst:first= #[]:=Array.eq_empty_of_size_eq_zero hf;subst hfirst;simp only[qc,aD,cW] at h;obtain⟨h,hlt⟩:=h;refine⟨.func (.func f) #[] (cap.map a.eval),by simp[execOp,ho,Instr.makeFunc],?_⟩;simp only[qt];rw[aF rfl];simp only[aN];refine .inl ⟨cW.mpr (Nat.lt_trans hlt (by decide)),_,by rw[Ql hlt],?_⟩;rw[<- R.he] at h;have:=YZ R.hk (xP hc R).1 h;simpa using this
theorem aiq(R:Rel F M E s a){f:FuncId}{first cap:Array Operand}{x:Operand}{x':X}(hx:bD x=some x'){o:Oper}
  (ho:o.op= .makeFunc (.func f) first cap) (hf:first.toList=[x]) (hc:cap.toList=[]) (h:qc s (.mb f x')):yG P E a o (qt s (.mb f x')):=by
 have hfirst:first= #[x]:=Array.ext' (by simpa using hf);have hcap:cap= #[]:=Array.ext' (by simpa using hc);subst hfirst hcap;have rx:=dO R hx;simp only[qc] at h;split at h
 ·rename_i l e1;rw[e1,zL] at rx;obtain⟨cs,hv,hr⟩:=rx;refine⟨.func (.func f) #[a.eval x] #[],by simp[execOp,ho,Instr.makeFunc],?_⟩;simp only[qt,e1];rw[aF rfl];simp only[aN];exact .inl ⟨cW.mpr (by have:f<4096:=h; show f+4096<8192; exact Nat.add_lt_add_right this 4096),cs,by rw[afW h,hv],hr⟩
 ·exact h.elim
end ops
section
variable {P:Program} {F:Fr P} {M:Nat->Prop} {E:Env} {s:AS} {a:Act}
def Qm(P:Program)(t:TypeId)(xs:List Int):Value:=if kindOf P t=some 0 then .int .i64 (xs.getD 0 0) else .agg (xs.map (Value.int .i64)).toArray
theorem ED{t:TypeId}{k:Nat}(hk:kindOf P t=some k){X:List Int}{off n:Nat}(hn:n=bn k)(h:off+n<=X.length)(w:World) :
  (part t (X.map (Value.int .i64)).toArray off).run P w= .ok (Qm P t ((X.drop off).take n)) w:=by
 simp only[part,Sem.run_bind,Aw hk,Result.andThen_ok];unfold Qm;rw[hk];cases k with
 |zero =>
  simp only[bn] at hn;subst hn;have hlt:off<X.length:=by omega
  simp only[bne_self_eq_false,da,cQ,cj,List.getElem?_toArray,cE,bN hlt,bx,Sem.run_pure,Result.ok.injEq,Value.int.injEq,ga,and_true];simp[List.getD_eq_getElem?_getD,hlt]
 |succ m =>
  have hne: ¬ (some (m+1)=some 0):=by simp
  have hb:((m+1) !=0)=true:=by simp
  rw[bX hne];simp only[hb,cj,Sem.run_bind,jq hk,Result.andThen_ok,Sem.run_pure,Result.ok.injEq,Value.agg.injEq,and_true];apply Array.ext';simp[hn,List.extract_eq_take_drop,List.map_take,List.map_drop]
theorem Y0: ∀ {d:Nat} {t:TypeId} {n:Nat},AQ P d t=some n-> ∃ k,kindOf P t=some k/\n=bn k:=by
 intro d;cases d with
 |zero=>intro t n h; cases h
 |succ d =>
  intro t n h;simp only[AQ] at h;split at h
  ·rename_i h1 h2; cases h; exact⟨0,h2,rfl⟩
  ·rename_i fs k h1 h2;split at h
   ·split at h
    ·split at h
     ·rename_i h3; cases h; exact⟨k,h2,by rw[h3]; rfl⟩
     ·cases h
    ·cases h
   ·cases h
  ·cases h
theorem NV{g:TypeId->Option Nat}{d:Nat}(hg: ∀ t n,g t=some n->(∃ k,kindOf P t=some k/\n=bn k)/\ ∀ (xs ys:List Int),xs.length=n->ys.length=n-> ∀ w,(Op.equalIn d t (Qm P t xs) (Qm P t ys)).run P w= .ok (decide (xs=ys)) w)
  {X Y:List Int} {N:Nat} (hX:X.length=N) (hY:Y.length=N): ∀ {fs:List Field} {off:Nat},LP g fs off=some N->off<=N/\ ∀ w,(Op.eqFields d (X.map (Value.int .i64)).toArray (Y.map (Value.int .i64)).toArray fs).run P w= .ok (decide (X.drop off=Y.drop off)) w:=by
 intro fs;induction fs with
 |nil =>
  intro off h;simp only[LP,bR] at h;subst h;refine⟨ba _,fun w=>?_⟩;rw[gC (by omega),gC (by omega)];simp[Op.eqFields]
 |cons f fs ih =>
  intro off h;simp only[LP] at h;split at h
  ·rename_i hf;obtain⟨hnm,rfl⟩:=hf;split at h
   ·rename_i n hn;obtain⟨⟨k,hk,hnk⟩,hrun⟩:=hg _ _ hn;obtain⟨hle,hrest⟩:=ih h;refine⟨by omega,fun w=>?_⟩;rw[Op.eqFields,bk hnm];simp only[Sem.run_bind,ED hk hnk (X:=X) (off:=f.offset) (by omega),ED hk hnk (X:=Y) (off:=f.offset) (by omega),Result.andThen_ok];rw[hrun _ _ (by simp; omega) (by simp; omega) w];simp only[Result.andThen_ok];have hsplit: ∀ Z:List Int,Z.drop f.offset=(Z.drop f.offset).take n++Z.drop (f.offset+n):=fun Z=>by rw[<- di]; exact(bt n _).symm
    by_cases he:(X.drop f.offset).take n=(Y.drop f.offset).take n
    ·simp only[he,decide_true,Bool.not_true,da,cQ,hrest]
     congr 1
     rw[hsplit X,hsplit Y,he];simp
    ·have hne: ¬ (X.drop f.offset=Y.drop f.offset):=fun e=>he (by rw[e])
     simp[he,hne]
   ·cases h
  ·cases h
theorem SX: ∀ {d:Nat} {t:TypeId} {n:Nat},AQ P d t=some n-> ∀ e,d<=e-> ∀ (xs ys:List Int),xs.length=n->ys.length=n-> ∀ w,(Op.equalIn e t (Qm P t xs) (Qm P t ys)).run P w= .ok (decide (xs=ys)) w:=by
 intro d;induction d with
 |zero=>intro t n h; cases h
 |succ d ih =>
  intro t n h e he xs ys hx hy w;obtain⟨e,rfl⟩: ∃ e',e=e'+1:=⟨e-1,by omega⟩
  have hfl:=h;simp only[AQ] at h;split at h
  ·rename_i h1 h2;cases h;simp only[Qm,h2,cj];rw[run_equalIn_int w e t .i64 .i64 _ _ h1];match xs,ys,hx,hy with
   |[x],[y],_,_=>simp; rfl
  ·rename_i fs k h1 h2;split at h
   ·rename_i hst;split at h
    ·rename_i m hm;split at h
     ·rename_i hk;cases h;have hk0: ¬ (kindOf P t=some 0):=by rw[h2,hk]; simp
      simp only[Qm,bX hk0];have hfo:P.fieldsOf t=fs:=by simp[Program.fieldsOf,h1]
      rw[run_equalIn_struct w e t _ _ (by rw[hfo]; exact h1) hst.1,hfo];have:=(NV (P:=P) (g:=AQ P d) (d:=e) (fun t' n' h'=>⟨Y0 h',ih h' e (by omega)⟩) hx hy hm).2 w;simpa using this
     ·cases h
    ·cases h
   ·cases h
  ·cases h
def zf:T->Int
 | .lit (.int _ n)=>n
 |_=>0
theorem LV: ∀ {l:List T} {vs:List Value},rG l=true->aW E l vs->vs=(l.map zf).map (Value.int .i64):=by
 intro l;induction l with
 |nil=>intro vs _ h; simpa [aW] using h
 |cons t ts ih =>
  intro vs ha h;simp only[aW] at h;obtain⟨_,v,r,rfl,_,h1,h2⟩:=h;cases t with
  |lit u =>
   cases u with
   |int k n =>
    cases k<;>simp only[rG] at ha<;>first|(cases ha; done)|skip
    rw[ih ha h2];simp only[aN] at h1;simp at h1;simp[zf,h1]
   |_=>simp[rG] at ha
  |_=>simp[rG] at ha
theorem Y3: ∀ {l l':List T},rG l=true->rG l'=true->uJ l l'=decide (l.map zf=l'.map zf):=by
 intro l;induction l with
 |nil=>intro l' _ h; cases l' with
  |nil=>rfl
  |cons t ts=>simp[uJ]
 |cons t ts ih =>
  intro l' ha hb;cases t with
  |lit u =>
   cases u with
   |int k n =>
    cases k<;>simp only[rG] at ha<;>first|(cases ha; done)|skip
    cases l' with
    |nil=>simp[uJ]
    |cons t' ts' =>
     cases t' with
     |lit u' =>
      cases u' with
      |int k' n' =>
       cases k'<;>simp only[rG] at hb<;>first|(cases hb; done)|skip
       simp only[uJ,ih ha hb,cG,zf,eR];rw[cK]; simp
      |_=>simp[rG] at hb
     |_=>simp[rG] at hb
   |_=>simp[rG] at ha
  |_=>simp[rG] at ha
theorem afu(R:Rel F M E s a){op:BinOp}{t ty':TypeId}{fs:Array Field}{ne:Bool}{n:Nat}{x y:Operand}{x' y':X}(hx:bD x=some x')(hy:bD y=some y'){o:Oper}
  (ho:o.op= .binOp op t x y ty') (hop:op=if ne then .neq else .eql) (hs:P.underlying t=some (.struct fs)) (ht:AQ P 20 t=some n) (h:qc s (.eqs ne n x' y')):yG P E a o (qt s (.eqs ne n x' y')):=by
 have rx:=dO R hx; have ry:=dO R hy;simp only[qc] at h;split at h
 ·rename_i l l' e1 e2;simp only[aD,bv] at h;obtain⟨⟨⟨h1,h2⟩,h3⟩,h4⟩:=h;rw[e1,zL] at rx; rw[e2,zL] at ry;obtain⟨cs,hcs,hr⟩:=rx;obtain⟨cs',hcs',hr'⟩:=ry;have g1:=LV h1 hr;have g2:=LV h2 hr';have hg:P.eqGuardType P.depth t=false:=by
   unfold AQ at ht;rw[hs] at ht;generalize kindOf P t=kk at ht;cases kk with
   |none=>simp at ht
   |some k =>
    simp only at ht;by_cases hq:P.stoodInHeld t=false/\P.eqGuardType P.depth t=false
    ·exact hq.2
    ·rw[bX hq] at ht; cases ht
  have hk0: ¬ (kindOf P t=some 0):=by
   unfold kindOf;rw[hs];cases P.info? t with
   |none=>simp
   |some i=>simp only; split<;>simp
  have heq:=SX ht Op.maxDepth (by unfold Op.maxDepth; omega) (l.map zf) (l'.map zf) (by simp[h3]) (by simp[h4]) E.w;simp only[Qm,bX hk0] at heq;have c1:(List.map (Value.int IntKind.i64) (List.map zf l)).toArray=cs:=by rw[<- g1]
  have c2:(List.map (Value.int IntKind.i64) (List.map zf l')).toArray=cs':=by rw[<- g2]
  rw[c1,c2] at heq;refine⟨.bool (bif ne then !(uJ l l') else uJ l l'),?_,by simp only[qt,e1,e2,aX]⟩;rw[Y3 h1 h2];have hgd:(eqGuard op t x y (.agg cs) (.agg cs')).run P E.w= .ok () E.w:=by
   subst hop;unfold eqGuard;cases ne<;>simp[hg]
  cases ne
  ·simp only[hop,da,cQ] at ho hgd ⊢;simp only[execOp,ho,hcs,hcs',hgd,binOp,Sem.run_bind,Sem.run_pure,Result.andThen_ok,Op.equal,heq,bO]
  ·simp only[hop,cj] at ho hgd ⊢;simp only[execOp,ho,hcs,hcs',hgd,binOp,Sem.run_bind,Sem.run_pure,Result.andThen_ok,Op.equal,heq,bS]
 ·exact h.elim
end
inductive SY{α β:Type}(R:α->β->Prop):List α->List β->Prop
 |nil:SY R [] []
 |cons {a:α} {b:β} {as:List α} {bs:List β}:R a b->SY R as bs->SY R (a::as) (b::bs)
section ops
variable {P:Program} {F:Fr P} {M:Nat->Prop} {E:Env} {s:AS} {a:Act}
theorem S9(off:Nat): ∀ (xs:List Value) (n:Nat) (cs:Array Value),off+n+xs.length<=cs.size ->
  ((xs.zipIdx n).foldl (fun(cs:Array Value) (p:Value×Nat)=>cs.setIfInBounds (off+p.2) p.1) cs).toList=cs.toList.take (off+n)++xs++cs.toList.drop (off+n+xs.length)
 |[],n,cs,_=>by simp
 |x::xs,n,cs,h=>by
  simp only[bL] at h;rw[List.zipIdx_cons,fX,S9 off xs (n+1) _ (by simp; omega)];simp only[Array.toList_setIfInBounds,bL];have h1:off+n<cs.toList.length:=by simp; omega
  rw[List.drop_set_of_lt (by omega)];have e1:(cs.toList.set (off+n) x).take (off+(n+1))=cs.toList.take (off+n)++[x]:=by
   rw[<- gP,cR,List.take_set_of_le (ba _)];simp[List.getElem?_set_self h1]
  rw[e1];have e2:off+(n+1)+xs.length=off+n+(xs.length+1):=by omega
  rw[e2]; simp
theorem OO(off:Nat)(v:Value)(cs:Array Value)(h:off+v.cells.size<=cs.size) :
  (v.cells.zipIdx.foldl (fun(cs:Array Value) (p:Value×Nat)=>cs.setIfInBounds (off+p.2) p.1) cs).toList=cs.toList.take off++v.cells.toList++cs.toList.drop (off+v.cells.size):=by
 have:=S9 off v.cells.toList 0 cs (by simpa using h);rw[<- Array.foldl_toList];simpa [Array.toList_zipIdx] using this
theorem Gx{z:List T}{zs:List Value}(h:aW E z zs){off n:Nat}{c:List T}{vs:List Value}(hc:aW E c vs) :
  aW E (z.take off++c++z.drop (off+n)) (zs.take off++vs++zs.drop (off+n)):=by
 rw[Gv];refine⟨zs.take off++vs,_,rfl,?_,LJ h _⟩;rw[Gv];exact⟨_,_,rfl,LH h _,hc⟩
theorem Tc(hk:rQ F E)(place:Nat->Option (Nat×Nat)): ∀ (ps:List (Nat×Value)) (qs:List (Nat×Nat×T)) (z:List T) (cs:Array Value),
  SY (fun p q=>place p.1=some (q.1,q.2.1)/\jX E q.2.2 p.2/\q.2.2.lC E.h=true) ps qs->aW E z cs.toList->IG z qs=true ->
  ∃ cs',Instr.fill place cs ps=some cs'/\aW E (JA z qs) cs'.toList:=by
 intro ps;induction ps with
 |nil=>intro qs z cs h hz _; cases h; exact⟨cs,rfl,hz⟩
 |cons p ps ih =>
  intro qs z cs h hz hf;obtain⟨i,v⟩:=p;cases h with
  |cons hpq hrest =>
   rename_i q qs;obtain⟨off,n,t⟩:=q;obtain⟨h1,h2,h3⟩:=hpq;simp only[IG,aD,bv,et] at hf;obtain⟨⟨hf1,hf2⟩,hf3⟩:=hf;have hc:=xQ hk h2 h3;have hlen:=mV hc;have hzl:=mV hz;simp only[cA] at hlen hzl;simp only[Instr.fill,h1,JA];rw[bX (by simp; omega)];refine ih _ _ _ hrest ?_ hf3;rw[OO off v cs (by omega),hlen,hf1];exact Gx hz hc
theorem yP(R:Rel F M E s a){ty:TypeId}{fs:Array Field}(hu:P.underlying ty=some (.struct fs)){places:List (Nat×Nat)}
  (hp:fs.toList.mapM (fun f=>(P.info? f.type).map fun i=>(f.offset,i.size))=some places) :
  ∀ {ps:List (Nat×Operand)} {ps':List (Nat×Nat×X)},compFields P ty ps=some ps'->xH s.hp (ps'.map fun p=>s.ev p.2.2)=true ->
   SY (fun(p:Nat×Value) (q:Nat×Nat×T)=>places.toArray[p.1]? =some (q.1,q.2.1)/\jX E q.2.2 p.2/\q.2.2.lC E.h=true)
    (ps.map fun p=>(p.1,a.eval p.2)) (ps'.map fun p=>(p.1,p.2.1,s.ev p.2.2))/\T.aQ M (ps'.map fun p=>s.ev p.2.2):=by
 intro ps;induction ps with
 |nil=>intro ps' h _; cases h; exact⟨.nil,by simp[T.aQ]⟩
 |cons p ps ih =>
  intro ps' h hst;obtain⟨i,x⟩:=p;simp only[compFields] at h;split at h
  ·rename_i x' off k r' h1 h2 h3;cases h;simp only[cG,xH,aD] at hst;obtain⟨i1,i2⟩:=ih h3 hst.2;refine⟨.cons ⟨?_,dO R h1,by rw[R.he]; exact hst.1⟩ i1,by simp only[cG,T.aQ]; exact⟨mX R h1,i2⟩⟩;obtain⟨fs',fd,g1,g2,g3,_,g5⟩:=LU h2;rw[hu] at g1; cases g1;obtain⟨inf,d,k1,_,k3,_⟩:=wM g3;have hlist:fs.toList[i]? =some fd:=by simpa using g2
   have hpl:places[i]? =some (off,bn k):=by
    have hgen: ∀ (l:List Field) (r:List (Nat×Nat)) (j:Nat),l.mapM (fun f=>(P.info? f.type).map fun i=>(f.offset,i.size))=some r->l[j]? =some fd->r[j]? =some (fd.offset,inf.size):=by
     intro l;induction l with
     |nil=>intro r j _ hj; simp at hj
     |cons f l ihl =>
      intro r j hm hj;simp only[List.mapM_cons,Option.bind_eq_bind,Option.pure_def,Option.bind_eq_some_iff] at hm;obtain⟨y,hy,ys,hys,hr⟩:=hm;cases hr;cases j with
      |zero=>simp at hj; subst hj; simp[k1] at hy; simp[hy]
      |succ j=>simpa using ihl ys j hys (by simpa using hj)
    rw[hgen _ _ _ hp hlist,g5,k3]
   simpa using hpl
  ·cases h
theorem OQ{z:List T}: ∀ {qs:List (Nat×Nat×T)},T.aQ M z->T.aQ M (qs.map fun q=>q.2.2)->T.aQ M (JA z qs):=by
 intro qs;induction qs generalizing z with
 |nil=>intro h _; exact h
 |cons q qs ih =>
  obtain⟨off,n,t⟩:=q;intro h h';simp only[cG,T.aQ] at h';simp only[JA];exact ih (fK.2 ⟨fK.2 ⟨wK h _,wL h'.1⟩,zK h _⟩) h'.2
theorem air(R:Rel F M E s a){ty:TypeId}{parts:Array (Nat×Operand)}{fs:Array Field}{cs:Array Value}{ps:List (Nat×Nat×X)}{o:Oper}
  (ho:o.op= .build ty parts) (hu:P.underlying ty=some (.struct fs)) (hz:zeroOf P ty=some (.agg cs)) (hc:compFields P ty parts.toList=some ps)
  (hok:kH (.agg cs)=true) (hpl:(fs.toList.mapM (fun f=>(P.info? f.type).map fun i=>(f.offset,i.size))).isSome=true)
  (h:qc s (.mk (cs.toList.map Qh) ps)):yG P E a o (qt s (.mk (cs.toList.map Qh) ps)):=by
 obtain⟨places,hp⟩:=bA.1 hpl;simp only[qc,aD] at h;obtain⟨hF,_⟩:=yP R hu hp hc h.2;have hzr:aW E (cs.toList.map Qh) cs.toList:=D9 fun v hv=>by
  simp only[kH,Value.cells,eV] at hok;exact hok v (by simpa using hv)
 obtain⟨cs',h1,h2⟩:=Tc R.hk (fun i=>places.toArray[i]?) _ _ _ cs hF hzr h.1;have hb:P.built ty ((parts.map fun(i,x)=>(i,a.eval x)).toList)=some cs':=by
  unfold zeroOf at hz;cases hi:P.info? ty with
  |none=>simp[hi] at hz
  |some it =>
   have hz':it.zero=some (.agg cs):=by simpa [hi] using hz
   simp only[Program.built,hi,hu,hz',hp,Value.cells];simpa using h1
 refine⟨.agg cs',?_,?_⟩
 ·simp only[execOp,ho,Sem.run_bind,run_build E.w ty _ cs' hb,Result.andThen_ok,Sem.run_pure]
 ·simp only[qt]; rw[zL]; exact⟨cs',rfl,h2⟩
theorem wP(R:Rel F M E s a){x:Option Operand}{x':Option X}(h:CU x=some x') :
  (x=none/\x'=none)\/ ∃ y y',x=some y/\x'=some y'/\jX E (s.ev y') (a.eval y):=by
 cases x with
 |none=>cases h; exact .inl ⟨rfl,rfl⟩
 |some y =>
  simp only[CU,bh] at h;obtain⟨y',h1,rfl⟩:=h;exact .inr ⟨y,y',rfl,rfl,dO R h1⟩
theorem zM{k:Nat}{f':Bool}{l:List T}{ad:Option Addr}{c:Nat}(hlc:l.length<=c)
  (hrow:l=[]\/ ∃ b off cur e m,ad=some ⟨b,off,none⟩/\E.S b/\E.w.heap[b]? =some (.cells cur e m)/\T.aQ (fun _=>False) l/\aG E k l (cur.toList.drop off))
  {lo hi mx:Nat} (h1:lo<=hi) (h2:hi<=l.length) (h3:hi<=mx) (_h4:mx<=c) (hfull:f'=true->mx=hi) {k':Nat} (hk:k=k'\/l=[]) :
  aN E (.sl k' f' ((l.take hi).drop lo)) [.slice (if mx=lo then ad else ad.map (·.add (lo*bn k'))) (hi-lo) (mx-lo)]:=by
 simp only[aN];have hlen:((l.take hi).drop lo).length=hi-lo:=by simp; omega
 refine⟨_,_,by rw[hlen],by omega,fun hf=>by rw[hfull hf,hlen],?_⟩;by_cases he:lo=hi
 ·exact .inl (ao (by omega))
 ·have hne:l≠[]:=by rintro rfl; simp at h2; omega
  obtain⟨b,off,cur,e,m,rfl,hS,hh,hid,hr⟩:=hrow.resolve_left hne;have hk':=hk.resolve_right hne;subst hk';refine .inr ⟨b,off+lo*bn k,cur,e,m,?_,hS,hh,zK (wK hid _) _,?_⟩
  ·rw[bX (by omega)]; simp[addr_add]
  ·rw[<- di];exact AL (wC hr hi) lo (by simp; omega)
theorem rV{ty e k:Nat}(hu:P.underlying ty=some (.slice e))(hk:kindOf P e=some k){ad:Option Addr}{len cap:Nat}{x:Operand}{lo hi mx:Option Operand}{o:Oper}
  (ho:o.op= .slice ty x lo hi mx) (ha:a.eval x= .slice ad len cap) {l h m:Nat} (hb:(Instr.sliceBounds true len cap (lo.map a.eval) (hi.map a.eval) (mx.map a.eval)).run P E.w= .ok (l,h,m) E.w) :
  (execOp a.eval o).run P E.w= .ok (.value (.slice (if m=l then ad else ad.map (·.add (l*bn k))) (h-l) (m-l))) E.w:=by
 simp only[execOp,ho,ha,Instr.sliceAt,Instr.slice,underlying,Sem.run_bind,run_program,Result.andThen_ok,hu,Sem.run_pure,hb,jq hk]
theorem nY{kd:IntKind}{n:Int}{y:Nat}{cde:BoundsCode}(h0:0<=n)(h1:n<=y)(w:World):(Instr.sliceBound (.int kd n) y cde).run P w= .ok n.toNat w:=by
 simp[Instr.sliceBound,asIntOf,h0,h1]
theorem ahn(R:Rel F M E s a){ty e k:Nat}{x:Operand}{lo hi mx:Option Operand}{x':X}{lo' hi' mx':Option X}(hx:bD x=some x')(hlo:CU lo=some lo')(hhi:CU hi=some hi')(hmx:CU mx=some mx'){o:Oper}
  (ho:o.op= .slice ty x lo hi mx) (hu:P.underlying ty=some (.slice e)) (hk:kindOf P e=some k) (h:slC k (s.ev x') (lo'.map s.ev) (hi'.map s.ev) (mx'.map s.ev)):yG P E a o (SG k (s.ev x') (lo'.map s.ev) (hi'.map s.ev) (mx'.map s.ev)):=by
 have rx:=dO R hx;have rl:=wP R hlo; have rh:=wP R hhi; have rm:=wP R hmx;unfold slC at h
 have row: ∀ {k' f l},s.ev x'= .sl k' f l-> ∃ ad c,a.eval x= .slice ad l.length c/\l.length<=c/\(f=true->c=l.length) /\
   (l=[]\/ ∃ b off cur e m,ad=some ⟨b,off,none⟩/\E.S b/\E.w.heap[b]? =some (.cells cur e m)/\T.aQ (fun _=>False) l/\aG E k' l (cur.toList.drop off)):=by
  intro k' f l e1;rw[e1,aF rfl] at rx;simp only[aN] at rx;obtain⟨ad,c,hu',h1,h2,h3⟩:=rx;exact⟨ad,c,by simpa using hu',h1,h2,h3⟩
 have rH: ∀ {x:Option Operand} {x':Option X},((x=none/\x'=none)\/ ∃ y y',x=some y/\x'=some y'/\jX E (s.ev y') (a.eval y))->x'.map s.ev=none->x=none:=by
  intro x x' h h';rcases h with ⟨h,_⟩|⟨y,y',_,rfl,_⟩
  ·exact h
  ·simp at h'
 have xR: ∀ {x:Option Operand} {x':Option X} {kd n},((x=none/\x'=none)\/ ∃ y y',x=some y/\x'=some y'/\jX E (s.ev y') (a.eval y))->x'.map s.ev=some (.lit (.int kd n))->x.map a.eval=some (.int kd n):=by
  intro x x' kd n h h';rcases h with ⟨_,rfl⟩|⟨y,y',rfl,rfl,h⟩
  ·simp at h'
  ·simp only[bx,bR] at h' ⊢; rw[h',aX] at h; exact h
 split at h
 ·rename_i k' f l e1 e2 e3 e4;obtain⟨ad,c,ha,hlc,hf,hrow⟩:=row e1;have n1:=rH rl e2; have n2:=rH rh e3; have n3:=rH rm e4;subst n1 n2 n3;refine⟨_,rV hu hk ho ha (l:=0) (h:=l.length) (m:=c) (by simp[Instr.sliceBounds]),?_⟩;simp only[SG,e1,e2,e3,e4];rw[aF rfl];have:=zM (f':=f) hlc hrow (lo:=0) (hi:=l.length) (mx:=c) (by omega) (by omega) hlc (by omega) hf h;simpa using this
 ·rename_i k' f l kd n e1 e2 e3 e4;obtain⟨hkk,h0,h1⟩:=h;obtain⟨ad,c,ha,hlc,hf,hrow⟩:=row e1;have n1:=xR rl e2; have n2:=rH rh e3; have n3:=rH rm e4;subst n2 n3;refine⟨_,rV hu hk ho ha (l:=n.toNat) (h:=l.length) (m:=c) (by simp[Instr.sliceBounds,n1,nY h0 h1]),?_⟩;simp only[SG,e1,e2,e3,e4];rw[aF rfl];have:=zM (f':=f) hlc hrow (lo:=n.toNat) (hi:=l.length) (mx:=c) (by omega) (by omega) hlc (by omega) hf hkk;simpa using this
 ·rename_i k' f l kd n e1 e2 e3 e4;obtain⟨hkk,h0,h1⟩:=h;obtain⟨ad,c,ha,hlc,hf,hrow⟩:=row e1;have n1:=rH rl e2; have n2:=xR rh e3; have n3:=rH rm e4;subst n1 n3;refine⟨_,rV hu hk ho ha (l:=0) (h:=n.toNat) (m:=c) (by simp[Instr.sliceBounds,n2,nY h0 (show n<=(c:Int) by omega)]),?_⟩;simp only[SG,e1,e2,e3,e4];rw[aF rfl];have:=zM (f':=(f&&decide (n=l.length))) hlc hrow (lo:=0) (hi:=n.toNat) (mx:=c) (by omega) (by omega) (by omega) (by omega) (fun hq=>by simp only[aD,ag] at hq; have:=hf hq.1; omega) hkk;simpa using this
 ·rename_i k' f l kd n kd' n' e1 e2 e3 e4;obtain⟨hkk,h0,h1,h2⟩:=h;obtain⟨ad,c,ha,hlc,hf,hrow⟩:=row e1;have n1:=xR rl e2; have n2:=xR rh e3; have n3:=rH rm e4;subst n3
  refine⟨_,rV hu hk ho ha (l:=n.toNat) (h:=n'.toNat) (m:=c) (by
   simp[Instr.sliceBounds,n1,n2,nY (show 0<=n' by omega) (show n'<=(c:Int) by omega),nY h0 (show n<=(n'.toNat:Int) by omega)]),?_⟩
  simp only[SG,e1,e2,e3,e4];rw[aF rfl];have:=zM (f':=false) hlc hrow (lo:=n.toNat) (hi:=n'.toNat) (mx:=c) (by omega) (by omega) (by omega) (by omega) (by simp) hkk;simpa using this
 ·rename_i k' f l kd n kd' n' e1 e2 e3 e4;obtain⟨hkk,h0,h1,h2⟩:=h;obtain⟨ad,c,ha,hlc,hf,hrow⟩:=row e1;have n1:=rH rl e2; have n2:=xR rh e3; have n3:=xR rm e4;subst n1
  refine⟨_,rV hu hk ho ha (l:=0) (h:=n.toNat) (m:=n'.toNat) (by
   simp[Instr.sliceBounds,n2,n3,nY (show 0<=n' by omega) (show n'<=(c:Int) by omega),nY h0 (show n<=(n'.toNat:Int) by omega)]),?_⟩
  simp only[SG,e1,e2,e3,e4];rw[aF rfl];have:=zM (f':=decide (n=n')) hlc hrow (lo:=0) (hi:=n.toNat) (mx:=n'.toNat) (by omega) (by omega) (by omega) (by omega) (by simp; omega) hkk;simpa using this
 ·exact h.elim
theorem af2(R:Rel F M E s a){ty e k:Nat}{x:Operand}{lo hi mx:Option Operand}{x':X}{lo' hi' mx':Option X}(hx:bD x=some x')(hlo:CU lo=some lo')(hhi:CU hi=some hi')(hmx:CU mx=some mx'){o:Oper}
  (ho:o.op= .slice ty x lo hi mx) (hu:P.underlying ty=some (.slice e)) (hk:kindOf P e=some k) {i:Nat} {ob:Ob} (ei:s.ev x'= .own i) (hob:s.hp i=some ob) (h:Gt k ob (lo'.map s.ev) (hi'.map s.ev) (mx'.map s.ev)) :
  yG P E a o (BF i ob (lo'.map s.ev) (hi'.map s.ev) (mx'.map s.ev))/\(BF i ob (lo'.map s.ev) (hi'.map s.ev) (mx'.map s.ev)).ids M:=by
 have rx:=dO R hx;have ix:=mX R hx;have rl:=wP R hlo; have rh:=wP R hhi; have rm:=wP R hmx;rw[ei,aF rfl] at rx;rw[ei] at ix;simp only[aN] at rx;obtain⟨u,hu1,hlive⟩:=rx;have fZ:E.h i=some ob:=by rw[R.he]; exact hob
 have hφ:=hlive (by rw[fZ]; rfl);obtain⟨hok,JV,hsz⟩:=R.hk.obs i ob fZ;have ha:a.eval x=E.φ i:=by rw[<- hφ]; simpa using hu1
 have rH: ∀ {x:Option Operand} {x':Option X},((x=none/\x'=none)\/ ∃ y y',x=some y/\x'=some y'/\jX E (s.ev y') (a.eval y))->x'.map s.ev=none->x=none:=by
  intro x x' h h';rcases h with ⟨h,_⟩|⟨y,y',_,rfl,_⟩
  ·exact h
  ·simp at h'
 have xR: ∀ {x:Option Operand} {x':Option X} {kd n},((x=none/\x'=none)\/ ∃ y y',x=some y/\x'=some y'/\jX E (s.ev y') (a.eval y))->x'.map s.ev=some (.lit (.int kd n))->x.map a.eval=some (.int kd n):=by
  intro x x' kd n h h';rcases h with ⟨_,rfl⟩|⟨y,y',rfl,rfl,h⟩
  ·simp at h'
  ·simp only[bx,bR] at h' ⊢; rw[h',aX] at h; exact h
 have row:ob.k=k-> ∃ ad c,E.φ i= .slice ad ob.l.length c/\ob.l.length<=c:=by
  intro hkk;rcases hok.row (by rw[hkk]; exact CV hk) with ⟨ad,h1,h2⟩|⟨g,c,cur,h1,h2,_⟩
  ·exact⟨ad,0,by rw[h1,h2]; rfl,by rw[h2]; simp⟩
  ·exact⟨_,_,h1,h2⟩
 unfold Gt at h;split at h
 ·rename_i kd n e2 e3 e4;obtain⟨hkk,h0,h1⟩:=h;obtain⟨ad,c,hv,hlc⟩:=row hkk;have n1:=xR rl e2; have n2:=rH rh e3; have n3:=rH rm e4;subst n2 n3;simp only[BF,e2,e3,e4];refine⟨⟨_,rV hu hk ho (ha.trans hv) (l:=n.toNat) (h:=ob.l.length) (m:=c) (by simp[Instr.sliceBounds,n1,nY h0 h1]),?_⟩,ix⟩;rw[aF rfl]; simp only[aN];exact⟨_,rfl,fun _=>⟨ad,_,c,hv,by omega,ba _,hlc,by rw[JV,hkk]⟩⟩
 ·rename_i kd n e2 e3 e4;obtain⟨hkk,h0,h1⟩:=h;obtain⟨ad,c,hv,hlc⟩:=row hkk;have n1:=rH rl e2; have n2:=xR rh e3; have n3:=rH rm e4;subst n1 n3;simp only[BF,e2,e3,e4];refine⟨⟨_,rV hu hk ho (ha.trans hv) (l:=0) (h:=n.toNat) (m:=c) (by simp[Instr.sliceBounds,n2,nY h0 (show n<=(c:Int) by omega)]),?_⟩,ix⟩;rw[aF rfl]; simp only[aN];exact⟨_,rfl,fun _=>⟨ad,_,c,hv,by omega,by omega,hlc,by rw[JV,hkk]⟩⟩
 ·rename_i kd n kd' n' e2 e3 e4;obtain⟨hkk,h0,h1,h2⟩:=h;obtain⟨ad,c,hv,hlc⟩:=row hkk;have n1:=xR rl e2; have n2:=xR rh e3; have n3:=rH rm e4;subst n3;simp only[BF,e2,e3,e4]
  refine⟨⟨_,rV hu hk ho (ha.trans hv) (l:=n.toNat) (h:=n'.toNat) (m:=c) (by
   simp[Instr.sliceBounds,n1,n2,nY (show 0<=n' by omega) (show n'<=(c:Int) by omega),nY h0 (show n<=(n'.toNat:Int) by omega)]),?_⟩,ix⟩
  rw[aF rfl]; simp only[aN];exact⟨_,rfl,fun _=>⟨ad,_,c,hv,by omega,by omega,hlc,by rw[JV,hkk]⟩⟩
 ·exact h.elim
end ops
end Go.Ab
