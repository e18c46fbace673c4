/-
 The typed layer, part 1: typed values, rows, objects. Definitions alone.
-/
import Derived.Test.YtdloaandiobgdaaGreatDoorLd
import Derived.Test.YtdloaandiobgdaaGreatDoorLc
namespace Go.Ab
inductive Dat where
 |lin (x:Lin)
 |Vd (x:DR)
 |rule (x:Rule)
 |fM (x:aF)
 |cnt (x:Cnt)
 |prop (x:Prop')
 |clause (x:Clause)
 |elem (x:Elem)
@[reducible] def aer(l:List Bool):T:=.sl 0 false (l.map T.bool)
@[reducible] def aes(l:List (List Int)):T:=.sl 0 false (l.map Go.Ab.ints)
inductive Rw where
 |ints (l:List Int)
 |bools (l:List Bool)
 |strs (l:List Str)
 |eF (l:List (List Int))
 |qy (l:List (List Bool))
 |qA (l:List (List (List Int)))
 |Es (l:List Lin)
 |uT (l:List DR)
 |rules (l:List Rule)
 |cnts (l:List Cnt)
 |clauses (l:List Clause)
 |elems (l:List Elem)
 |nil
inductive V where
 |int (n:Int)
 |bool (b:Bool)
 |u8 (n:Int)
 |str (s:Str)
 |dat (d:Dat)
 |agg (l:List V)
 |row (k:Nat) (full:Bool) (r:Rw)
 |Am (k:Nat) (full:Bool) (l:List V)
 |ref (k:Nat) (v:V)
 |own (i:Nat)
 |inn (i:Nat)
 |pin (i j off:Nat)
 |ptr (i j off:Nat)
 |rG (i lo hi:Nat)
 |fn (f:FuncId) (cap:List V)
 |dD (l:List V)
 |cnd (b:Bool) (v:V)
 |raw (t:T)
def Dat.aI:Dat->T
 | .lin x=>QI x
 | .Vd x=>QJ x
 | .rule x=>Jw x
 | .fM x=>Z5 x
 | .cnt x=>QK x
 | .prop x=>aeo x
 | .clause x=>Jy x
 | .elem x=>jK x
def Dat.kd:Dat->Nat
 | .lin _=>5
 | .Vd _=>7
 | .rule _=>19
 | .fM _=>11
 | .cnt _=>3
 | .prop _=>7
 | .clause _=>4
 | .elem _=>3
def Rw.aS:Rw->List T
 | .ints l=>l.map T.int
 | .bools l=>l.map T.bool
 | .strs l=>l.map eS
 | .eF l=>l.map Go.Ab.ints
 | .qy l=>l.map aer
 | .qA l=>l.map aes
 | .Es l=>l.map QI
 | .uT l=>l.map QJ
 | .rules l=>l.map Jw
 | .cnts l=>l.map QK
 | .clauses l=>l.map Jy
 | .elems l=>l.map jK
 | .nil=>[]
mutual
def V.aI:V->T
 | .int n=>.int n
 | .bool b=>.bool b
 | .u8 n=>.lit (.int .u8 n)
 | .str s=>eS s
 | .dat d=>d.aI
 | .agg l=>.agg (V.aS l)
 | .row k f r=>.sl k f r.aS
 | .Am k f l=>.sl k f (V.aS l)
 | .ref k v=>.ref k v.aI
 | .own i=>.own i
 | .inn i=>.own i
 | .pin i j off=>.ptr i j off
 | .ptr i j off=>.ptr i j off
 | .rG i lo hi=>.rG i lo hi
 | .fn f cap=>.fn f (V.aS cap)
 | .dD l=>.dD (V.aS l)
 | .cnd b v=>bif b then v.aI else T.un
 | .raw t=>t
def V.aS:List V->List T
 |[]=>[]
 |v::r=>v.aI::V.aS r
end
def Dat.cells:Dat->List V
 | .lin x=>[.int x.c,.int x.n,.int x.t,.int x.f]
 | .Vd x=>[.int x.message,.int x.Jv,.int x.bound.c,.int x.bound.n,.int x.bound.t,.int x.bound.f]
 | .rule x=>[.str x.name,.int x.kind,.int x.fr,.int x.to,.int x.dQ,.int x.yT,.row 0 false (.ints x.response),.row 7 false (.uT x.guards),.row 0 false (.ints x.ex),.row 0 false (.ints x.all),.int x.read,.int x.write,.row 0 false (.ints x.send),.int x.pos,.row 0 false (.ints x.left),.row 0 false (.ints x.right),.row 0 false (.ints x.parent),.int x.direction]
 | .fM x=>[.str x.name,.int x.topology,.row 0 false (.strs x.states),.row 0 false (.strs x.messages),.row 0 false (.strs x.values),.int x.fault,.row 5 false (.Es x.dL),.row 0 false (.ints x.initial),.row 0 false (.ints x.leader),.row 19 false (.rules x.rules)]
 | .cnt x=>[.row 0 false (.ints x.states),.int x.least]
 | .prop x=>[.str x.name,.int x.kind,.row 0 false (.ints x.start),.row 3 false (.cnts x.bad),.row 0 false (.ints x.adjacent),.row 0 false (.ints x.goal)]
 | .clause x=>[.row 0 false (.eF x.each),.row 0 false (.ints x.values),.row 0 false (.ints x.some)]
 | .elem x=>[.int x.value,.row 0 false (.ints x.counts)]
theorem Dat.Le(d:Dat):d.aI= .agg (V.aS d.cells):=by cases d<;>rfl
theorem Dat.ako(d:Dat):d.aI.kd=d.kd:=by cases d<;>rfl
def Rw.len:Rw->Nat
 | .ints l=>l.length
 | .bools l=>l.length
 | .strs l=>l.length
 | .eF l=>l.length
 | .qy l=>l.length
 | .qA l=>l.length
 | .Es l=>l.length
 | .uT l=>l.length
 | .rules l=>l.length
 | .cnts l=>l.length
 | .clauses l=>l.length
 | .elems l=>l.length
 | .nil=>0
def Rw.lenV:Rw->V
 | .ints l=>.int l.length
 | .bools l=>.int l.length
 | .strs l=>.int l.length
 | .eF l=>.int l.length
 | .qy l=>.int l.length
 | .qA l=>.int l.length
 | .Es l=>.int l.length
 | .uT l=>.int l.length
 | .rules l=>.int l.length
 | .cnts l=>.int l.length
 | .clauses l=>.int l.length
 | .elems l=>.int l.length
 | .nil=>.int 0
def Rw.rng(n:Int):Rw->Prop
 | .ints l=>0<=n/\n<l.length
 | .bools l=>0<=n/\n<l.length
 | .strs l=>0<=n/\n<l.length
 | .eF l=>0<=n/\n<l.length
 | .qy l=>0<=n/\n<l.length
 | .qA l=>0<=n/\n<l.length
 | .Es l=>0<=n/\n<l.length
 | .uT l=>0<=n/\n<l.length
 | .rules l=>0<=n/\n<l.length
 | .cnts l=>0<=n/\n<l.length
 | .clauses l=>0<=n/\n<l.length
 | .elems l=>0<=n/\n<l.length
 | .nil=>False
def Rw.vT(n:Int):Rw->Prop
 | .ints l=>0<=n/\n<=l.length
 | .bools l=>0<=n/\n<=l.length
 | .strs l=>0<=n/\n<=l.length
 | .eF l=>0<=n/\n<=l.length
 | .qy l=>0<=n/\n<=l.length
 | .qA l=>0<=n/\n<=l.length
 | .Es l=>0<=n/\n<=l.length
 | .uT l=>0<=n/\n<=l.length
 | .rules l=>0<=n/\n<=l.length
 | .cnts l=>0<=n/\n<=l.length
 | .clauses l=>0<=n/\n<=l.length
 | .elems l=>0<=n/\n<=l.length
 | .nil=>n=0
def Rw.get(i:Nat):Rw->V
 | .ints l=>.int (l.getD i 0)
 | .bools l=>.bool (l.getD i false)
 | .strs l=>.str (l.getD i [])
 | .eF l=>.row 0 false (.ints (l.getD i []))
 | .qy l=>.row 0 false (.bools (l.getD i []))
 | .qA l=>.row 0 false (.eF (l.getD i []))
 | .Es l=>.dat (.lin (l.getD i default))
 | .uT l=>.dat (.Vd (l.getD i default))
 | .rules l=>.dat (.rule (l.getD i default))
 | .cnts l=>.dat (.cnt (l.getD i default))
 | .clauses l=>.dat (.clause (l.getD i default))
 | .elems l=>.dat (.elem (l.getD i default))
 | .nil=>.raw .any
def Rw.take(i:Nat):Rw->Rw
 | .ints l=>.ints (l.take i)
 | .bools l=>.bools (l.take i)
 | .strs l=>.strs (l.take i)
 | .eF l=>.eF (l.take i)
 | .qy l=>.qy (l.take i)
 | .qA l=>.qA (l.take i)
 | .Es l=>.Es (l.take i)
 | .uT l=>.uT (l.take i)
 | .rules l=>.rules (l.take i)
 | .cnts l=>.cnts (l.take i)
 | .clauses l=>.clauses (l.take i)
 | .elems l=>.elems (l.take i)
 | .nil=>.nil
def Rw.drop(i:Nat):Rw->Rw
 | .ints l=>.ints (l.drop i)
 | .bools l=>.bools (l.drop i)
 | .strs l=>.strs (l.drop i)
 | .eF l=>.eF (l.drop i)
 | .qy l=>.qy (l.drop i)
 | .qA l=>.qA (l.drop i)
 | .Es l=>.Es (l.drop i)
 | .uT l=>.uT (l.drop i)
 | .rules l=>.rules (l.drop i)
 | .cnts l=>.cnts (l.drop i)
 | .clauses l=>.clauses (l.drop i)
 | .elems l=>.elems (l.drop i)
 | .nil=>.nil
def Rw.app:Rw->Rw->Option Rw
 |r,.nil=>some r
 | .nil,r=>some r
 | .ints a,.ints b=>some (.ints (a++b))
 | .bools a,.bools b=>some (.bools (a++b))
 | .strs a,.strs b=>some (.strs (a++b))
 | .eF a,.eF b=>some (.eF (a++b))
 | .qy a,.qy b=>some (.qy (a++b))
 | .qA a,.qA b=>some (.qA (a++b))
 | .Es a,.Es b=>some (.Es (a++b))
 | .uT a,.uT b=>some (.uT (a++b))
 | .rules a,.rules b=>some (.rules (a++b))
 | .cnts a,.cnts b=>some (.cnts (a++b))
 | .clauses a,.clauses b=>some (.clauses (a++b))
 | .elems a,.elems b=>some (.elems (a++b))
 |_,_=>none
def Rw.kd:Rw->Nat
 | .ints _=>0
 | .bools _=>0
 | .strs _=>0
 | .eF _=>0
 | .qy _=>0
 | .qA _=>0
 | .Es _=>5
 | .uT _=>7
 | .rules _=>19
 | .cnts _=>3
 | .clauses _=>4
 | .elems _=>3
 | .nil=>0
def V.one:V->Option Rw
 | .int n=>some (.ints [n])
 | .bool b=>some (.bools [b])
 | .str s=>some (.strs [s])
 | .row 0 false (.ints l)=>some (.eF [l])
 | .row 0 false (.bools l)=>some (.qy [l])
 | .row 0 false (.eF l)=>some (.qA [l])
 | .dat (.lin x)=>some (.Es [x])
 | .dat (.Vd x)=>some (.uT [x])
 | .dat (.rule x)=>some (.rules [x])
 | .dat (.cnt x)=>some (.cnts [x])
 | .dat (.clause x)=>some (.clauses [x])
 | .dat (.elem x)=>some (.elems [x])
 | .agg [.int a,.row 0 false (.ints c)]=>some (.elems [⟨a,c⟩])
 | .agg [.row 0 false (.ints c),.int a]=>some (.cnts [⟨c,a⟩])
 | .agg [.row 0 false (.eF e),.row 0 false (.ints v),.row 0 false (.ints s)]=>some (.clauses [⟨e,v,s⟩])
 |_=>none
def Rw.ofL:List V->Option Rw
 |[]=>some .nil
 |v::r=>match v.one,Rw.ofL r with
  |some a,some b=>a.app b
  |_,_=>none
def Rw.vs:Rw->List V
 | .ints l=>l.map .int
 | .bools l=>l.map .bool
 | .strs l=>l.map .str
 | .eF l=>l.map fun c=>.row 0 false (.ints c)
 | .qy l=>l.map fun c=>.row 0 false (.bools c)
 | .qA l=>l.map fun c=>.row 0 false (.eF c)
 | .Es l=>l.map fun c=>.dat (.lin c)
 | .uT l=>l.map fun c=>.dat (.Vd c)
 | .rules l=>l.map fun c=>.dat (.rule c)
 | .cnts l=>l.map fun c=>.dat (.cnt c)
 | .clauses l=>l.map fun c=>.dat (.clause c)
 | .elems l=>l.map fun c=>.dat (.elem c)
 | .nil=>[]
inductive OV where
 |row (ty k:Nat) (r:Rw) (x:List V)
 |box (ty k:Nat) (v:V)
 |map (ty:Nat) (es:List (Int×List Bool)) (x:List (Int×V))
 |gen (ty k:Nat) (x:List V)
 |smap (ty:Nat) (es:List (Str×Int))
def MS(e:Int×List Bool):T:=.dD [.int e.1,.sl 0 false (e.2.map T.bool)]
def abU(e:Int×V):T:=.dD [.int e.1,e.2.aI]
def Ii(e:Str×Int):T:=.dD [eS e.1,.int e.2]
def OV.au:OV->Ob
 | .row ty k r x=>⟨ty,k,r.aS++V.aS x⟩
 | .box ty k v=>⟨ty,k,[v.aI]⟩
 | .map ty es x=>⟨ty,gK,es.map MS++x.map abU⟩
 | .gen ty k x=>⟨ty,k,V.aS x⟩
 | .smap ty es=>⟨ty,gK,es.map Ii⟩
abbrev Fm:=List (Nat×V)
def Fm.get(i:Nat):Fm->Option V
 |[]=>none
 |(j,v)::r=>bif Nat.beq j i then some v else Fm.get i r
abbrev Hz:=List (Nat×Option OV)
def Hz.get(i:Nat):Hz->Option OV
 |[]=>none
 |(j,o)::r=>bif Nat.beq j i then o else Hz.get i r
def Hz.aj(h:Hz):Hp:=fun i=>(h.get i).map OV.au
mutual
def E9:T->V
 | .lit (.int .i64 n)=>.int n
 | .lit (.int .u8 n)=>.u8 n
 | .lit (.bool b)=>.bool b
 | .lit (.string b)=>.str b.data.toList
 | .sl k f []=>.row k f .nil
 | .agg l=>.agg (ofL l)
 | .fn f l=>.fn f (ofL l)
 |t=>.raw t
def ofL:List T->List V
 |[]=>[]
 |t::r=>E9 t::ofL r
end
def V.kd:V->Option Nat
 | .dat d=>some d.kd
 | .agg l=>some (l.length+1)
 | .cnd _ _=>none
 | .raw _=>none
 |_=>some 0
def V.cells:V->Option (List V)
 | .dat d=>some d.cells
 | .agg l=>some l
 | .cnd _ _=>none
 | .raw _=>none
 |v=>some [v]
def V.nR(h:Hz):V->Bool
 | .own i=>(h.get i).isSome
 | .ptr i _ _=>(h.get i).isSome
 | .rG i _ _=>(h.get i).isSome
 | .cnd _ _=>false
 | .raw _=>false
 | .dD _=>false
 | .inn _=>false
 | .pin _ _ _=>false
 |_=>true
def V.part(off:Nat):Nat->V->Option V
 |0,.dat d=>d.cells[off]?
 |0,.agg l=>l[off]?
 |k+1,.dat (.Vd x)=>bif (Nat.beq off 2)&&(Nat.beq k 4) then some (.dat (.lin x.bound)) else none
 |k+1,.agg l=>some (.agg ((l.drop off).take k))
 |_,_=>none
inductive VC(p k:Prop):Prop where
 |mk:p->k->VC p k
inductive Fork(b:Bool)(x y:Prop):Prop where
 |mk:(b=true->x)->(b=false->y)->Fork b x y
inductive Sd where
 |no
 |yes (p:Prop)
def Sd.holds:Sd->Prop
 | .no=>True
 | .yes p=>p
def Sd.and:Sd->Sd->Sd
 | .no,b=>b
 |a,.no=>a
 | .yes p,.yes q=>.yes (p/\q)
def Sd.imp(t:Bool)(b:Bool):Sd->Sd
 | .no=>.no
 | .yes p=>.yes (t=b->p)
def Sd.vc(g:Option Bool)(k:Prop):Sd->Prop
 | .no=>k
 | .yes p=>match g with
  |none=>VC p k
  |some b=>VC (b=true->p) k
def V.bare:V->V×Sd
 | .cnd c v=>(v,.yes (c=true))
 |v=>(v,.no)
mutual
def V.free:V->Bool
 | .own _=>false
 | .ptr _ _ _=>false
 | .rG _ _ _=>false
 | .inn _=>false
 | .pin _ _ _=>false
 | .cnd _ _=>false
 | .raw t=>t.free
 | .agg l=>V.bn l
 | .fn _ l=>V.bn l
 | .dD l=>V.bn l
 |_=>true
def V.bn:List V->Bool
 |[]=>true
 |v::r=>V.free v&&V.bn r
end
def y8(m:Fm):X->Option V
 | .t n=>m.get n
 | .c t=>some (E9 t)
def evL(m:Fm):List X->Option (List V)
 |[]=>some []
 |x::r=>match y8 m x,evL m r with
  |some v,some l=>some (v::l)
  |_,_=>none
abbrev Ef:=Option (V×Sd)
def Qr(m:Fm)(x:X)(f:V->Ef):Ef :=
 match y8 m x with
 |some v=>match v.bare with
  |(u,s)=>match f u with
   |some (r,s')=>some (r,s.and s')
   |none=>none
 |none=>none
def qz2(m:Fm)(x y:X)(f:V->V->Ef):Ef:=Qr m x fun u=>Qr m y fun v=>f u v
def okI(n:Int):Prop:= -9223372036854775808<=n/\n<9223372036854775808
def Qv(a b:Int):Int:=a.fdiv (2 ^ min b.toNat 64)
theorem EL(a:Int):Qv a 1=a / 2:=by
 show Int.fdiv a 2=_;rw[Int.fdiv_eq_ediv_of_nonneg _ (by decide)]
def akp(op:BinOp):V->V->Ef
 | .int a,.int b=>match op with
  | .add=>some (.int (a+b),.yes (okI (a+b)))
  | .sub=>some (.int (a-b),.yes (okI (a-b)))
  | .mul=>some (.int (a*b),.yes (okI (a*b)))
  | .eql=>some (.bool (a==b),.no)
  | .neq=>some (.bool (a !=b),.no)
  | .lss=>some (.bool (decide (a<b)),.no)
  | .leq=>some (.bool (decide (a<=b)),.no)
  | .gtr=>some (.bool (decide (b<a)),.no)
  | .geq=>some (.bool (decide (b<=a)),.no)
  |_=>none
 | .u8 a,.u8 b=>match op with
  | .eql=>some (.bool (a==b),.no)
  | .neq=>some (.bool (a !=b),.no)
  | .lss=>some (.bool (decide (a<b)),.no)
  | .leq=>some (.bool (decide (a<=b)),.no)
  | .gtr=>some (.bool (decide (b<a)),.no)
  | .geq=>some (.bool (decide (b<=a)),.no)
  |_=>none
 | .str a,.str b=>match op with
  | .eql=>some (.bool (a==b),.no)
  | .neq=>some (.bool (!(a==b)),.no)
  | .add=>some (.str (a++b),.yes (a.length+b.length<=9223372036854775807))
  |_=>none
 | .raw (.lit (.int .u64 a)),.raw (.lit (.int .u64 b))=>match op with
  | .shr=>some (.raw (.lit (.int .u64 (Qv a b))),.yes (0<=b))
  | .and=>some (.raw (.lit (.int .u64 (ajU .u64 a b))),.no)
  | .rem=>some (.raw (.lit (.int .u64 (a.tmod b))),.yes (b≠0))
  | .eql=>some (.bool (a==b),.no)
  | .geq=>some (.bool (decide (b<=a)),.no)
  |_=>none
 | .int a,.raw (.lit (.int .u64 b))=>match op with
  | .shr=>some (.int (Qv a b),.yes (0<=b))
  |_=>none
 |_,_=>none
def Gg:X->Bool
 | .c (.lit (.bool true))=>true
 |_=>false
def CP:X->Bool
 | .c (.lit (.bool false))=>true
 |_=>false
def ajt(t:Bool)(xa xb:X):V->V->Option V
 | .bool x,.bool y=>bif Gg xa then some (.bool (t||y)) else bif CP xb then some (.bool (t&&x)) else some (.bool (bif t then x else y))
 | .int x,.int y=>some (.int (bif t then x else y))
 | .str x,.str y=>some (.str (bif t then x else y))
 |_,_=>none
def aeu(t:Bool)(xa xb:X)(a b:V×Sd):Ef :=
 match a,b with
 |(a,sa),(b,sb)=>match ajt t xa xb a b with
  |some v=>some (v,(sa.imp t true).and (sb.imp t false))
  |none=>none
def dU{α:Type}(b:Bool)(x:Option α):Option α:=bif b then x else none
def V.YO(k:Nat):Option V->Ef
 |some u=>some (.ref k u,.no)
 |none=>none
def V.NJ:Option V->Ef
 |some u=>some (u,.no)
 |none=>none
def faZ(h:Hz)(off k:Nat):V->Ef
 | .ref kt v=>dU (!(Nat.beq kt 0)&&o9 (bD kt) off k) (V.YO k (v.part off k))
 | .ptr i j o=>dU (h.get i).isSome (some (.ptr i j (o+off),.no))
 |_=>none
def fvZ(off k:Nat)(v:V):Ef :=
 match v.kd with
 |some kt=>dU (!(Nat.beq kt 0)&&o9 (bD kt) off k) (V.NJ (v.part off k))
 |none=>none
def Wp:List V->Nat->Option V
 |[],_=>none
 |v::_,0=>some v
 |_::r,n+1=>Wp r n
def iaZ(h:Hz)(k:Nat):V->V->Ef
 | .Am k' _ l,.int n=>match Wp l n.toNat with
  |some v=>dU (Nat.beq k' k) (some (.ref k v,.yes (0<=n)))
  |none=>none
 | .row k' _ r,.int n=>dU (Nat.beq k' k) (some (.ref k (r.get n.toNat),.yes (r.rng n)))
 | .own o,.int n=>match h.get o with
  |some (.row _ k' r [])=>dU (Nat.beq k' k) (some (.ptr o n.toNat 0,.yes (r.rng n)))
  |some (.gen _ k' x)=>dU (Nat.beq k' k) (some (.ptr o n.toNat 0,.yes (0<=n/\n<x.length)))
  |_=>none
 | .rG o lo hi,.int n=>match h.get o with
  |some (.row _ k' _ [])=>dU (Nat.beq k' k) (some (.ptr o (lo+n.toNat) 0,.yes (0<=n/\n<(hi-lo:Nat))))
  |_=>none
 |_,_=>none
def chZ:V->V->Ef
 | .str s,.int n=>some (.u8 (s.getD n.toNat 0).toNat,.yes (0<=n/\n<s.length))
 | .str s,.u8 n=>some (.u8 (s.getD n.toNat 0).toNat,.yes (0<=n/\n<s.length))
 |_,_=>none
def ldB(k j off ko:Nat)(v:V):Ef :=
 bif Nat.beq j 0 then(bif Nat.beq off 0&&Nat.beq ko k then some (v,.no) else dU (!(Nat.beq ko 0)&&o9 (bD ko) off k) (V.NJ (v.part off k))) else none
def ldR(k j off ko:Nat)(r:Rw):Ef :=
 bif Nat.beq off 0&&Nat.beq ko k then some (r.get j,.yes (r.rng j)) else
  match (r.get j).part off k with
  |some u=>dU (!(Nat.beq ko 0)&&o9 (bD ko) off k) (some (u,.yes (r.rng j)))
  |none=>none
def ldZ(h:Hz)(k:Nat):V->Ef
 | .ref k' v=>dU (Nat.beq k' k&&Nat.blt 0 (bD k)) (some (v,.no))
 | .ptr i j off=>match h.get i with
  |some (.box _ ko v)=>ldB k j off ko v
  |some (.row _ ko r [])=>ldR k j off ko r
  |_=>none
 |_=>none
def ncZ(h:Hz):V->Ef
 | .ref k v=>some (.ref k v,.no)
 | .ptr i j o=>dU (h.get i).isSome (some (.ptr i j o,.no))
 | .fn f l=>some (.fn f l,.no)
 |_=>none
def ahz(h:Hz)(str:Bool):V->Ef
 | .row _ _ r=>dU (!str) (some (r.lenV,.no))
 | .Am _ _ l=>dU (!str) (some (.int l.length,.no))
 | .str s=>dU str (some (.int s.length,.no))
 | .own o=>match h.get o with
  |some (.row _ k r x)=>dU (!str&& !(Nat.beq k gK)) (match x with|[]=>some (r.lenV,.no)|x=>some (.int (r.len+x.length),.no))
  |some (.gen _ k x)=>dU (!str&& !(Nat.beq k gK)) (some (.int x.length,.no))
  |_=>none
 | .rG o lo hi=>dU (!str&&(h.get o).isSome) (some (.int (hi-lo:Nat),.no))
 |_=>none
def mxZ:V->V->Ef
 | .int a,.int b=>some (.int (max a b),.no)
 |_,_=>none
def mnZ:V->V->Ef
 | .int a,.int b=>some (.int (min a b),.no)
 |_,_=>none
def Fa(m:Fm):List X->Option (List V×Sd)
 |[]=>some ([],.no)
 |x::r=>match y8 m x,Fa m r with
  |some v,some (l,s)=>match v.bare with|(u,s')=>some (u::l,s'.and s)
  |_,_=>none
def Z9:List (Nat×Nat×X)->List V->List V->Option (List V)
 |[],[],z=>some z
 |(off,n,_)::ps,v::vs,z=>match v.cells with
  |some c=>dU (Nat.beq c.length n&&Nat.ble (off+n) z.length) (Z9 ps vs (z.take off++c++z.drop (off+n)))
  |none=>none
 |_,_,_=>none
def G5(h:Hz):List V->Bool
 |[]=>true
 |v::r=>v.nR h&&G5 h r
def mkZ(m:Fm)(h:Hz)(z:List T)(ps:List (Nat×Nat×X)):Ef :=
 match Fa m (ps.map fun p=>p.2.2) with
 |some (vs,s)=>match Z9 ps vs (ofL z) with
  |some l=>dU (G5 h vs) (some (.agg l,s))
  |none=>none
 |none=>none
def AB(k:Nat):List V->Bool
 |[]=>true
 |v::r=>(match v.kd with|some k'=>Nat.beq k' k|none=>false)&&AB k r
def aev(n:Nat):List (Nat×X)->List V->List V->Option (List V)
 |[],[],z=>some z
 |(i,_)::ps,v::vs,z=>dU (Nat.blt i n) (aev n ps vs (z.set i v))
 |_,_,_=>none
def msZ(m:Fm)(h:Hz)(k:Nat)(z:T)(n:Nat)(ps:List (Nat×X)):Ef :=
 match Fa m (ps.map fun p=>p.2) with
 |some (vs,s)=>match aev n ps vs (List.replicate n (E9 z)) with
  |some l=>dU ((z.kd==k)&&z.free&&AB k vs&&G5 h vs&&V.bn vs&&Nat.ble (n*bD k) 16777216&&Nat.blt 0 (bD k))
    (match Rw.ofL l with
    |some r=>some (.row k true r,s)
    |none=>some (.Am k true l,s))
  |none=>none
 |none=>none
def kOk(k k':Nat):Rw->Bool
 | .nil=>true
 |_=>Nat.beq k' k
def Pg(m:Fm):Option X->Option (Option V×Sd)
 |none=>some (none,.no)
 |some x=>match y8 m x with
  |some v=>match v.bare with|(u,s)=>some (some u,s)
  |none=>none
def aew(k k':Nat)(f:Bool)(r:Rw):Option V->Option V->Option V->Ef
 |none,none,none=>dU (kOk k k' r) (some (.row k f r,.no))
 |some (.int a),none,none=>dU (kOk k k' r) (some (.row k f (r.drop a.toNat),.yes (r.vT a)))
 |none,some (.int b),none=>dU (kOk k k' r) (some (.row k (f&&decide (b=r.len)) (r.take b.toNat),.yes (r.vT b)))
 |some (.int a),some (.int b),none=>dU (kOk k k' r) (some (.row k false ((r.take b.toNat).drop a.toNat),.yes (0<=a/\a<=b/\r.vT b)))
 |none,some (.int b),some (.int c)=>dU (kOk k k' r) (some (.row k (decide (b=c)) (r.take b.toNat),.yes (0<=b/\b<=c/\r.vT c)))
 |_,_,_=>none
def aex(k i ko:Nat)(r:Rw):Option V->Option V->Option V->Ef
 |some (.int a),none,none=>dU (Nat.beq ko k) (some (.rG i a.toNat r.len,.yes (r.vT a)))
 |none,some (.int b),none=>dU (Nat.beq ko k) (some (.rG i 0 b.toNat,.yes (r.vT b)))
 |some (.int a),some (.int b),none=>dU (Nat.beq ko k) (some (.rG i a.toNat b.toNat,.yes (0<=a/\a<=b/\r.vT b)))
 |_,_,_=>none
def YP(k i ko:Nat)(r:Rw)(xs:List V):Option V->Option V->Option V->Ef
 |none,some (.int b),none=>dU (Nat.beq ko k) (some (.rG i 0 b.toNat,.yes (r.vT b)))
 |lo,hi,mx=>match xs with|[]=>aex k i ko r lo hi mx|_=>none
def slZ(h:Hz)(x:Bool)(k:Nat)(v:V)(lo hi mx:Option V):Ef :=
 match v with
 | .row k' f r=>aew k k' f r lo hi mx
 | .own i=>bif x then(match h.get i with
  |some (.row _ ko r xs)=>YP k i ko r xs lo hi mx
  |_=>none) else none
 |_=>none
def slX(m:Fm)(h:Hz)(b:Bool)(k:Nat)(x:X)(lo hi mx:Option X):Ef :=
 Qr m x fun v=>match Pg m lo,Pg m hi,Pg m mx with
  |some (lo,s1),some (hi,s2),some (mx,s3)=>match slZ h b k v lo hi mx with
   |some (u,s)=>some (u,s1.and (s2.and (s3.and s)))
   |none=>none
  |_,_,_=>none
def ssZ(s:Str):Option V->Option V->Ef
 |some (.int a),none=>some (.str (s.drop a.toNat),.yes (0<=a/\a<=s.length))
 |none,some (.int b)=>some (.str (s.take b.toNat),.yes (0<=b/\b<=s.length))
 |some (.int a),some (.int b)=>some (.str ((s.take b.toNat).drop a.toNat),.yes (0<=a/\a<=b/\b<=s.length))
 |_,_=>none
def ssX(m:Fm)(x:X)(lo hi:Option X):Ef :=
 Qr m x fun v=>match v,Pg m lo,Pg m hi with
  | .str s,some (lo,s1),some (hi,s2)=>match ssZ s lo hi with
   |some (u,s)=>some (u,s1.and (s2.and s))
   |none=>none
  |_,_,_=>none
def exZ(i:Nat):V->Ef
 | .dD l=>match l[i]? with|some v=>some (v,.no)|none=>none
 |_=>none
def akq(ne:Bool)(n:Nat):V->V->Ef
 | .dat (.lin x),.dat (.lin y)=>dU (Nat.beq n 4) (some (.bool (bif ne then !(x==y) else x==y),.no))
 | .dat (.Vd x),.dat (.Vd y)=>dU (Nat.beq n 6) (some (.bool (bif ne then !(x==y) else x==y),.no))
 |_,_=>none
def MJ(n:Int):List (Int×List Bool)->Option (List Bool)
 |[]=>none
 |(m,v)::r=>bif n==m then some v else MJ n r
def mfZ(m:Fm)(h:Hz)(f:FuncId)(cap:List X):Ef :=
 match Fa m cap with
 |some (l,s)=>dU (G5 h l&&AB 0 l&&Nat.blt f 4096) (some (.fn f l,s))
 |none=>none
def mbZ(f:FuncId):V->Ef
 | .agg l=>dU (Nat.blt f 4096) (some (.fn (f+4096) l,.no))
 | .dat d=>dU (Nat.blt f 4096) (some (.fn (f+4096) d.cells,.no))
 |_=>none
def akr:V->Ef
 | .row _ true r=>some (r.lenV,.no)
 |_=>none
def saZ(n:Nat):V->Ef
 | .ref k (.agg l)=>match Rw.ofL l with
  |some r=>dU (Nat.beq k (n+1)&&Nat.beq l.length n&&Nat.blt 0 n) (some (.row 0 true r,.no))
  |none=>none
 |_=>none
def V.byte:V->UInt8
 | .u8 n=>UInt8.ofNat n.toNat
 |_=>0
def V.CQ:V->Bool
 | .u8 _=>true
 |_=>false
def aks(h:Hz):V->Ef
 | .own i=>match h.get i with
  |some (.row _ ko .nil x)=>dU (Nat.beq ko 0) (some (.str (x.map V.byte),.yes (x≠[]/\x.all V.CQ=true)))
  |_=>none
 |_=>none
def MV(n:Str):List (Str×Int)->Option Int
 |[]=>none
 |(m,l)::r=>bif n==m then some l else MV n r
def qz(m:Fm)(h:Hz):o8->Ef
 | .mv x=>match y8 m x with|some v=>some (v,.no)|none=>none
 | .pick c a b=>Qr m c fun c=>match c,y8 m a,y8 m b with
  | .bool t,some va,some vb=>aeu t a b va.bare vb.bare
  |_,_,_=>none
 | .bin op x y=>qz2 m x y (akp op)
 | .bb ne x y=>qz2 m x y fun x y=>match x,y with
  | .bool a,.bool b=>some (.bool (bif ne then !(a==b) else a==b),.no)
  |_,_=>none
 | .not x=>Qr m x fun v=>match v with| .bool b=>some (.bool !b,.no)|_=>none
 | .conv .i64 x=>Qr m x fun v=>match v with
  | .int n=>some (.int n,.yes (okI n))
  | .u8 n=>some (.int n,.yes (okI n))
  | .raw (.lit (.int .u64 n))=>some (.int n,.yes (okI n))
  |_=>none
 | .conv .u64 x=>Qr m x fun v=>match v with
  | .int n=>some (.raw (.lit (.int .u64 n)),.yes (0<=n/\n<18446744073709551616))
  | .raw (.lit (.int .i64 n))=>some (.raw (.lit (.int .u64 (IntKind.u64.wrap n))),.no)
  |_=>none
 | .conv .u8 x=>Qr m x fun v=>match v with
  | .int n=>some (.u8 (IntKind.u8.wrap n),.no)
  | .raw (.lit (.int .u64 n))=>some (.u8 n,.yes (0<=n/\n<256))
  |_=>none
 | .fa off k x=>Qr m x (faZ h off k)
 | .fv off k x=>Qr m x (fvZ off k)
 | .ia k x i=>qz2 m x i (iaZ h k)
 | .ch x i=>qz2 m x i chZ
 | .ld k x=>Qr m x (ldZ h k)
 | .nc x=>Qr m x (ncZ h)
 | .len s x=>Qr m x (ahz h s)
 | .mx x y=>qz2 m x y mxZ
 | .mn x y=>qz2 m x y mnZ
 | .mk z ps=>mkZ m h z ps
 | .ms _ k z n ps=>msZ m h k z n ps
 | .sl k x lo hi mx=>slX m h false k x lo hi mx
 | .slx k x lo hi mx=>slX m h true k x lo hi mx
 | .ss x lo hi=>ssX m x lo hi
 | .ex x i=>Qr m x (exZ i)
 | .mf f cap=>mfZ m h f cap
 | .eqs ne n x y=>qz2 m x y (akq ne n)
 | .TG x=>Qr m x akr
 | .mb f x=>Qr m x (mbZ f)
 | .sa n x=>Qr m x (saZ n)
 | .bts x=>Qr m x (aks h)
 |_=>none
theorem aju(b:ByteArray):eS b.data.toList= .lit (.string b):=by
 unfold eS bs; simp
mutual
theorem yO:(t:T)->(E9 t).aI=t
 | .lit v=>by
  cases v with
  |int k n=>cases k<;>simp[E9,V.aI]
  |bool b=>simp[E9,V.aI]
  |string b=>simp only[E9,V.aI]; exact aju b
  |_=>simp[E9,V.aI]
 | .agg l=>by simp only[E9,V.aI]; rw[DU l]
 | .sl k f l=>by cases l<;>simp[E9,V.aI,Rw.aS]
 | .ref k t=>by simp[E9,V.aI]
 | .own i=>by simp[E9,V.aI]
 | .ptr i j k=>by simp[E9,V.aI]
 | .rG i j k=>by simp[E9,V.aI]
 | .fn f l=>by simp only[E9,V.aI]; rw[DU l]
 | .dD l=>by simp[E9,V.aI]
 | .any=>by simp[E9,V.aI]
theorem DU:(l:List T)->V.aS (ofL l)=l
 |[]=>rfl
 |t::r=>by simp only[ofL,V.aS]; rw[yO t,DU r]
end
theorem jG(l:List V):V.aS l=l.map V.aI:=by
 induction l with
 |nil=>rfl
 |cons v r ih=>simp[V.aS,ih]
theorem cO(l:List V):(V.aS l).length=l.length:=by rw[jG]; simp
theorem rW(a b:List V):V.aS (a++b)=V.aS a++V.aS b:=by simp[jG]
theorem Ph(a:List V)(n:Nat):V.aS (a.take n)=(V.aS a).take n:=by simp[jG]
theorem Pj(a:List V)(n:Nat):V.aS (a.drop n)=(V.aS a).drop n:=by simp[jG]
def Rp(m:Fm)(fr:List T):Prop:= ∀ i v,m.get i=some v->fr[i]? =some v.aI
theorem Rp.getD{m:Fm}{fr:List T}(R:Rp m fr){i:Nat}{v:V}{d:T}(h:m.get i=some v):fr.getD i d=v.aI:=by
 rw[ab,R i v h]; rfl
theorem Rp.ev{m:Fm}{s:AS}(R:Rp m s.fr){x:X}{v:V}(h:y8 m x=some v):s.ev x=v.aI:=by
 cases x with
 |t n=>exact R.getD h
 |c t=>simp only[y8,bi] at h; subst h; exact(yO t).symm
theorem dZ{v u:V}{s:Sd}(h:v.bare=(u,s))(hs:s.holds):v.aI=u.aI:=by
 unfold V.bare at h;split at h
 ·cases h; simp only[Sd.holds] at hs; simp[V.aI,hs]
 ·cases h; rfl
theorem Sd.pI{a b:Sd}:(a.and b).holds↔a.holds/\b.holds:=by cases a<;>cases b<;>simp[Sd.and,Sd.holds]
theorem Sd.Sz{t b:Bool}{s:Sd}:(s.imp t b).holds↔(t=b->s.holds):=by cases s<;>simp[Sd.imp,Sd.holds]
theorem mg{m:Fm}{s:AS}(R:Rp m s.fr){x:X}{f:V->Ef}{r:V}{sd:Sd}(h:Qr m x f=some (r,sd))(hs:sd.holds): ∃ u s',f u=some (r,s')/\s'.holds/\s.ev x=u.aI:=by
 unfold Qr at h;split at h
 ·rename_i v hv;split at h;rename_i u s0 hb;split at h
  ·rename_i r' s' hf;cases h;rw[Sd.pI] at hs;exact⟨u,s',hf,hs.2,by rw[R.ev hv,dZ hb hs.1]⟩
  ·cases h
 ·cases h
theorem DV{m:Fm}{s:AS}(R:Rp m s.fr){x y:X}{f:V->V->Ef}{r:V}{sd:Sd}(h:qz2 m x y f=some (r,sd))(hs:sd.holds): ∃ u v s',f u v=some (r,s')/\s'.holds/\s.ev x=u.aI/\s.ev y=v.aI:=by
 obtain⟨u,s',h1,h2,h3⟩:=mg R h hs;obtain⟨v,s'',h4,h5,h6⟩:=mg R h1 h2;exact⟨u,v,s'',h4,h5,h3,h6⟩
theorem aU{α:Type}{b:Bool}{x:Option α}{y:α}(h:dU b x=some y):b=true/\x=some y:=by
 cases b<;>simp[dU] at h; exact⟨rfl,h⟩
theorem amg{n:Int}(h1:0<=n)(h2:n<18446744073709551616):IntKind.u64.wrap n=n:=by
 have e:IntKind.u64.wrap n=(if(false&&decide (n % 18446744073709551616>=9223372036854775808))=true then n % 18446744073709551616-18446744073709551616 else n % 18446744073709551616):=rfl;rw[e];simp only[fT,da,cW];omega
theorem akt{n:Int}(h1:0<=n)(h2:n<256):IntKind.u8.wrap n=n:=by
 have e:IntKind.u8.wrap n=(if(false&&decide (n % 256>=128))=true then n % 256-256 else n % 256):=rfl;rw[e];simp only[fT,da,cW];omega
theorem aac{n:Int}(h:okI n):IntKind.i64.wrap n=n:=wrap64 h.1 h.2
theorem Rw.fD(r:Rw):r.aS.length=r.len:=by cases r<;>simp[Rw.aS,Rw.len]
theorem Rw.Uh(r:Rw):r.lenV= .int r.len:=by cases r<;>rfl
theorem Rw.DW{n:Int}{r:Rw}:r.rng n↔(0<=n/\n<r.len):=by cases r<;>simp[Rw.rng,Rw.len]<;>omega
theorem Rw.x8{n:Int}{r:Rw}:r.vT n↔(0<=n/\n<=r.len):=by cases r<;>simp[Rw.vT,Rw.len]<;>omega
theorem getD_map'{α:Type}{f:α->T}{l:List α}{i:Nat}{d:α}(h:i<l.length):(l.map f).getD i .any=f (l.getD i d):=by
 simp[List.getD_eq_getElem?_getD,h]
theorem Rw.Ui{r:Rw}{i:Nat}(h:i<r.len):r.aS.getD i .any=(r.get i).aI:=by
 cases r<;>simp only[Rw.len] at h<;>simp only[Rw.aS,Rw.get,V.aI,Dat.aI,Rw.aS]<;>first|exact getD_map' h|omega
theorem Rw.Fb(r:Rw)(n:Nat):(r.take n).aS=r.aS.take n:=by cases r<;>simp[Rw.take,Rw.aS]
theorem Rw.Wq(r:Rw)(n:Nat):(r.drop n).aS=r.aS.drop n:=by cases r<;>simp[Rw.drop,Rw.aS]
theorem Rw.aey(r:Rw):V.aS r.vs=r.aS:=by
 rw[jG];cases r<;>simp[Rw.vs,Rw.aS,V.aI,Dat.aI]
theorem Rw.NK{a b c:Rw}(h:a.app b=some c):c.aS=a.aS++b.aS:=by
 unfold Rw.app at h;split at h<;>first|(cases h; done)|(cases h; simp[Rw.aS])
theorem Rw.aez(r:Rw)(n:Nat):(r.take n).len=min n r.len:=by rw[<- Rw.fD,Rw.Fb,bR,Rw.fD]
theorem V.ahA{v:V}{r:Rw}(h:v.one=some r):r.aS=[v.aI]:=by
 unfold V.one at h;split at h<;>first|(cases h; done)|(cases h; simp[Rw.aS,V.aI,V.aS,Dat.aI,jK,QK,Jy])
theorem Rw.DU: ∀ {l:List V} {r:Rw},Rw.ofL l=some r->r.aS=V.aS l:=by
 intro l;induction l with
 |nil=>intro r h; cases h; rfl
 |cons v l ih =>
  intro r h;simp only[Rw.ofL] at h;split at h
  ·rename_i a b h1 h2;rw[Rw.NK h,V.ahA h1,ih h2]; rfl
  ·cases h
theorem V.Uj{v:V}{k:Nat}(h:v.kd=some k):v.aI.kd=k:=by
 cases v with
 |dat d=>cases h; exact Dat.ako d
 |_=>simp only[V.kd,bi,reduceCtorEq] at h<;>subst h<;>simp[V.aI,T.kd,eS,cO]
theorem V.Lh{v:V}{l:List V}(h:v.cells=some l):v.aI.cells=V.aS l:=by
 cases v<;>simp only[V.cells,bi,reduceCtorEq] at h<;>subst h<;>simp[V.aI,Dat.Le,T.cells,eS,V.aS]
theorem Hz.CS{h:Hz}{i:Nat}:(h.aj i).isSome=(h.get i).isSome:=by simp[Hz.aj]
theorem V.wG{h:Hz}{v:V}(hv:v.nR h=true):v.aI.nR h.aj=true:=by
 cases v<;>simp only[V.nR,da] at hv<;>simp[V.aI,T.nR,T.Ai,eS,Value.oneCell',Hz.CS,hv]
 rename_i d;cases d<;>rfl
theorem V.aeA{h:Hz}{v:V}(hv:v.nR h=true)(hk:v.kd=some 0):v.aI.Ai h.aj=true:=by
 cases v<;>simp only[V.nR,da] at hv<;>simp only[V.kd,bi,Nat.succ_ne_zero] at hk<;>simp[V.aI,T.Ai,eS,Value.oneCell',Hz.CS,hv]
 rename_i d;cases d<;>cases hk
theorem Dat.free(d:Dat):d.aI.free=true:=by cases d<;>rfl
mutual
theorem V.jS:(v:V)->v.free=true->v.aI.free=true
 | .int _,_=>by simp[V.aI,T.free]
 | .bool _,_=>by simp[V.aI,T.free]
 | .u8 _,_=>by simp[V.aI,T.free]
 | .str _,_=>by simp[V.aI,T.free,eS]
 | .dat d,_=>by simp only[V.aI]; exact d.free
 | .agg l,h=>by simp only[V.aI,T.free]; simp only[V.free] at h; exact V.eG l h
 | .row _ _ _,_=>by simp[V.aI,T.free]
 | .Am _ _ _,_=>by simp[V.aI,T.free]
 | .ref _ _,_=>by simp[V.aI,T.free]
 | .own _,h=>by simp[V.free] at h
 | .inn _,h=>by simp[V.free] at h
 | .pin _ _ _,h=>by simp[V.free] at h
 | .ptr _ _ _,h=>by simp[V.free] at h
 | .rG _ _ _,h=>by simp[V.free] at h
 | .fn _ l,h=>by simp only[V.aI,T.free]; simp only[V.free] at h; exact V.eG l h
 | .dD l,h=>by simp only[V.aI,T.free]; simp only[V.free] at h; exact V.eG l h
 | .cnd _ _,h=>by simp[V.free] at h
 | .raw t,h=>by simp only[V.aI]; simpa only[V.free] using h
theorem V.eG:(l:List V)->V.bn l=true->T.bn (V.aS l)=true
 |[],_=>by simp[V.aS,T.bn]
 |v::r,h=>by
  simp only[V.bn,aD] at h;simp only[V.aS,T.bn,aD];exact⟨V.jS v h.1,V.eG r h.2⟩
end
theorem x9{l:List V}{i:Nat}{u:V}(h:l[i]? =some u):(V.aS l).getD i .any=u.aI:=by
 rw[jG,ab,cM,h]; rfl
theorem V.Fe{off k:Nat}{v u:V}(h:v.part off k=some u):v.aI.part off k=u.aI:=by
 unfold V.part at h;split at h
 ·simp only[V.aI,Dat.Le,T.part,T.cells]; exact x9 h
 ·simp only[V.aI,T.part,T.cells]; exact x9 h
 ·rename_i k x;cases hb:(Nat.beq off 2)&&(Nat.beq k 4) with
  |false=>rw[hb] at h; cases h
  |true =>
   rw[hb] at h;simp only[aD,Nat.beq_eq] at hb;obtain⟨rfl,rfl⟩:=hb;cases h; rfl
 ·cases h;simp only[V.aI,T.part,T.cells,Ph,Pj]
 ·cases h
theorem fO{a b:Nat}(h:Nat.beq a b=true):a=b:=cw h
section
variable {m:Fm} {h:Hz} {s:AS}
def Ok(s:AS)(op:o8)(v:V):Prop:=qc s op/\qt s op=v.aI
theorem ahB{op:BinOp}{x y:X}{u v r:V}{sd:Sd}(q:akp op u v=some (r,sd))(hs:sd.holds)(h1:s.ev x=u.aI)(h2:s.ev y=v.aI):Ok s (.bin op x y) r:=by
 unfold Ok; simp only[qc,qt]; rw[h1,h2];unfold akp at q;split at q
 ·rename_i a b;split at q<;>first|(cases q; done)|(cases q; simp only[Sd.holds] at hs; simp[V.aI,En,kEq,aac,hs])
 ·split at q<;>first|(cases q; done)|(cases q; simp[V.aI,En,kEq])
 ·split at q
  ·cases q; simp[V.aI,En,eS,Gf]
  ·cases q; simp[V.aI,En,eS,Gf]
  ·rename_i a b _;cases q;simp only[Sd.holds] at hs;have hsz:(((bs a).size+(bs b).size:Nat):Int)<=9223372036854775807:=by
    have e1:(bs a).size=a.length:=by simp[bs,ByteArray.size]
    have e2:(bs b).size=b.length:=by simp[bs,ByteArray.size]
    rw[e1,e2]; exact Int.ofNat_le.2 hs
   have hap:bs a++bs b=bs (a++b):=by apply ByteArray.ext; simp[bs]
   have hsz2:((bs a).size:Int)+(bs b).size<=9223372036854775807:=by omega
   simp[V.aI,En,eS,hsz2,hap]
  ·cases q
 ·split at q
  ·cases q;simp only[Sd.holds] at hs;refine⟨?_,?_⟩
   ·simp only[V.aI,En,hs,iB,bE,Option.isSome]
   ·simp only[V.aI,En,hs,iB,bE]; rfl
  ·cases q; simp[V.aI,En,kEq]
  ·cases q;simp only[Sd.holds] at hs;simp[V.aI,En,kEq,hs]
  ·cases q; simp[V.aI,En,kEq]
  ·cases q; simp[V.aI,En,kEq]
  ·cases q
 ·split at q
  ·cases q;simp only[Sd.holds] at hs;refine⟨?_,?_⟩
   ·simp only[V.aI,En,hs,iB,bE,Option.isSome]
   ·simp only[V.aI,En,hs,iB,bE]; rfl
  ·cases q
 ·cases q
theorem YQ{x:X}(hx:Gg x=true):x= .c (.lit (.bool true)):=by
 unfold Gg at hx;split at hx
 ·rfl
 ·cases hx
theorem Ws{x:X}(hx:CP x=true):x= .c (.lit (.bool false)):=by
 unfold CP at hx;split at hx
 ·rfl
 ·cases hx
theorem aeB{c xa xb:X}{t:Bool}{va vb r:V}{sd:Sd}(R:Rp m s.fr)(ha:y8 m xa=some va)(hb:y8 m xb=some vb)(q:aeu t xa xb va.bare vb.bare=some (r,sd))(hs:sd.holds)(hc:s.ev c= .lit (.bool t)):Ok s (.pick c xa xb) r:=by
 unfold Ok; simp only[qc,qt]; rw[hc];refine⟨rfl,?_⟩;unfold aeu at q;split at q;rename_i a sa b sb ea eb;split at q
 ·rename_i v hp;cases q;rw[Sd.pI,Sd.Sz,Sd.Sz] at hs;have h1:t=true->s.ev xa=a.aI:=fun e=>by rw[R.ev ha,dZ ea (hs.1 e)]
  have h2:t=false->s.ev xb=b.aI:=fun e=>by rw[R.ev hb,dZ eb (hs.2 e)]
  unfold ajt at hp;split at hp
  ·rename_i x y;have hp':r= .bool (bif Gg xa then t||y else bif CP xb then t&&x else bif t then x else y):=by
    cases e1:Gg xa<;>cases e2:CP xb<;>simp[e1,e2] at hp ⊢ <;>exact hp.symm
   subst hp';have key:EN (.lit (.bool t)) (s.ev xa) (s.ev xb)= .lit (.bool (bif t then x else y)):=by
    cases t with
    |true =>
     rw[h1 rfl]; simp only[V.aI,EN];split<;>simp_all
    |false =>
     rw[h2 rfl]; simp only[V.aI,EN];split<;>simp_all
   rw[key];simp only[V.aI]
   congr 2
   cases e1:Gg xa with
   |true =>
    have:=YQ e1; subst this;simp only[y8,bi] at ha; subst ha;simp only[E9,V.bare,fe] at ea;have:=ea.1; cases this;cases t<;>rfl
   |false =>
    cases e2:CP xb with
    |true =>
     have:=Ws e2; subst this;simp only[y8,bi] at hb; subst hb;simp only[E9,V.bare,fe] at eb;have:=eb.1; cases this;cases t<;>simp
    |false=>rfl
  ·cases hp;cases t with
   |true=>rw[h1 rfl]; simp only[V.aI,EN,bE]
   |false=>rw[h2 rfl]; simp only[V.aI,EN,ap]; split<;>simp_all
  ·cases hp;cases t with
   |true=>rw[h1 rfl]; simp only[V.aI,EN,bE,eS]
   |false=>rw[h2 rfl]; simp only[V.aI,EN,ap,eS]; split<;>simp_all
  ·cases hp
 ·cases q
theorem YR{k:Nat}{p:Option V}{r:V}{sd:Sd}(q:V.YO k p=some (r,sd)): ∃ u,p=some u/\r= .ref k u:=by
 unfold V.YO at q;split at q
 ·cases q; exact⟨_,rfl,rfl⟩
 ·cases q
theorem MK{p:Option V}{r:V}{sd:Sd}(q:V.NJ p=some (r,sd)):p=some r:=by
 unfold V.NJ at q;split at q
 ·cases q; rfl
 ·cases q
theorem aeC{k:Nat}(h:(!(Nat.beq k 0))=true):(!(k==0))=true:=by
 cases k<;>simp_all
theorem aku(hh:s.hp=h.aj){off k:Nat}{x:X}{u r:V}{sd:Sd}(q:faZ h off k u=some (r,sd))(h1:s.ev x=u.aI):Ok s (.fa off k x) r:=by
 unfold Ok; simp only[qc,qt]; rw[h1];unfold faZ at q;split at q
 ·obtain⟨g,q⟩:=aU q;obtain⟨u,e,rfl⟩:=YR q;simp only[aD] at g;simp only[V.aI,V.Fe e,aD];exact⟨⟨aeC g.1,g.2⟩,trivial⟩
 ·obtain⟨g,q⟩:=aU q;cases q;simp only[V.aI,hh,Hz.CS,g,and_self]
 ·cases q
theorem akv{off k:Nat}{x:X}{u r:V}{sd:Sd}(q:fvZ off k u=some (r,sd))(h1:s.ev x=u.aI):Ok s (.fv off k x) r:=by
 unfold Ok; simp only[qc,qt]; rw[h1];unfold fvZ at q;split at q
 ·rename_i kt hk;obtain⟨g,q⟩:=aU q;rw[V.Uj hk,V.Fe (MK q)];simp only[aD] at g ⊢;exact⟨⟨aeC g.1,g.2⟩,trivial⟩
 ·cases q
theorem aK{i:Nat}{o:OV}(e:h.get i=some o):h.aj i=some o.au:=by simp[Hz.aj,e]
theorem ahC: ∀ {l:List V} {i:Nat} {v:V},Wp l i=some v->i<l.length/\(V.aS l).getD i .any=v.aI:=by
 intro l;induction l with
 |nil=>intro i v h; cases h
 |cons u r ih =>
  intro i v h;cases i with
  |zero=>cases h; exact⟨Nat.succ_pos _,rfl⟩
  |succ i =>
   obtain⟨a,b⟩:=ih h;exact⟨Nat.succ_lt_succ a,by simpa [V.aS] using b⟩
theorem aeD(hh:s.hp=h.aj){k:Nat}{x i:X}{u v r:V}{sd:Sd}(q:iaZ h k u v=some (r,sd))(hs:sd.holds)(h1:s.ev x=u.aI)(h2:s.ev i=v.aI):Ok s (.ia k x i) r:=by
 unfold Ok; simp only[qc,qt]; rw[h1,h2];unfold iaZ at q;split at q
 ·rename_i k' f l n;split at q
  ·rename_i v hv;obtain⟨g,q⟩:=aU q;cases q;have:=fO g; subst this;simp only[Sd.holds] at hs;obtain⟨a,b⟩:=ahC hv;simp only[V.aI,inR,cO];exact⟨⟨trivial,hs,by omega⟩,by rw[b]⟩
  ·cases q
 ·rename_i k' f w n;obtain⟨g,q⟩:=aU q;cases q;have:=fO g; subst this;simp only[Sd.holds,Rw.DW] at hs;simp only[V.aI,inR,Rw.fD];refine⟨⟨trivial,hs⟩,?_⟩;rw[Rw.Ui (by omega)]
 ·rename_i o n;split at q
  ·rename_i ty k' w e;obtain⟨g,q⟩:=aU q;cases q;have:=fO g; subst this;simp only[Sd.holds,Rw.DW] at hs;simp only[V.aI,hh,aK e,OV.au,V.aS,cS,inR,Rw.fD];exact⟨⟨trivial,hs⟩,trivial⟩
  ·rename_i ty k' x e;obtain⟨g,q⟩:=aU q;cases q;have:=fO g; subst this;simp only[Sd.holds] at hs;simp only[V.aI,hh,aK e,OV.au,inR,cO];exact⟨⟨trivial,hs⟩,trivial⟩
  ·cases q
 ·rename_i o lo hi n;split at q
  ·rename_i ty k' w e;obtain⟨g,q⟩:=aU q;cases q;have:=fO g; subst this;simp only[Sd.holds] at hs;simp only[V.aI,hh,aK e,OV.au,inR];exact⟨⟨trivial,hs⟩,trivial⟩
  ·cases q
 ·cases q
theorem akw{x i:X}{u v r:V}{sd:Sd}(q:chZ u v=some (r,sd))(hs:sd.holds)(h1:s.ev x=u.aI)(h2:s.ev i=v.aI):Ok s (.ch x i) r:=by
 unfold Ok; simp only[qc,qt]; rw[h1,h2];unfold chZ at q;split at q
 ·cases q;simp only[Sd.holds] at hs;simp only[V.aI,eS,inR,DT,aep];exact⟨hs,trivial⟩
 ·cases q;simp only[Sd.holds] at hs;simp only[V.aI,eS,inR,DT,aep];exact⟨hs,trivial⟩
 ·cases q
theorem YS(hh:s.hp=h.aj){k:Nat}{x:X}{u r:V}{sd:Sd}(q:ldZ h k u=some (r,sd))(hs:sd.holds)(h1:s.ev x=u.aI):Ok s (.ld k x) r:=by
 unfold Ok; simp only[qc,qt]; rw[h1];unfold ldZ at q;split at q
 ·obtain⟨g,q⟩:=aU q;cases q;simp only[aD] at g;have:=fO g.1; subst this;simp[V.aI,g.2]
 ·rename_i i j off;split at q
  ·rename_i ty ko v e;simp only[V.aI,hh,aK e,OV.au];unfold ldB at q;cases hj:Nat.beq j 0 with
   |false=>rw[hj] at q; cases q
   |true =>
    have:=fO hj; subst this;rw[hj] at q;simp only[bE] at q;cases hb:(Nat.beq off 0&&Nat.beq ko k) with
    |true =>
     rw[hb] at q; cases q;simp only[aD] at hb;have e1:=fO hb.1; have e2:=fO hb.2; subst e1; subst e2;simp
    |false =>
     rw[hb] at q;simp only[ap] at q;obtain⟨g,q⟩:=aU q;have hb':(off==0&&ko==k)=false:=by
      rw[cH] at hb ⊢;rcases hb with hb|hb
      ·left; simpa using cG hb
      ·right; simpa using cG hb
     simp only[hb',ap,cz,gH,V.Fe (MK q),bX,cC];simp only[aD] at g ⊢;exact⟨⟨by omega,aeC g.1,g.2⟩,trivial⟩
  ·rename_i ty ko w e;simp only[V.aI,hh,aK e,OV.au,V.aS,cS];unfold ldR at q;cases hb:(Nat.beq off 0&&Nat.beq ko k) with
   |true =>
    rw[hb] at q; cases q;simp only[aD] at hb;have e1:=fO hb.1; have e2:=fO hb.2; subst e1; subst e2;simp only[Sd.holds,Rw.DW] at hs;have hlt:j<w.len:=by omega
    simp only[BEq.rfl,fI,Bool.true_or,bE,Rw.fD,Rw.Ui hlt];exact⟨⟨hlt,trivial⟩,trivial⟩
   |false =>
    rw[hb] at q;simp only[ap] at q;split at q
    ·rename_i u hu;obtain⟨g,q⟩:=aU q;cases q;have hb':(off==0&&ko==k)=false:=by
      rw[cH] at hb ⊢;rcases hb with hb|hb
      ·left; simpa using cG hb
      ·right; simpa using cG hb
     simp only[Sd.holds,Rw.DW] at hs;have hlt:j<w.len:=by omega
     simp only[hb',ap,cz,Rw.fD,Rw.Ui hlt,V.Fe hu];simp only[aD] at g ⊢;exact⟨⟨hlt,aeC g.1,g.2⟩,trivial⟩
    ·cases q
  ·cases q
 ·cases q
theorem akx(hh:s.hp=h.aj){x:X}{u r:V}{sd:Sd}(q:ncZ h u=some (r,sd))(h1:s.ev x=u.aI):Ok s (.nc x) r:=by
 unfold Ok; simp only[qc,qt]; rw[h1];unfold ncZ at q;split at q
 ·cases q; simp[V.aI]
 ·obtain⟨g,q⟩:=aU q; cases q; simp[V.aI,hh,Hz.CS,g]
 ·cases q; simp[V.aI]
 ·cases q
theorem aad(hh:s.hp=h.aj){str:Bool}{x:X}{u r:V}{sd:Sd}(q:ahz h str u=some (r,sd))(h1:s.ev x=u.aI):Ok s (.len str x) r:=by
 unfold Ok; simp only[qc,qt]; rw[h1];unfold ahz at q;split at q
 ·obtain⟨g,q⟩:=aU q; cases q;simp only[bq] at g;simp[V.aI,Rw.Uh,Rw.fD,g]
 ·obtain⟨g,q⟩:=aU q; cases q;simp only[bq] at g;simp[V.aI,cO,g]
 ·obtain⟨g,q⟩:=aU q; cases q;simp[V.aI,eS,DT,g]
 ·rename_i o;split at q
  ·rename_i ty k w y e;obtain⟨g,q⟩:=aU q;simp only[aD,bq] at g;have hk:k≠gK:=cG g.2;split at q
   ·cases q;simp only[V.aI,hh,aK e,OV.au,V.aS,cS,Rw.Uh,Rw.fD];exact⟨⟨g.1,hk⟩,trivial⟩
   ·cases q;simp only[V.aI,hh,aK e,OV.au,aL,cO,Rw.fD];exact⟨⟨g.1,hk⟩,by simp⟩
  ·rename_i ty k x e;obtain⟨g,q⟩:=aU q;cases q;simp only[aD,bq] at g;simp only[V.aI,hh,aK e,OV.au,cO];exact⟨⟨g.1,cG g.2⟩,trivial⟩
  ·cases q
 ·rename_i o lo hi;obtain⟨g,q⟩:=aU q; cases q;simp only[aD,bq] at g;simp[V.aI,hh,Hz.CS,g]
 ·cases q
theorem aky{x y:X}{u v r:V}{sd:Sd}(q:mxZ u v=some (r,sd))(h1:s.ev x=u.aI)(h2:s.ev y=v.aI):Ok s (.mx x y) r:=by
 unfold Ok; simp only[qc,qt]; rw[h1,h2];unfold mxZ at q;split at q
 ·rename_i a b;cases q; simp only[V.aI,iA]; congr 2; split<;>omega
 ·cases q
theorem akz{x y:X}{u v r:V}{sd:Sd}(q:mnZ u v=some (r,sd))(h1:s.ev x=u.aI)(h2:s.ev y=v.aI):Ok s (.mn x y) r:=by
 unfold Ok; simp only[qc,qt]; rw[h1,h2];unfold mnZ at q;split at q
 ·rename_i a b;cases q; simp only[V.aI,iA]; congr 2; split<;>omega
 ·cases q
theorem akA{i:Nat}{x:X}{u r:V}{sd:Sd}(q:exZ i u=some (r,sd))(h1:s.ev x=u.aI):Ok s (.ex x i) r:=by
 unfold Ok; simp only[qc,qt]; rw[h1];unfold exZ at q;split at q
 ·split at q
  ·rename_i l _ v e;cases q;have hi:i<l.length:=(bo.1 e).1;simp only[V.aI,cF,cO,x9 e];exact⟨hi,trivial⟩
  ·cases q
 ·cases q
theorem ahD{ne:Bool}{n:Nat}{x y:X}{u v r:V}{sd:Sd}(q:akq ne n u v=some (r,sd))(h1:s.ev x=u.aI)(h2:s.ev y=v.aI):Ok s (.eqs ne n x y) r:=by
 unfold Ok; simp only[qc,qt]; rw[h1,h2];unfold akq at q;split at q
 ·rename_i x y;obtain⟨g,q⟩:=aU q; cases q;have:=fO g; subst this;have e:wY [.int x.c,.int x.n,.int x.t,.int x.f] [.int y.c,.int y.n,.int y.t,.int y.f]=(x==y):=by
   cases x; cases y; simp[wY,BEq.beq]
  simp only[V.aI,Dat.aI,QI,e];exact⟨rfl,trivial⟩
 ·rename_i x y;obtain⟨g,q⟩:=aU q; cases q;have:=fO g; subst this;have e:wY [.int x.message,.int x.Jv,.int x.bound.c,.int x.bound.n,.int x.bound.t,.int x.bound.f] [.int y.message,.int y.Jv,.int y.bound.c,.int y.bound.n,.int y.bound.t,.int y.bound.f]=(x==y):=by
   obtain⟨a,b,c,d,e,f⟩:=x; obtain⟨a',b',c',d',e',f'⟩:=y; simp[wY,BEq.beq]
  simp only[V.aI,Dat.aI,QJ,e];exact⟨rfl,trivial⟩
 ·cases q
theorem akB{n:Nat}{x:X}{u r:V}{sd:Sd}(q:saZ n u=some (r,sd))(h1:s.ev x=u.aI):Ok s (.sa n x) r:=by
 unfold Ok; simp only[qc,qt]; rw[h1];unfold saZ at q;split at q
 ·rename_i k l;split at q
  ·rename_i w hw;obtain⟨g,q⟩:=aU q; cases q;simp only[V.aI,cO];exact⟨g,by rw[Rw.DU hw]⟩
  ·cases q
 ·cases q
theorem ahE{x:X}{u r:V}{sd:Sd}(q:akr u=some (r,sd))(h1:s.ev x=u.aI):Ok s (.TG x) r:=by
 unfold Ok; simp only[qc,qt]; rw[h1];unfold akr at q;split at q
 ·cases q; simp[V.aI,Rw.Uh,Rw.fD]
 ·cases q
end
section
variable {m:Fm} {h:Hz} {s:AS}
theorem wH(R:Rp m s.fr): ∀ {xs:List X} {l:List V} {sd:Sd},Fa m xs=some (l,sd)->sd.holds->xs.map s.ev=V.aS l:=by
 intro xs;induction xs with
 |nil=>intro l sd q _; cases q; rfl
 |cons x r ih =>
  intro l sd q hs;simp only[Fa] at q;split at q
  ·rename_i v l' s' h1 h2;cases q;rw[Sd.pI] at hs;simp only[bl,V.aS];rw[R.ev h1,dZ (v:=v) (u:=v.bare.1) (s:=v.bare.2) rfl hs.1,ih h2 hs.2]
  ·cases q
theorem Lj: ∀ {l:List V},G5 h l=true->zG h.aj (V.aS l)=true:=by
 intro l;induction l with
 |nil=>intro _; rfl
 |cons v r ih =>
  intro q;simp only[G5,aD] at q;simp only[V.aS,zG,aD];exact⟨V.wG q.1,ih q.2⟩
theorem NM{k:Nat}: ∀ {l:List V},AB k l=true-> ∀ v∈l,v.kd=some k:=by
 intro l;induction l with
 |nil=>intro _ v hv; cases hv
 |cons u r ih =>
  intro q v hv;simp only[AB,aD] at q;rcases bv.1 hv with rfl|hv
  ·have:=q.1;split at this
   ·rename_i k' e; rw[e,fO this]
   ·cases this
  ·exact ih q.2 v hv
theorem abV: ∀ {l:List V},G5 h l=true->AB 0 l=true->DC h.aj (V.aS l)=true:=by
 intro l;induction l with
 |nil=>intro _ _; rfl
 |cons v r ih =>
  intro q k;have hk:=NM k v (by simp);simp only[G5,AB,aD] at q k;simp only[V.aS,DC,aD];exact⟨V.aeA q.1 hk,ih q.2 k.2⟩
theorem aeE: ∀ {ps:List (Nat×Nat×X)} {vs z l:List V},Z9 ps vs z=some l->(ps.map fun p=>s.ev p.2.2)=V.aS vs ->
  KL (V.aS z) (ps.map fun p=>(p.1,p.2.1,s.ev p.2.2))=true/\L9 (V.aS z) (ps.map fun p=>(p.1,p.2.1,s.ev p.2.2))=V.aS l:=by
 intro ps;induction ps with
 |nil =>
  intro vs z l q he;cases vs with
  |nil=>cases q; exact⟨rfl,rfl⟩
  |cons v vs=>simp[V.aS] at he
 |cons p ps ih =>
  intro vs z l q he;obtain⟨off,n,x⟩:=p;cases vs with
  |nil=>simp[V.aS] at he
  |cons v vs =>
   simp only[Z9] at q;split at q
   ·rename_i c hc;obtain⟨g,q⟩:=aU q;simp only[bl,V.aS,eI] at he;simp only[aD] at g;have e1:=fO g.1;obtain⟨i1,i2⟩:=ih q he.2;simp only[bl,KL,L9,aD];have ec:(s.ev x).cells=V.aS c:=by rw[he.1]; exact V.Lh hc
    simp only[rW,Ph,Pj] at i1 i2;simp only[ec,cO];refine⟨⟨⟨by simpa using e1,g.2⟩,i1⟩,i2⟩
   ·cases q
theorem akC(R:Rp m s.fr)(hh:s.hp=h.aj){z:List T}{ps:List (Nat×Nat×X)}{r:V}{sd:Sd}(q:mkZ m h z ps=some (r,sd))(hs:sd.holds):Ok s (.mk z ps) r:=by
 unfold mkZ at q;split at q
 ·rename_i vs s' hb;split at q
  ·rename_i l hl;obtain⟨g,q⟩:=aU q;cases q;have he:=wH R hb hs;have he':(ps.map fun p=>s.ev p.2.2)=V.aS vs:=by rw[<- he]; simp
   obtain⟨i1,i2⟩:=aeE hl he';rw[DU] at i1 i2;unfold Ok; simp only[qc,qt];rw[i1,i2,he',hh,Lj g];exact⟨rfl,rfl⟩
  ·cases q
 ·cases q
theorem aae{k n:Nat}: ∀ {ps:List (Nat×X)} {vs z l:List V},aev n ps vs z=some l->(ps.map fun p=>s.ev p.2)=V.aS vs->AB k vs=true ->
  Oo k n (ps.map fun p=>(p.1,s.ev p.2))=true/\wu (V.aS z) (ps.map fun p=>(p.1,s.ev p.2))=V.aS l:=by
 intro ps;induction ps with
 |nil =>
  intro vs z l q he _;cases vs with
  |nil=>cases q; exact⟨rfl,rfl⟩
  |cons v vs=>simp[V.aS] at he
 |cons p ps ih =>
  intro vs z l q he hk;obtain⟨i,x⟩:=p;cases vs with
  |nil=>simp[V.aS] at he
  |cons v vs =>
   simp only[aev] at q;obtain⟨g,q⟩:=aU q;simp only[bl,V.aS,eI] at he;have hkv:=NM hk v (by simp);simp only[AB,aD] at hk;obtain⟨i1,i2⟩:=ih q he.2 hk.2;have e:V.aS (z.set i v)=(V.aS z).set i (s.ev x):=by rw[he.1]; simp[jG,List.map_set]
   rw[e] at i2;simp only[bl,Oo,wu,aD];refine⟨⟨⟨?_,g⟩,i1⟩,i2⟩;rw[he.1,V.Uj hkv]; simp
theorem akD(R:Rp m s.fr)(hh:s.hp=h.aj){ty k:Nat}{z:T}{n:Nat}{ps:List (Nat×X)}{r:V}{sd:Sd}(q:msZ m h k z n ps=some (r,sd))(hs:sd.holds):Ok s (.ms ty k z n ps) r:=by
 unfold msZ at q;split at q
 ·rename_i vs s' hb;split at q
  ·rename_i l hl;obtain⟨g,q⟩:=aU q;have hs':s'.holds/\r.aI= .sl k true (V.aS l):=by
    split at q
    ·rename_i w hw;cases q; exact⟨hs,by simp only[V.aI]; rw[Rw.DU hw]⟩
    ·cases q; exact⟨hs,rfl⟩
   have he:=wH R hb hs'.1;have he':(ps.map fun p=>s.ev p.2)=V.aS vs:=by rw[<- he]; simp
   simp only[aD] at g;obtain⟨⟨⟨⟨⟨⟨g1,g2⟩,g3⟩,g4⟩,g5⟩,g6⟩,g7⟩:=g;obtain⟨i1,i2⟩:=aae hl he' g3;have e:V.aS (List.replicate n (E9 z))=List.replicate n z:=by rw[jG,fu,yO]
   rw[e] at i2;unfold Ok; simp only[qc,qt];rw[i1,i2,he',hh,Lj g4,V.eG _ g5,g1,g2,g6,g7,hs'.2];exact⟨rfl,rfl⟩
  ·cases q
 ·cases q
theorem Fg(R:Rp m s.fr){x:Option X}{v:Option V}{sd:Sd}(q:Pg m x=some (v,sd))(hs:sd.holds):x.map s.ev=v.map V.aI:=by
 cases x with
 |none=>cases q; rfl
 |some x =>
  simp only[Pg] at q;split at q
  ·rename_i u hu;cases q;simp only[bp]; rw[R.ev hu,dZ (v:=u) (u:=u.bare.1) (s:=u.bare.2) rfl hs]
  ·cases q
theorem Ij{k k':Nat}{r:Rw}(g:kOk k k' r=true):k'=k\/r.aS=[]:=by
 unfold kOk at g;split at g
 ·exact .inr rfl
 ·exact .inl (fO g)
theorem Wu{k k':Nat}{f:Bool}{w:Rw}{lo hi mx:Option V}{r:V}{sd:Sd}(q:aew k k' f w lo hi mx=some (r,sd))(hs:sd.holds) :
  slC k (.sl k' f w.aS) (lo.map V.aI) (hi.map V.aI) (mx.map V.aI)/\VF k (.sl k' f w.aS) (lo.map V.aI) (hi.map V.aI) (mx.map V.aI)=r.aI:=by
 unfold aew at q;split at q
 ·obtain⟨g,q⟩:=aU q; cases q;simp only[eA,slC,VF,V.aI];exact⟨Ij g,trivial⟩
 ·obtain⟨g,q⟩:=aU q; cases q;simp only[Sd.holds,Rw.x8] at hs;simp only[eA,bp,slC,VF,V.aI,Rw.Wq,Rw.fD];exact⟨⟨Ij g,hs⟩,trivial⟩
 ·obtain⟨g,q⟩:=aU q; cases q;simp only[Sd.holds,Rw.x8] at hs;simp only[eA,bp,slC,VF,V.aI,Rw.Fb,Rw.fD];exact⟨⟨Ij g,hs⟩,trivial⟩
 ·obtain⟨g,q⟩:=aU q; cases q;simp only[Sd.holds,Rw.x8] at hs;simp only[eA,bp,slC,VF,V.aI,Rw.Fb,Rw.Wq,Rw.fD];exact⟨⟨Ij g,hs.1,hs.2.1,hs.2.2.2⟩,trivial⟩
 ·obtain⟨g,q⟩:=aU q; cases q;simp only[Sd.holds,Rw.x8] at hs;simp only[eA,bp,slC,VF,V.aI,Rw.Fb,Rw.fD];exact⟨⟨Ij g,hs.1,hs.2.1,hs.2.2.2⟩,trivial⟩
 ·cases q
theorem aeF{k i ty ko:Nat}{w:Rw}{lo hi mx:Option V}{r:V}{sd:Sd}(q:aex k i ko w lo hi mx=some (r,sd))(hs:sd.holds) :
  Jf k ⟨ty,ko,w.aS⟩ (lo.map V.aI) (hi.map V.aI) (mx.map V.aI)/\Ec i ⟨ty,ko,w.aS⟩ (lo.map V.aI) (hi.map V.aI) (mx.map V.aI)=r.aI:=by
 unfold aex at q;split at q
 ·obtain⟨g,q⟩:=aU q; cases q;simp only[Sd.holds,Rw.x8] at hs;simp only[eA,bp,Jf,Ec,V.aI,Rw.fD];exact⟨⟨fO g,hs⟩,trivial⟩
 ·obtain⟨g,q⟩:=aU q; cases q;simp only[Sd.holds,Rw.x8] at hs;simp only[eA,bp,Jf,Ec,V.aI,Rw.fD];exact⟨⟨fO g,hs⟩,trivial⟩
 ·obtain⟨g,q⟩:=aU q; cases q;simp only[Sd.holds,Rw.x8] at hs;simp only[eA,bp,Jf,Ec,V.aI,Rw.fD];exact⟨⟨fO g,hs.1,hs.2.1,hs.2.2.2⟩,trivial⟩
 ·cases q
theorem abW{k i ty ko:Nat}{w:Rw}{xs:List V}{lo hi mx:Option V}{r:V}{sd:Sd}(q:YP k i ko w xs lo hi mx=some (r,sd))(hs:sd.holds) :
  Jf k ⟨ty,ko,w.aS++V.aS xs⟩ (lo.map V.aI) (hi.map V.aI) (mx.map V.aI)/\Ec i ⟨ty,ko,w.aS++V.aS xs⟩ (lo.map V.aI) (hi.map V.aI) (mx.map V.aI)=r.aI:=by
 unfold YP at q;split at q
 ·obtain⟨g,q⟩:=aU q; cases q;simp only[Sd.holds,Rw.x8] at hs;simp only[eA,bp,Jf,Ec,V.aI];refine⟨⟨fO g,hs.1,?_⟩,trivial⟩;have:=hs.2;simp only[aL,Rw.fD]; omega
 ·split at q
  ·simp only[V.aS,cS]; exact aeF q hs
  ·cases q
theorem aaf(R:Rp m s.fr){b:Bool}{k:Nat}{x:X}{lo hi mx:Option X}{r:V}{sd:Sd}(q:slX m h b k x lo hi mx=some (r,sd))(hs:sd.holds) :
  ∃ v lo' hi' mx' s',slZ h b k v lo' hi' mx'=some (r,s')/\s'.holds/\s.ev x=v.aI/\lo.map s.ev=lo'.map V.aI/\hi.map s.ev=hi'.map V.aI/\mx.map s.ev=mx'.map V.aI:=by
 obtain⟨v,s',q,hs,hv⟩:=mg R q hs;split at q
 ·rename_i lo' s1 hi' s2 mx' s3 e1 e2 e3;split at q
  ·rename_i u s4 e4;cases q;rw[Sd.pI,Sd.pI,Sd.pI] at hs;exact⟨v,lo',hi',mx',s4,e4,hs.2.2.2,hv,Fg R e1 hs.1,Fg R e2 hs.2.1,Fg R e3 hs.2.2.1⟩
  ·cases q
 ·cases q
theorem amh(R:Rp m s.fr){k:Nat}{x:X}{lo hi mx:Option X}{r:V}{sd:Sd}(q:slX m h false k x lo hi mx=some (r,sd))(hs:sd.holds):Ok s (.sl k x lo hi mx) r:=by
 obtain⟨v,lo',hi',mx',s',q,hs,hv,e1,e2,e3⟩:=aaf R q hs;unfold Ok; simp only[qc,qt]; rw[hv,e1,e2,e3];unfold slZ at q;split at q
 ·exact Wu q hs
 ·cases q
 ·cases q
theorem akE(R:Rp m s.fr)(hh:s.hp=h.aj){k:Nat}{x:X}{lo hi mx:Option X}{r:V}{sd:Sd}(q:slX m h true k x lo hi mx=some (r,sd))(hs:sd.holds):Ok s (.slx k x lo hi mx) r:=by
 obtain⟨v,lo',hi',mx',s',q,hs,hv,e1,e2,e3⟩:=aaf R q hs;unfold Ok; simp only[qc,qt]; rw[hv,e1,e2,e3];unfold slZ at q;split at q
 ·exact Wu q hs
 ·simp only[bE] at q;split at q
  ·rename_i i _ ty ko w xs e;simp only[V.aI,hh,aK e,OV.au];exact abW q hs
  ·cases q
 ·cases q
theorem Ik{t:Str}{a b:Nat}(hab:a<=b)(_hb:b<=t.length):(bs t).extract a b=bs ((t.take b).drop a):=by
 apply ByteArray.ext;have h1:((bs t).extract a b).data=(bs t).data.extract a b:=ByteArray.data_extract;rw[h1];apply gk;simp[bs,List.extract,List.take_drop];rw[show a+(b-a)=b by omega]
theorem ami(R:Rp m s.fr){x:X}{lo hi:Option X}{r:V}{sd:Sd}(q:ssX m x lo hi=some (r,sd))(hs:sd.holds):Ok s (.ss x lo hi) r:=by
 obtain⟨v,s',q,hs,hv⟩:=mg R q hs;split at q
 ·rename_i t lo' s1 hi' s2 e1 e2;split at q
  ·rename_i u s4 e4;cases q;rw[Sd.pI,Sd.pI] at hs;have f1:=Fg R e1 hs.1;have f2:=Fg R e2 hs.2.1;unfold Ok; simp only[qc,qt]; rw[hv,f1,f2];have hs4:=hs.2.2;unfold ssZ at e4;split at e4
   ·cases e4;simp only[Sd.holds] at hs4;simp only[eA,bp,V.aI,eS,DT];refine⟨hs4,?_⟩;rw[Ik (by omega) (ba _)]; simp
   ·cases e4;simp only[Sd.holds] at hs4;simp only[eA,bp,V.aI,eS,DT];refine⟨hs4,?_⟩;rw[Ik (by omega) (by omega)]; simp
   ·cases e4;simp only[Sd.holds] at hs4;simp only[bp,V.aI,eS,DT];refine⟨hs4,?_⟩;rw[Ik (by omega) (by omega)]
   ·cases e4
  ·cases q
 ·cases q
theorem akF(R:Rp m s.fr)(hh:s.hp=h.aj){f:FuncId}{cap:List X}{r:V}{sd:Sd}(q:mfZ m h f cap=some (r,sd))(hs:sd.holds):Ok s (.mf f cap) r:=by
 unfold mfZ at q;split at q
 ·rename_i l s' hb;obtain⟨g,q⟩:=aU q;cases q;simp only[aD] at g;unfold Ok; simp only[qc,qt];rw[wH R hb hs,hh,abV g.1.1 g.1.2,g.2];exact⟨rfl,rfl⟩
 ·cases q
theorem akG{f:FuncId}{x:X}{v r:V}{sd:Sd}(q:mbZ f v=some (r,sd))(h1:s.ev x=v.aI):Ok s (.mb f x) r:=by
 unfold mbZ at q;split at q
 ·obtain⟨g,q⟩:=aU q; cases q;unfold Ok; simp only[qc,qt]; rw[h1]; exact⟨cF.mp g,rfl⟩
 ·obtain⟨g,q⟩:=aU q; cases q;rename_i d;unfold Ok; simp only[qc,qt]; rw[h1]; simp only[V.aI]; rw[Dat.Le]; exact⟨cF.mp g,rfl⟩
 ·cases q
theorem aeG: ∀ {l:List V},l.all V.CQ=true->VE (V.aS l)=true/\(V.aS l).map byteOf=l.map V.byte:=by
 intro l;induction l with
 |nil=>intro _; exact⟨rfl,rfl⟩
 |cons v r ih =>
  intro h;simp only[eC,aD] at h;obtain⟨g1,g2⟩:=ih h.2;cases v<;>simp only[V.CQ] at h<;>try (cases h.1; done)
  exact⟨g1,by simp only[V.aS,V.aI,bl,g2,byteOf,V.byte]⟩
theorem ahF(hh:s.hp=h.aj){x:X}{u r:V}{sd:Sd}(q:aks h u=some (r,sd))(hs:sd.holds)(h1:s.ev x=u.aI):Ok s (.bts x) r:=by
 unfold aks at q;split at q
 ·rename_i i;split at q
  ·rename_i ty ko y e;obtain⟨g,q⟩:=aU q; cases q;obtain⟨hne,hu⟩:=hs;obtain⟨g1,g2⟩:=aeG hu;have hk:ko=0:=cw g;unfold Ok; simp only[qc,qt]; rw[h1]; simp only[V.aI,hh,aK e,OV.au,Rw.aS,fX];refine⟨⟨hk,?_,g1⟩,?_⟩
   ·intro h0; apply hne; have:=dC List.length h0; rw[cO] at this; exact ai this
   ·simp only[bytesOf,g2,eS,bs]
  ·cases q
 ·cases q
theorem aeH(R:Rp m s.fr)(hh:s.hp=h.aj){op:o8}{r:V}{sd:Sd}(q:qz m h op=some (r,sd))(hs:sd.holds):dw op=true/\Ok s op r:=by
 unfold qz at q;split at q
 ·split at q
  ·rename_i v e; cases q;exact⟨rfl,trivial,R.ev e⟩
  ·cases q
 ·obtain⟨c,s',q,hs,hc⟩:=mg R q hs;split at q
  ·rename_i t va vb e1 e2;exact⟨rfl,aeB R e1 e2 q hs hc⟩
  ·cases q
 ·obtain⟨u,v,s',q,hs,h1,h2⟩:=DV R q hs;exact⟨rfl,ahB q hs h1 h2⟩
 ·obtain⟨u,v,s',q,hs,h1,h2⟩:=DV R q hs;split at q
  ·cases q; refine⟨rfl,?_⟩; unfold Ok; simp only[qc,qt]; rw[h1,h2]; exact⟨rfl,rfl⟩
  ·cases q
 ·obtain⟨u,s',q,hs,h1⟩:=mg R q hs;split at q
  ·cases q; refine⟨rfl,?_⟩; unfold Ok; simp only[qc,qt]; rw[h1]; exact⟨rfl,rfl⟩
  ·cases q
 ·obtain⟨u,s',q,hs,h1⟩:=mg R q hs;split at q
  ·cases q; refine⟨rfl,?_⟩; unfold Ok; simp only[qc,qt]; rw[h1]; simp only[V.aI,iA]; rw[aac hs]
  ·cases q; refine⟨rfl,?_⟩; unfold Ok; simp only[qc,qt]; rw[h1]; simp only[V.aI,iA]; rw[aac hs]
  ·cases q; refine⟨rfl,?_⟩; unfold Ok; simp only[qc,qt]; rw[h1]; simp only[V.aI,iA]; rw[aac hs]
  ·cases q
 ·obtain⟨u,s',q,hs,h1⟩:=mg R q hs;split at q
  ·cases q; refine⟨rfl,?_⟩; unfold Ok; simp only[qc,qt]; rw[h1]; simp only[V.aI,iA]; rw[amg hs.1 hs.2]
  ·cases q; refine⟨rfl,?_⟩; unfold Ok; simp only[qc,qt]; rw[h1]; exact⟨trivial,rfl⟩
  ·cases q
 ·obtain⟨u,s',q,hs,h1⟩:=mg R q hs;split at q
  ·cases q; refine⟨rfl,?_⟩; unfold Ok; simp only[qc,qt]; rw[h1]; exact⟨trivial,rfl⟩
  ·cases q; refine⟨rfl,?_⟩; unfold Ok; simp only[qc,qt]; rw[h1]; simp only[V.aI,iA]; rw[akt hs.1 hs.2]
  ·cases q
 ·obtain⟨u,s',q,hs,h1⟩:=mg R q hs; exact⟨rfl,aku hh q h1⟩
 ·obtain⟨u,s',q,hs,h1⟩:=mg R q hs; exact⟨rfl,akv q h1⟩
 ·obtain⟨u,v,s',q,hs,h1,h2⟩:=DV R q hs; exact⟨rfl,aeD hh q hs h1 h2⟩
 ·obtain⟨u,v,s',q,hs,h1,h2⟩:=DV R q hs; exact⟨rfl,akw q hs h1 h2⟩
 ·obtain⟨u,s',q,hs,h1⟩:=mg R q hs; exact⟨rfl,YS hh q hs h1⟩
 ·obtain⟨u,s',q,hs,h1⟩:=mg R q hs; exact⟨rfl,akx hh q h1⟩
 ·obtain⟨u,s',q,hs,h1⟩:=mg R q hs; exact⟨rfl,aad hh q h1⟩
 ·obtain⟨u,v,s',q,hs,h1,h2⟩:=DV R q hs; exact⟨rfl,aky q h1 h2⟩
 ·obtain⟨u,v,s',q,hs,h1,h2⟩:=DV R q hs; exact⟨rfl,akz q h1 h2⟩
 ·exact⟨rfl,akC R hh q hs⟩
 ·exact⟨rfl,akD R hh q hs⟩
 ·exact⟨rfl,amh R q hs⟩
 ·exact⟨rfl,akE R hh q hs⟩
 ·exact⟨rfl,ami R q hs⟩
 ·obtain⟨u,s',q,hs,h1⟩:=mg R q hs; exact⟨rfl,akA q h1⟩
 ·exact⟨rfl,akF R hh q hs⟩
 ·obtain⟨u,v,s',q,hs,h1,h2⟩:=DV R q hs; exact⟨rfl,ahD q h1 h2⟩
 ·obtain⟨u,s',q,hs,h1⟩:=mg R q hs; exact⟨rfl,ahE q h1⟩
 ·obtain⟨u,s',q,hs,h1⟩:=mg R q hs; exact⟨rfl,akG q h1⟩
 ·obtain⟨u,s',q,hs,h1⟩:=mg R q hs; exact⟨rfl,akB q h1⟩
 ·obtain⟨u,s',q,hs,h1⟩:=mg R q hs; exact⟨rfl,ahF hh q hs h1⟩
 ·cases q
end
structure ah(P:Program)(dr:Bool)(g:Option Bool)(f:FuncId)(args:List V)(h:Hz)(n:Nat)(K:V->Hz->Prop)(KW:Nat->V->Hz->Prop):Prop where
 ok:(match g with
  |none=>aP P f (V.aS args) h.aj n fun t hp=> ∃ v h',t=v.aI/\hp=h'.aj/\(dr=true->h'=h/\t.free=true)/\K v h'
  |some b=>(∃ v,(b=true->aP P f (V.aS args) h.aj n fun t hp=>t=v.aI/\hp=h.aj)/\v.free=true/\K v h) \/
   (dr=false/\(b=true->aP P f (V.aS args) h.aj n fun t hp=> ∃ v h',t=v.aI/\hp=h'.aj/\K v h')/\(b=false->K (.int 0) h))) \/
  (g=none/\dr=false/\ ∃ k,jr P f (V.aS args) h.aj n k fun t hp=> ∃ v h',t=v.aI/\hp=h'.aj/\KW k v h') \/
  (g=none/\dr=true/\h.get n=none/\aP P f (V.aS args) h.aj n fun t hp=> ∃ v o,t=v.aI/\hp=Hz.aj ((n,some o)::h)/\KW 0 v ((n,some o)::h))
structure aag(P:Program)(f:FuncId)(args:List V)(h:Hz)(n:Nat)(K:V->Hz->Prop):Prop where
 ok: ∃ (v:V) (o:Option OV),v.aI.ids (fun i=>i=n)/\(∀ ob,o=some ob->T.bn ob.au.l=true) /\
  (∀ hp:Hp,(∀ i ob,h.aj i=some ob->hp i=some ob)->aP P f (V.aS args) hp n fun t' h'=>t'=v.aI/\h'=jM hp n (o.map OV.au)) /\
  K v (match o with|none=>h|some o=>(n,some o)::h)
structure abX(P:Program)(f:FuncId)(cap args:List V)(h:Hz)(n:Nat)(K:V->Hz->Prop):Prop where
 ok:yD P (.fn f (V.aS cap)) (V.aS args) h.aj n fun t hp=> ∃ v h',t=v.aI/\hp=h'.aj/\K v h'
def anI(dr:Bool)(g:Option Bool)(a b:Prop):Prop :=
 match dr with
 |true=>False
 |false=>match g with
  |none=>a
  |some c=>Fork c a b
def Il(dr fl:Bool)(a b c:Prop):Prop :=
 match dr with
 |false=>a
 |true=>match fl with
  |false=>b
  |true=>c
inductive adB(p a b:Prop):Prop where
 |mk:(p->a)->b->adB p a b
inductive ahG(o:Option Int)(yes:Int->Prop)(no:Prop):Prop where
 |mk:(∀ l,o=some l->yes l)->(o=none->no)->ahG o yes no
inductive amj(o:Option (List Bool))(yes:List Bool->Prop)(no:Prop):Prop where
 |mk:(∀ l,o=some l->yes l)->(o=none->no)->amj o yes no
def V.seq(v:V)(K:V->Prop):Prop :=
 match v with
 | .int n=>K (.int n)
 | .bool b=>K (.bool b)
 | .u8 n=>K (.u8 n)
 | .str s=>K (.str s)
 | .dat d=>K (.dat d)
 | .agg l=>K (.agg l)
 | .row k f r=>K (.row k f r)
 | .Am k f l=>K (.Am k f l)
 | .ref k v=>K (.ref k v)
 | .own i=>K (.own i)
 | .inn i=>K (.inn i)
 | .pin i j o=>K (.pin i j o)
 | .ptr i j o=>K (.ptr i j o)
 | .rG i a b=>K (.rG i a b)
 | .fn f l=>K (.fn f l)
 | .dD l=>K (.dD l)
 | .cnd b v=>K (.cnd b v)
 | .raw t=>K (.raw t)
theorem V.seq_eq(v:V)(K:V->Prop):v.seq K=K v:=by cases v<;>rfl
def iV(d:Option Nat)(v:V)(m:Fm):Fm :=
 match d with
 |some d=>(d,v)::m
 |none=>m
def vS:Option Bool->V->V
 |none,v=>v
 |some b,.cnd c v=>.cnd (b&&c) v
 |some b,v=>.cnd b v
theorem Ll(v:V):(vS (some true) v).aI=v.aI:=by cases v<;>rfl
theorem YT(v:V):(vS (some false) v).aI=T.un:=by cases v<;>rfl
def YU(m:Fm):Option (Nat×Bool)->Option (Option Bool)
 |none=>some none
 |some (g,w)=>match m.get g with
  |some (.bool b)=>some (some (bif w then b else !b))
  |some (.cnd c (.bool b))=>some (some (c&&(bif w then b else !b)))
  |_=>none
def ltX(nx:Nat)(m:Fm):List X->Bool
 |[]=>true
 |x::r=>(match y8 m x with|some v=>T.lt nx v.aI|none=>false)&&ltX nx m r
def aeI(nx:Nat)(m:Fm):o8->Bool
 | .st _ x _=>match y8 m x with|some v=>T.newer nx v.aI|none=>false
 | .app _ _ _ x _=>match y8 m x with|some v=>T.newer nx v.aI|none=>false
 | .Vb _ _ _ _=>false
 | .ZN _ _ _=>false
 | .call _ _=>true
 | .oP _ _=>true
 |op=>ltX nx m op.xs
def ahH(i:Nat)(m:Fm):List X->Bool
 |[]=>true
 |x::r=>(match y8 m x with|some v=>T.nid i v.aI|none=>false)&&ahH i m r
def neB(m:Fm)(xs:List X):List Nat->Bool
 |[]=>true
 |d::r=>(bif Nat.blt d 1000000 then(match m.get d with|some (.ptr i _ _)=>ahH i m xs|_=>false)
   else bif Nat.beq d 1000000 then ltX 10000 m xs else(match xs with|x::_=>(match y8 m x with|some v=>T.newer 10000 v.aI|none=>false)|[]=>false))&&neB m xs r
def ML(nx:Nat)(o:aT)(m:Fm):Bool:=(!o.fl||aeI nx m o.op)&&neB m o.op.xs o.ne
def isZero:V->Bool
 | .int (.ofNat 0)=>true
 |_=>false
def adw(n:Nat):T->Option Rw
 | .lit (.int .i64 z)=>some (.ints (List.replicate n z))
 | .lit (.bool z)=>some (.bools (List.replicate n z))
 | .lit (.string z)=>some (.strs (List.replicate n z.data.toList))
 |_=>none
def Rw.set(j:Nat)(v:V)(r:Rw):Option Rw :=
 match r,v with
 | .ints l,.int n=>some (.ints (l.set j n))
 | .bools l,.bool n=>some (.bools (l.set j n))
 | .strs l,.str n=>some (.strs (l.set j n))
 | .rules l,.dat (.rule n)=>some (.rules (l.set j n))
 | .clauses l,.dat (.clause n)=>some (.clauses (l.set j n))
 | .elems l,.dat (.elem n)=>some (.elems (l.set j n))
 | .eF l,.row 0 false (.ints n)=>some (.eF (l.set j n))
 | .qy l,.row 0 false (.bools n)=>some (.qy (l.set j n))
 | .qA l,.row 0 false (.eF n)=>some (.qA (l.set j n))
 |_,_=>none
def akH(h:Hz)(k:Nat):V->Option (Rw×List V)
 | .row k' _ r=>dU (kOk k k' r) (some (r,[]))
 | .Am k' _ l=>dU (Nat.beq k' k) (some (.nil,l))
 | .own o=>match h.get o with
  |some (.row _ ko r x)=>dU (Nat.beq ko k) (some (r,x))
  |_=>none
 |_=>none
def akI(r:Rw)(x:List V)(r':Rw)(x':List V):Option (Rw×List V) :=
 match x,r' with
 |[],r'=>match r.app r' with|some w=>some (w,x')|none=>none
 |x,.nil=>some (r,x++x')
 |_,_=>none
def qX(r:Rw)(x:List V):Nat :=
 match x with
 |[]=>r.len
 |x=>r.len+x.length
def kT(bytes:Nat)(a b:Nat):Prop:=(a+b)*bytes<=140737488355328/\a+b<=1152921504606846976
def setCells(v:V)(off:Nat)(u:V):Option V :=
 match v.cells,u.cells with
 |some l,some c=>some (.agg (l.take off++c++l.drop (off+c.length)))
 |_,_=>none
def Uk:List V->(List V->Prop)->Prop
 |[],K=>K []
 |v::r,K=>Uk r fun r'=>K (v::r')
def V.force(v:V)(K:V->Prop):Prop :=
 match v with
 | .agg l=>Uk l fun l=>K (.agg l)
 |v=>K v
theorem abY: ∀ {l:List V} {K:List V->Prop},Uk l K=K l:=by
 intro l;induction l with
 |nil=>intro K; rfl
 |cons v r ih=>intro K; show Uk r (fun r'=>K (v::r'))=_; rw[ih]
theorem V.force_eq(v:V)(K:V->Prop):v.force K=K v:=by
 cases v<;>first|rfl|exact abY
structure aeJ(c p a b:Prop):Prop where
 ok:(c\/b)/\p/\a
theorem aeJ.one{c p a b:Prop}(h:c/\p)(k:a):aeJ c p a b:=⟨.inl h.1,h.2,k⟩
structure AtZ(y:List V)(j:Nat)(K:V->Prop):Prop where
 ok: ∃ v,y[j]? =some v/\K v
structure SA(h:Hz)(i:Nat)(K:Nat->Rw->Prop):Prop where
 ok: ∃ ty k r,h.get i=some (.row ty k r [])/\K k r
structure QM(h:Hz)(i j k:Nat)(v:V)(K:Hz->Prop):Prop where
 ok: ∃ ty r r' h',h.get i=some (.row ty k r [])/\r.set j v=some r'/\r.rng j/\h'.aj=upd h.aj i (some (OV.row ty k r' []).au)/\K h'
structure amk(h:Hz)(i ty k:Nat)(K:Rw->Hz->Prop):Prop where
 ok: ∃ r h',h.get i=some (.row ty k r [])/\h'.aj=upd h.aj i none/\K r h'
def ahI(dr:Bool)(d:Option Nat)(n:Nat)(m:Fm)(h:Hz)(K:Fm->Hz->Prop):o8->Prop
 | .box ty k x=>match y8 m x with
  |some v=>match v.bare with
   |(v,s)=>bif AB k [v]&&v.nR h&&Bv k then s.vc none (K (iV d (.ptr n 0 0) m) ((n,some (.box ty k v))::h)) else False
  |none=>False
 | .al ty k z=>bif z.kd==k&&z.nR h.aj&&z.free&&Bv k then K (iV d (.ptr n 0 0) m) ((n,some (.box ty k (E9 z)))::h) else False
 | .make ty k bytes z x y=>match y8 m x,y8 m y with
  |some (.int a),some (.int b)=>bif z.kd==k&&z.nR h.aj&&z.free&&Bv k then
    (match (bif isZero (.int a) then some .nil else adw a.toNat z) with
    |some r=>VC (0<=a/\a<=b/\b*bytes<=140737488355328/\b<=1152921504606846976) (K (iV d (.own n) m) ((n,some (.row ty k r []))::h))
    |none=>VC (0<=a/\a<=b/\b*bytes<=140737488355328/\b<=1152921504606846976) (K (iV d (.own n) m) ((n,some (.gen ty k (List.replicate a.toNat (E9 z))))::h))) else False
  |_,_=>False
 | .st k x v=>match y8 m x,y8 m v with
  |some (.ptr i j off),some v=>match v.bare with
   |(v,s)=>bif AB k [v]&&v.nR h then
    (match h.get i with
    |some (.box ty ko w)=>bif Nat.beq j 0 then
      (bif Nat.beq off 0&&Nat.beq ko k then s.vc none (K m ((i,some (.box ty ko v))::h))
      else bif !(Nat.beq ko 0)&&o9 (bD ko) off k then(match setCells w off v with
       |some w'=>w'.force fun w'=>s.vc none (K m ((i,some (.box ty ko w'))::h))
       |none=>False) else False) else False
    |some (.row ty ko r [])=>bif Nat.beq off 0&&Nat.beq ko k then(match r.set j v with
      |some r'=>s.vc none (VC (r.rng j) (K m ((i,some (.row ty ko r' []))::h)))
      |none=>s.vc none (VC (r.rng j) (K m ((i,some (.gen ty ko (r.vs.set j v)))::h)))) else False
    |some (.gen ty ko y)=>bif Nat.beq off 0&&Nat.beq ko k then s.vc none (VC (j<y.length) (K m ((i,some (.gen ty ko (y.set j v)))::h))) else False
    |_=>False) else False
  |some x,some v=>(match x.bare with
   |(.pin i j off,s0)=>match v.bare with
    |(v,s)=>bif AB k [v]&&v.nR h&&Nat.beq off 0 then(s0.and s).vc none (QM h i j k v fun h'=>K m h') else False
   |_=>False)
  |_,_=>False
 | .ld k x=>match y8 m x with
  |some v=>(match v.bare with
   |(.ptr i j off,s)=>(match h.get i with
    |some (.gen _ ko y)=>bif Nat.beq off 0&&Nat.beq ko k then s.vc none (AtZ y j fun v=>v.seq fun v=>K (iV d v m) h) else
      bif !(Nat.beq ko 0)&&o9 (bD ko) off k then s.vc none (AtZ y j fun v=>match v.part off k with|some u=>u.seq fun u=>K (iV d u m) h|none=>False) else False
    |_=>False)
   |(.pin i j off,s)=>s.vc none (SA h i fun ko r=>match ldR k j off ko r with
    |some (v,s')=>s'.vc none (v.seq fun v=>K (iV d v m) h)
    |none=>False)
   |_=>False)
  |none=>False
 | .ia k x i=>match y8 m x,y8 m i with
  |some v,some w=>(match v.bare,w.bare with
   |(.inn o,s),(.int n,s')=>(s.and s').vc none (SA h o fun ko r=>bif Nat.beq ko k then VC (r.rng n) (K (iV d (.pin o n.toNat 0) m) h) else False)
   |_,_=>False)
  |_,_=>False
 | .len str x=>match y8 m x with
  |some v=>(match v.bare with
   |(.inn o,s)=>s.vc none (SA h o fun ko r=>bif !str&& !(Nat.beq ko gK) then r.lenV.seq fun v=>K (iV d v m) h else False)
   |_=>False)
  |none=>False
 | .app ty k bytes x y=>match y8 m x,y8 m y with
  |some x,some y=>match akH h k y with
   |some (r',x')=>(match x with
    | .row _ true .nil=>VC (kT bytes 0 (qX r' x')) (K (iV d (.own n) m) ((n,some (.row ty k r' x'))::h))
    | .row k' true r=>bif Nat.beq k' k then(match r.app r' with
     |some w=>aeJ (r.len=0\/0<qX r' x') (kT bytes r.len (qX r' x')) (K (iV d (.own n) m) ((n,some (.row ty k w x'))::h)) (dr=false/\K (iV d (.row k' true r) m) h)
     |none=>False) else False
    | .own i=>(match h.get i with
     |some (.row ty' ko r x)=>bif Nat.beq ko k&&Nat.beq ty' ty then(match akI r x r' x' with
      |some (w,z)=>VC (kT bytes (qX r x) (qX r' x')) (K (iV d (.own n) m) ((n,some (.row ty k w z))::(i,none)::h))
      |none=>False) else False
     |some (.gen ty' ko y)=>bif Nat.beq ko k&&Nat.beq ty' ty then VC (kT bytes y.length (qX r' x')) (K (iV d (.own n) m) ((n,some (.gen ty k (y++(r'.vs++x'))))::(i,none)::h)) else False
     |_=>False)
    | .inn i=>amk h i ty k fun r h'=>match r.app r' with
     |some w=>VC (kT bytes r.len (qX r' x')) (K (iV d (.own n) m) ((n,some (.row ty k w x'))::h'))
     |none=>False
    |_=>False)
   |none=>False
  |_,_=>False
 | .ZN k z x=>match y8 m x with
  |some (.rG i lo hi)=>match h.get i with
   |some (.row ty ko r [])=>bif Nat.beq ko k&&z.kd==k&&z.nR h.aj&&z.free then
     VC (lo<=hi/\hi=r.len) (match d with
      |none=>K m ((i,some (.row ty ko (r.take lo) (List.replicate (hi-lo) (E9 z))))::h)
      |some _=>K (iV d (.raw T.un) m) ((i,some (.row ty ko (r.take lo) (List.replicate (hi-lo) (E9 z))))::h)) else False
   |_=>False
  |_=>False
 | .mso ty k z nn ps=>match Fa m (ps.map fun p=>p.2) with
  |some (vs,s)=>match aev nn ps vs (List.replicate nn (E9 z)) with
   |some l=>bif (z.kd==k)&&z.free&&AB k vs&&G5 h vs&&Nat.ble (nn*bD k) 16777216&&Bv k then s.vc none (K (iV d (.own n) m) ((n,some (.row ty k .nil l))::h)) else False
   |none=>False
  |none=>False
 | .Gz x=>match y8 m x with
  |some (.row _ _ r)=>adB (r.len=0) (K (iV d (.bool true) m) h) (K (iV d (.bool false) m) h)
  |some (.own i)=>match h.get i with
   |some (.row _ ko r [])=>bif Nat.beq ko gK then False else adB (r.len=0) (K (iV d (.bool true) m) h) (K (iV d (.bool false) m) h)
   |_=>False
  |_=>False
 | .ZM ty k bytes y=>match y8 m y with
  |some (.row k' _ r)=>bif kOk k k' r then VC (kT bytes 0 r.len) (K (iV d (.own n) m) ((n,some (.row ty k r []))::h)) else False
  |some (.Am k' _ l)=>bif Nat.beq k' k&&V.bn l then VC (kT bytes 0 l.length) (K (iV d (.own n) m) ((n,some (.row ty k .nil l))::h)) else False
  |_=>False
 | .mmk ty=>K (iV d (.own n) m) ((n,some (.map ty [] []))::h)
 | .mlk true z x i=>match y8 m x,y8 m i with
  |some (.own o),some (.str k)=>match h.get o with
   |some (.smap _ es)=>ahG (MV k es) (fun l=>K (iV d (.dD [.int l,.bool true]) m) h) (K (iV d (.dD [E9 z,.bool false]) m) h)
   |_=>False
  |_,_=>False
 | .Vb true x i v=>match y8 m x,y8 m i,y8 m v with
  |some (.own o),some (.str k),some (.int v)=>match h.get o with
   |some (.smap ty es)=>VC (MV k es=none) (K m ((o,some (.smap ty (es++[(k,v)])))::h))
   |_=>False
  |_,_,_=>False
 | .mlk false z x i=>match y8 m x,y8 m i with
  |some (.own o),some (.int k)=>match h.get o with
   |some (.map _ es [])=>amj (MJ k es) (fun l=>K (iV d (.dD [.row 0 false (.bools l),.bool true]) m) h) (K (iV d (.dD [E9 z,.bool false]) m) h)
   |_=>False
  |_,_=>False
 | .Vb false x i v=>match y8 m x,y8 m i,y8 m v with
  |some (.own o),some (.int k),some v=>match v.bare with
   |(v,s)=>match h.get o with
    |some (.map ty es [])=>bif AB 0 [v]&&v.nR h then s.vc none (VC (MJ k es=none) (K m ((o,some (.map ty es [(k,v)]))::h))) else False
    |_=>False
  |_,_,_=>False
 |_=>False
def phZ:o8->V
 | .not _=>.bool false
 |_=>.int 0
def akJ(P:Program)(dr:Bool)(nx n:Nat)(o:aT)(KK:Nat->Fm->Hz->Prop)(m:Fm)(h:Hz):Prop :=
 match YU m o.g with
 |none=>False
 |some g=>bif ML nx o m then
   (match o.op with
   | .call f xs=>(match Fa m xs with
    |some (l,s)=>s.vc g (match g with
     |none=>Il dr o.fl (ah P false none f l h n (fun v h'=>v.seq fun v=>KK 0 (iV o.d v m) h') (fun k v h'=>v.seq fun v=>KK k (iV o.d v m) h')) (ah P true none f l h n (fun v h'=>v.seq fun v=>KK 0 (iV o.d v m) h') (fun _ _ _=>False)) (ah P false none f l h n (fun v h'=>v.seq fun v=>KK 0 (iV o.d v m) h') (fun _ _ _=>False))
     |some b=>Il dr o.fl (ah P false (some b) f l h n (fun v h'=>v.seq fun v=>KK 0 (iV o.d (vS (some b) v) m) h') (fun _ _ _=>False)) (ah P true (some b) f l h n (fun v h'=>v.seq fun v=>KK 0 (iV o.d (vS (some b) v) m) h') (fun _ _ _=>False)) (ah P false (some b) f l h n (fun v h'=>v.seq fun v=>KK 0 (iV o.d (vS (some b) v) m) h') (fun _ _ _=>False)))
    |none=>False)
   | .oP x xs=>(match y8 m x,Fa m xs with
    |some v,some (l,s)=>(match v.bare with
     |(.fn f cap,s0)=>(s0.and s).vc g (bif Nat.blt f 4096 then Il dr o.fl (ah P false g f (l++cap) h n (fun v h'=>v.seq fun v=>KK 0 (iV o.d (vS g v) m) h') (fun _ _ _=>False)) (ah P true g f (l++cap) h n (fun v h'=>v.seq fun v=>KK 0 (iV o.d (vS g v) m) h') (fun _ _ _=>False)) (ah P false g f (l++cap) h n (fun v h'=>v.seq fun v=>KK 0 (iV o.d (vS g v) m) h') (fun _ _ _=>False)) else bif Nat.blt f 8192 then Il dr o.fl (ah P false g (f % 4096) (.agg cap::l) h n (fun v h'=>v.seq fun v=>KK 0 (iV o.d (vS g v) m) h') (fun _ _ _=>False)) (ah P true g (f % 4096) (.agg cap::l) h n (fun v h'=>v.seq fun v=>KK 0 (iV o.d (vS g v) m) h') (fun _ _ _=>False)) (ah P false g (f % 4096) (.agg cap::l) h n (fun v h'=>v.seq fun v=>KK 0 (iV o.d (vS g v) m) h') (fun _ _ _=>False)) else anI dr g (abX P f cap l h n (fun v h'=>v.seq fun v=>KK 0 (iV o.d v m) h')) (KK 0 (iV o.d (.cnd false (.int 0)) m) h))
     |_=>False)
    |_,_=>False)
   |op=>(match qz m h op with
    |some (v,s)=>s.vc g (v.seq fun v=>KK 0 (iV o.d (vS g v) m) h)
    |none=>(match g with
     |none=>ahI dr o.d n m h (KK 0) op
     |some b=>Fork b (ahI dr o.d n m h (KK 0) op) (KK 0 (iV o.d (.cnd false (phZ op)) m) h))))
   else False
def adZ(P:Program)(nx n:Nat)(o:aT)(KK:Nat->Fm->Hz->Prop)(m:Fm)(h:Hz):Prop :=
 match o.op,o.g with
 | .call f xs,none=>bif o.fl&&ML nx o m then
   (match Fa m xs with
   |some (l,s)=>s.vc none (ah P true none f l h n (fun v h'=>v.seq fun v=>KK 0 (iV o.d v m) h') (fun _ v h'=>v.seq fun v=>KK 0 (iV o.d v m) h'))
   |none=>False)
   else False
 |_,_=>False
def arZ(P:Program)(nx n:Nat)(o:aT)(KK:Nat->Fm->Hz->Prop)(m:Fm)(h:Hz):Prop :=
 match o.op,o.g with
 | .call f xs,none=>bif o.fl&&ML nx o m then
   (match Fa m xs with
   |some (l,s)=>s.vc none (aag P f l h n (fun v h'=>v.seq fun v=>KK 0 (iV o.d v m) h'))
   |none=>False)
   else False
 |_,_=>False
def opZ(P:Program)(dr:Bool)(nx n:Nat)(o:aT)(KK:Nat->Fm->Hz->Prop)(m:Fm)(h:Hz):Prop :=
 match o.ar with
 |true=>arZ P nx n o KK m h
 |false=>match o.ad with
 |true=>adZ P nx n o KK m h
 |false=>akJ P dr nx n o KK m h
def Wv(P:Program)(dr:Bool)(ml:Nat)(nx:Nat)(K:Fm->Hz->Nat->Prop):List aT->Nat->Fm->Hz->Prop
 |[],_,m,h=>K m h (nx+ml)
 |o::r,i,m,h=>opZ P dr nx (nx+i) o (fun k=>Wv P dr ml (nx+k) K r (i+1)) m h
abbrev Qz:=qL->Fm->Hz->Nat->Prop
def Lift(N pn:Nat)(Q:Qz)(e:qL)(s:AS):Prop:= ∃ m h,s.fr.length=N/\Rp m s.fr/\s.hp=h.aj/\s.pin=pn/\Q e m h s.nx
structure aG(P:Program)(N pn:Nat)(b:aC)(Q:Qz)(m:Fm)(h:Hz)(nx:Nat):Prop where
 ok: ∀ fr,fr.length=N->Rp m fr->Cb (aw P b) (Lift N pn Q) ⟨fr,h.aj,nx,pn⟩
def az(P:Program)(N pn:Nat):aC->Qz->Fm->Hz->Nat->Prop
 | .skip,Q,m,h,nx=>Q .normal m h nx
 | .reg dr ops,Q,m,h,nx=>Wv P dr ops.length nx (fun m h nx=>Q .normal m h nx) ops 0 m h
 | .seq a b,Q,m,h,nx=>az P N pn a (fun e m h nx=>match e with| .normal=>az P N pn b Q m h nx|e=>Q e m h nx) m h nx
 | .cond c a b,Q,m,h,nx =>
  match y8 m c with
  |some (.bool t)=>Fork t (az P N pn a Q m h nx) (az P N pn b Q m h nx)
  |_=>False
 | .blk id b,Q,m,h,nx=>az P N pn b (fun e m h nx=>match e with| .exit j=>(bif Nat.beq j id then Q .normal m h nx else Q (.exit j) m h nx)|e=>Q e m h nx) m h nx
 | .exit id,Q,m,h,nx=>Q (.exit id) m h nx
 | .ret,Q,m,h,nx=>Q .ret m h nx
 | .loop b,Q,m,h,nx=>aG P N pn b Q m h nx
def Ul(N:Nat):List aT->Bool
 |[]=>true
 |o::r=>(match o.d with|some d=>Nat.blt d N|none=>true)&&Ul N r
def oQ(N:Nat):aC->Bool
 | .skip=>true
 | .reg _ ops=>Ul N ops
 | .seq a b=>oQ N a&&oQ N b
 | .cond _ a b=>oQ N a&&oQ N b
 | .blk _ b=>oQ N b
 | .exit _=>true
 | .ret=>true
 | .loop b=>oQ N b
section
variable {P:Program} {m:Fm} {h:Hz}
theorem bI{i:Nat}{o:Option OV}:Hz.aj ((i,o)::h)=upd h.aj i (o.map OV.au):=by
 funext j;simp only[Hz.aj,Hz.get,upd];by_cases e:j=i
 ·subst e; simp
 ·have:Nat.beq i j=false:=by
   cases hb:Nat.beq i j with
   |false=>rfl
   |true=>exact absurd (fO hb).symm e
  simp[this,e]
theorem Rp.put{fr:List T}(R:Rp m fr){d:Option Nat}{v:V}(hd: ∀ i,d=some i->i<fr.length){s:AS}(hs:s.fr=fr):Rp (iV d v m) (s.put d v.aI).fr:=by
 subst hs;cases d with
 |none=>exact R
 |some d =>
  intro i u hu;simp only[iV,Fm.get] at hu;show(s.fr.set d v.aI)[i]? =_;cases hb:Nat.beq d i with
  |true =>
   rw[hb] at hu; simp at hu; subst hu;have:=fO hb; subst this;rw[List.getElem?_set_self (hd d rfl)]
  |false =>
   rw[hb] at hu;have hne:d≠i:=cG hb;rw[dy hne];exact R i u hu
theorem aah{s:AS}{d:Option Nat}{t:T}:(s.put d t).fr.length=s.fr.length:=by cases d<;>simp[AS.put]
theorem mY{g:Option Bool}{k:Prop}{s:Sd}(q:s.vc g k):((g=none\/g=some true)->s.holds)/\k:=by
 unfold Sd.vc at q;split at q
 ·exact⟨fun _=>trivial,q⟩
 ·split at q
  ·obtain⟨a,b⟩:=q; exact⟨fun _=>a,b⟩
  ·obtain⟨a,b⟩:=q; exact⟨fun hg=>a (by rcases hg with e|e<;>cases e; rfl),b⟩
theorem abZ{s:AS}(R:Rp m s.fr){g:Option (Nat×Bool)}{g':Option Bool}(q:YU m g=some g'):(gv g s=some true/\(g'=none\/g'=some true))\/(gv g s=some false/\g'=some false):=by
 unfold YU at q;split at q
 ·cases q; exact .inl ⟨rfl,.inl rfl⟩
 ·rename_i d w;split at q
  ·rename_i b e;cases q;have hg:s.fr.getD d .any= .lit (.bool b):=R.getD e;simp only[gv,hg];cases w<;>cases b<;>simp
  ·rename_i c b e;cases q;have hg:s.fr.getD d .any=bif c then .lit (.bool b) else T.un:=R.getD e;cases c with
   |true=>simp only[gv,hg,bE]; cases w<;>cases b<;>simp
   |false=>simp only[gv,hg,ap]; simp
  ·cases q
theorem aai{s:AS}(R:Rp m s.fr){nx:Nat}: ∀ {xs:List X},ltX nx m xs=true->(xs.all fun x=>T.lt nx (s.ev x))=true:=by
 intro xs;induction xs with
 |nil=>intro _; rfl
 |cons x r ih =>
  intro q;simp only[ltX,aD] at q;simp only[eC,aD];refine⟨?_,ih q.2⟩;have:=q.1;split at this
  ·rename_i v e; rw[R.ev e]; exact this
  ·cases this
theorem aeK{s:AS}(R:Rp m s.fr){i:Nat}: ∀ {xs:List X},ahH i m xs=true->(xs.all fun x=>T.nid i (s.ev x))=true:=by
 intro xs;induction xs with
 |nil=>intro _; rfl
 |cons x r ih =>
  intro q;simp only[ahH,aD] at q;simp only[eC,aD];refine⟨?_,ih q.2⟩;have:=q.1;split at this
  ·rename_i v e; rw[R.ev e]; exact this
  ·cases this
theorem akK{s:AS}(R:Rp m s.fr){xs:List X}: ∀ {l:List Nat},neB m xs l=true->KP s xs l=true:=by
 intro l;induction l with
 |nil=>intro _; rfl
 |cons d r ih =>
  intro q;simp only[neB,aD] at q;simp only[KP,aD];refine⟨?_,ih q.2⟩;have:=q.1;cases h1:Nat.blt d 1000000 with
  |true =>
   rw[h1,bE] at this;rw[bE];split at this
   ·rename_i i j o e;have hg:s.fr.getD d .any= .ptr i j o:=R.getD e;simp only[AS.obj,hg];exact aeK R this
   ·cases this
  |false =>
   rw[h1,ap] at this;rw[ap];cases h2:Nat.beq d 1000000 with
   |true=>rw[h2,bE] at this; rw[bE]; exact aai R this
   |false =>
    rw[h2,ap] at this;rw[ap];cases xs with
    |nil=>cases this
    |cons x l =>
     simp only at this ⊢;split at this
     ·rename_i v e; rw[R.ev e]; exact this
     ·cases this
theorem Pm{s:AS}(R:Rp m s.fr){o:aT}(q:ML s.nx o m=true):lH o s:=by
 unfold ML at q;simp only[aD,cY,bq] at q;refine⟨fun hf=>?_,akK R q.2⟩;have h1:aeI s.nx m o.op=true:=by
  rcases q.1 with h|h
  ·rw[hf] at h; cases h
  ·exact h
 unfold aeI at h1;split at h1
 ·rename_i k x v e;rw[e];split at h1
  ·rename_i u hu; simp only; rw[R.ev hu]; exact h1
  ·cases h1
 ·rename_i e;rw[e];split at h1
  ·rename_i u hu; simp only; rw[R.ev hu]; exact h1
  ·cases h1
 ·cases h1
 ·cases h1
 ·rename_i e; rw[e]
 ·rename_i e; rw[e]
 ·rename_i op h2 h3 h4 h5 h6 h7;have:=aai R h1;split
  ·rename_i e; exact absurd e (h2 _ _ _)
  ·rename_i e; exact absurd e (h3 _ _ _ _ _)
  ·rename_i e; exact absurd e (h4 _ _ _ _)
  ·rename_i e; exact absurd e (h5 _ _ _)
  ·rfl
  ·rfl
  ·exact this
def Kz(N pn nx:Nat)(K:Fm->Hz->Prop)(s:AS):Prop:= ∃ m h,s.fr.length=N/\Rp m s.fr/\s.hp=h.aj/\s.pin=pn/\s.nx=nx/\K m h
theorem Um{k:Nat}{v:V}(q:AB k [v]=true):v.aI.kd=k:=V.Uj (NM q v (by simp))
theorem ahJ{n:Nat}{z:T}{r:Rw}(q:adw n z=some r):r.aS=List.replicate n z:=by
 unfold adw at q;split at q<;>cases q
 ·simp[Rw.aS]
 ·simp[Rw.aS]
 ·simp only[Rw.aS,fu]; rw[aju]
theorem Rw.aaj{j:Nat}{v:V}{r w:Rw}(q:r.set j v=some w):w.aS=r.aS.set j v.aI:=by
 unfold Rw.set at q;split at q<;>first|(cases q; done)|(cases q; simp[Rw.aS,V.aI,Dat.aI,List.map_set])
theorem ahK{k:Nat}{y:V}{r:Rw}{x:List V}(q:akH h k y=some (r,x)):TI h.aj k y.aI= .list (r.aS++V.aS x):=by
 unfold akH at q;split at q
 ·rename_i k' f w;obtain⟨g,q⟩:=aU q; cases q;simp only[V.aI,TI,V.aS,cS];rcases Ij g with rfl|e
  ·cases r.aS<;>simp
  ·rw[e]
 ·rename_i k' f l;obtain⟨g,q⟩:=aU q; cases q;have:=fO g; subst this;simp only[V.aI,TI,Rw.aS,fX];cases hx:V.aS x<;>simp
 ·split at q
  ·rename_i o _ ty ko w z e;obtain⟨g,q⟩:=aU q; cases q;have:=fO g; subst this;simp[V.aI,TI,aK e,OV.au]
  ·cases q
 ·cases q
theorem CU{r:Rw}{x:List V}:qX r x=(r.aS++V.aS x).length:=by
 unfold qX;split
 ·simp[V.aS,Rw.fD]
 ·simp[cO,Rw.fD]
theorem ahL{r r' w:Rw}{x x' z:List V}(q:akI r x r' x'=some (w,z)):w.aS++V.aS z=(r.aS++V.aS x)++(r'.aS++V.aS x'):=by
 unfold akI at q;split at q
 ·split at q
  ·rename_i w' e; cases q; rw[Rw.NK e]; simp[V.aS]
  ·cases q
 ·cases q; simp[rW,Rw.aS]
 ·cases q
theorem akL{k:Int}: ∀ {es:List (Int×List Bool)},yG (.int .i64 k) (es.map MS)=(MJ k es).map fun l=>.sl 0 false (l.map T.bool):=by
 intro es;induction es with
 |nil=>rfl
 |cons e es ih =>
  obtain⟨m,l⟩:=e;simp only[bl,MS,yG,Gq,T.int,MJ];cases k==m
  ·exact ih
  ·rfl
theorem aml{k:Int}{v:T}: ∀ {es:List (Int×List Bool)},MJ k es=none->DF (.int .i64 k) v (es.map MS)=es.map MS++[.dD [.int k,v]]:=by
 intro es;induction es with
 |nil=>intro _; rfl
 |cons e es ih =>
  obtain⟨m,l⟩:=e;intro h;simp only[MJ] at h;cases hb:k==m with
  |true=>rw[hb] at h; cases h
  |false =>
   rw[hb] at h;simp only[bl,MS,DF,Gq,T.int,hb,ap,cj];rw[ih h]
theorem Rw.ids{M:Nat->Prop}(r:Rw):T.aO M r.aS:=by
 rw[cu];intro t ht;cases r<;>simp only[Rw.aS,ax,dx] at ht<;>obtain⟨x,_,rfl⟩:=ht<;>simp[eS,T.ids,T.aO,QI,QJ,Jw,QK,Jy,jK]
theorem keysB{k:Int}{es:List (Int×List Bool)}:Bq false (.int .i64 k) (es.map MS)=true:=by
 simp[Bq,vC,Mc,MS]
theorem ajv{k:Str}{es:List (Str×Int)}:Bq true (.string (bs k)) (es.map Ii)=true:=by
 simp[Bq,vC,Mc,Ii,eS]
theorem akM{k:Str}: ∀ {es:List (Str×Int)},yG (.string (bs k)) (es.map Ii)=(MV k es).map fun l=>.int l:=by
 intro es;induction es with
 |nil=>rfl
 |cons e es ih =>
  obtain⟨m,l⟩:=e;simp only[bl,Ii,eS,yG,Gq,bs,T.int,MV];cases k==m
  ·exact ih
  ·rfl
theorem amm{k:Str}{v:T}: ∀ {es:List (Str×Int)},MV k es=none->DF (.string (bs k)) v (es.map Ii)=es.map Ii++[.dD [eS k,v]]:=by
 intro es;induction es with
 |nil=>intro _; rfl
 |cons e es ih =>
  obtain⟨m,l⟩:=e;intro h;simp only[MV] at h;cases hb:k==m with
  |true=>rw[hb] at h; cases h
  |false =>
   rw[hb] at h;have:=ih h;simp only[bs] at this;simp only[bl,Ii,eS,DF,Gq,bs,T.int,hb,ap,cj];rw[this]; rfl
theorem SB{N pn n nx:Nat}{d:Option Nat}{op:o8}{K:Fm->Hz->Prop}{s:AS}{dr:Bool}(hl:s.fr.length=N)(hd: ∀ i,d=some i->i<N)(R:Rp m s.fr)(hh:s.hp=h.aj)(hp:s.pin=pn)(hn:s.nx=nx)(q:ahI dr d n m h K op) :
  nS P dr n d op (Kz N pn nx K) s:=by
 have hd': ∀ i,d=some i->i<s.fr.length:=fun i e=>by rw[hl]; exact hd i e
 have fin: ∀ {v:V} {h':Hz},K (iV d v m) h'->Kz N pn nx K {(s.put d v.aI) with hp:=h'.aj}:=fun {v h'} hk =>
  ⟨_,h',by show(s.put d v.aI).fr.length=N; rw[aah,hl],R.put (v:=v) hd' rfl,rfl,by show(s.put d v.aI).pin=pn; cases d<;>exact hp,by show(s.put d v.aI).nx=nx; cases d<;>exact hn,hk⟩
 have aeL: ∀ {op:o8} {v:V},dw op=true->Ok s op v->K (iV d v m) h->nS P dr n d op (Kz N pn nx K) s:=fun {op v} hq ho hk=>by
  rw[bU hq];refine⟨ho.1,?_⟩;rw[ho.2];have:=fin hk;rw[<- hh] at this;rw[show({(s.put d v.aI) with hp:=s.hp}:AS)=s.put d v.aI by cases d<;>rfl] at this;exact this
 unfold ahI at q;split at q
 ·rename_i ty k x;split at q
  ·rename_i v e;split at q;rename_i v' s' hb;cases g:AB k [v']&&v'.nR h&&Bv k with
   |false=>rw[g] at q; exact q.elim
   |true =>
    rw[g] at q;simp only[aD] at g;simp only[bE] at q;obtain⟨hs,hk⟩:=mY q;have ev:s.ev x=v'.aI:=by rw[R.ev e]; exact dZ hb (hs (.inl rfl))
    simp only[nS];rw[ev,Um g.1.1,hh,V.wG g.1.2,g.2];refine⟨by simp,?_⟩;have:=fin hk;rw[bI] at this;exact this
  ·exact q.elim
 ·rename_i ty k z;cases g:z.kd==k&&z.nR h.aj&&z.free&&Bv k with
  |false=>rw[g] at q; exact q.elim
  |true =>
   rw[g] at q;simp only[nS];rw[hh,g];refine⟨rfl,?_⟩;have:=fin q;rw[bI] at this;simp only[bp,OV.au,yO] at this;exact this
 ·rename_i ty k bytes z x y;split at q
  ·rename_i a b e1 e2;cases g:z.kd==k&&z.nR h.aj&&z.free&&Bv k with
   |false=>rw[g] at q; exact q.elim
   |true =>
    rw[g] at q;simp only[bE] at q;split at q
    ·rename_i r er;obtain⟨c,hk⟩:=q;simp only[nS];rw[R.ev e1,R.ev e2];simp only[V.aI];rw[hh,g];refine⟨rfl,c,?_⟩;have:=fin hk;rw[bI] at this;simp only[bp,OV.au,V.aS,cS] at this;have hr:r.aS=List.replicate a.toNat z:=by
      cases hz:isZero (.int a) with
      |false=>rw[hz] at er; exact ahJ er
      |true =>
       rw[hz] at er; cases er;unfold isZero at hz;split at hz
       ·rename_i e; cases e; rfl
       ·cases hz
     rw[hr] at this;exact this
    ·obtain⟨c,hk⟩:=q;simp only[nS];rw[R.ev e1,R.ev e2];simp only[V.aI];rw[hh,g];refine⟨rfl,c,?_⟩;have:=fin hk;rw[bI] at this;simp only[bp,OV.au] at this;rw[jG,fu,yO] at this;exact this
  ·exact q.elim
 ·rename_i k x v;split at q
  ·rename_i i j off v0 e1 e2;split at q;rename_i v' s' hb;cases g:AB k [v']&&v'.nR h with
   |false=>rw[g] at q; exact q.elim
   |true =>
    rw[g] at q;simp only[aD] at g;simp only[bE] at q;have fin2: ∀ {h':Hz},K m h'->Kz N pn nx K {s with hp:=h'.aj}:=fun {h'} hk=>⟨m,h',hl,R,rfl,hp,hn,hk⟩
    have ex:s.ev x= .ptr i j off:=R.ev e1;simp only[nS];rw[ex];simp only;split at q
    ·rename_i ty ko w eo;rw[hh,aK eo];simp only[OV.au];cases hj:Nat.beq j 0 with
     |false=>rw[hj] at q; exact q.elim
     |true =>
      have:=fO hj; subst this;rw[hj] at q;simp only[bE] at q;cases hb2:(Nat.beq off 0&&Nat.beq ko k) with
      |true =>
       rw[hb2] at q;simp only[bE] at q;obtain⟨hs,hk⟩:=mY q;have ev:s.ev v=v'.aI:=by rw[R.ev e2]; exact dZ hb (hs (.inl rfl))
       simp only[aD] at hb2;have f1:=fO hb2.1; have f2:=fO hb2.2; subst f1; subst f2;rw[ev,Um g.1,V.wG g.2];refine⟨by simp,by simp,by simp,?_⟩;have:=fin2 hk;rw[bI] at this;simp only[BEq.rfl,fI,bE,eV];exact this
      |false =>
       rw[hb2] at q;simp only[ap] at q;cases hc:(!(Nat.beq ko 0)&&o9 (bD ko) off k) with
       |false=>rw[hc] at q; exact q.elim
       |true =>
        rw[hc] at q;simp only[bE] at q;split at q
        ·rename_i w' hw;rw[V.force_eq] at q;obtain⟨hs,hk⟩:=mY q;have ev:s.ev v=v'.aI:=by rw[R.ev e2]; exact dZ hb (hs (.inl rfl))
         have hb':(off==0&&ko==k)=false:=by
          rw[cH] at hb2 ⊢;rcases hb2 with hb2|hb2
          ·left; simpa using cG hb2
          ·right; simpa using cG hb2
         simp only[aD] at hc;rw[ev,Um g.1,V.wG g.2];refine⟨by simp,by simp,?_,?_⟩
         ·simp only[hb',cz,aD]; exact⟨aeC hc.1,hc.2⟩
         ·have:=fin2 hk;rw[bI] at this;simp only[hb',ap,eV,gH];have ew:w.aI.splice off v'.aI=w'.aI:=by
           unfold setCells at hw;split at hw
           ·rename_i l c f1 f2;cases hw;unfold T.splice;rw[V.Lh f1,V.Lh f2];simp only[V.aI,rW,Ph,Pj,cO]
           ·cases hw
          rw[ew];exact this
        ·exact q.elim
    ·rename_i ty ko r eo;rw[hh,aK eo];simp only[OV.au,V.aS,cS];cases hb2:(Nat.beq off 0&&Nat.beq ko k) with
     |false=>rw[hb2] at q; exact q.elim
     |true =>
      rw[hb2] at q;simp only[bE] at q;split at q
      ·rename_i r' hr;obtain⟨hs,hk0⟩:=mY q;obtain⟨YV,hk⟩:=hk0;have ev:s.ev v=v'.aI:=by rw[R.ev e2]; exact dZ hb (hs (.inl rfl))
       simp only[aD] at hb2;have f1:=fO hb2.1; have f2:=fO hb2.2; subst f1; subst f2;rw[Rw.DW] at YV;rw[ev,Um g.1,V.wG g.2];refine⟨by simp,by rw[Rw.fD]; omega,by simp,?_⟩;have:=fin2 hk;rw[bI] at this;simp only[bp,OV.au,V.aS,cS,Rw.aaj hr] at this;simp only[BEq.rfl,fI,bE];exact this
      ·obtain⟨hs,hk0⟩:=mY q;obtain⟨YV,hk⟩:=hk0;have ev:s.ev v=v'.aI:=by rw[R.ev e2]; exact dZ hb (hs (.inl rfl))
       simp only[aD] at hb2;have f1:=fO hb2.1; have f2:=fO hb2.2; subst f1; subst f2;rw[Rw.DW] at YV;rw[ev,Um g.1,V.wG g.2];refine⟨by simp,by rw[Rw.fD]; omega,by simp,?_⟩;have:=fin2 hk;rw[bI] at this;simp only[bp,OV.au] at this;rw[jG,List.map_set,<- jG,Rw.aey] at this;simp only[BEq.rfl,fI,bE];exact this
    ·rename_i ty ko y eo;rw[hh,aK eo];simp only[OV.au];cases hb2:(Nat.beq off 0&&Nat.beq ko k) with
     |false=>rw[hb2] at q; exact q.elim
     |true =>
      rw[hb2] at q;simp only[bE] at q;obtain⟨hs,hk0⟩:=mY q;obtain⟨YV,hk⟩:=hk0;have ev:s.ev v=v'.aI:=by rw[R.ev e2]; exact dZ hb (hs (.inl rfl))
      simp only[aD] at hb2;have f1:=fO hb2.1; have f2:=fO hb2.2; subst f1; subst f2;rw[ev,Um g.1,V.wG g.2];refine⟨by simp,by rw[cO]; exact YV,by simp,?_⟩;have:=fin2 hk;rw[bI] at this;simp only[bp,OV.au] at this;rw[jG,List.map_set,<- jG] at this;simp only[BEq.rfl,fI,bE];exact this
    ·exact q.elim
  ·rename_i x0 v0 _ e1 e2;split at q
   ·rename_i i j off s0 hb0;split at q;rename_i v' s' hb;cases g:AB k [v']&&v'.nR h&&Nat.beq off 0 with
    |false=>rw[g] at q; exact q.elim
    |true =>
     rw[g] at q;simp only[aD] at g;simp only[bE] at q;obtain⟨hs,hk⟩:=mY q;have hs2:=Sd.pI.1 (hs (.inl rfl));have ex:s.ev x= .ptr i j off:=by rw[R.ev e1,dZ hb0 hs2.1]; rfl
     have ev:s.ev v=v'.aI:=by rw[R.ev e2]; exact dZ hb hs2.2
     have f1:=fO g.2; subst f1;obtain⟨ty,r,r',h',a1,a2,a3,a4,a5⟩:=hk.ok;rw[Rw.DW] at a3;simp only[nS];rw[ex];simp only;rw[hh,aK a1];simp only[OV.au,V.aS,cS];rw[ev,Um g.1.1,V.wG g.1.2];refine⟨by simp,by rw[Rw.fD]; omega,by simp,?_⟩;simp only[BEq.rfl,fI,bE];rw[<- Rw.aaj a2];refine⟨m,h',hl,R,?_,hp,hn,a5⟩;rw[a4]; simp only[OV.au,V.aS,cS]
   ·exact q.elim
  ·exact q.elim
 ·rename_i k x;split at q
  ·rename_i v0 e1;split at q
   ·rename_i i j off s0 hb0;split at q
    ·rename_i ty ko y eo;cases hb2:(Nat.beq off 0&&Nat.beq ko k) with
     |false =>
      rw[hb2,ap] at q;cases g:(!(Nat.beq ko 0)&&o9 (bD ko) off k) with
      |false=>rw[g] at q; exact q.elim
      |true =>
       rw[g,bE] at q;obtain⟨hs,hk⟩:=mY q;have ex:s.ev x= .ptr i j off:=by rw[R.ev e1,dZ hb0 (hs (.inl rfl))]; rfl
       obtain⟨v,hv,hk⟩:=hk.ok;split at hk
       ·rename_i u hu;rw[V.seq_eq] at hk;refine aeL rfl ?_ hk;have hj:j<y.length:=by
         rcases eR j y.length with h|h
         ·exact h
         ·rw[cv h] at hv; cases hv
        have hb':(off==0&&ko==k)=false:=by
         rw[cH] at hb2 ⊢;rcases hb2 with hb|hb
         ·left; simpa using cG hb
         ·right; simpa using cG hb
        have hg:(!(ko==0)&&o9 (bD ko) off k)=true:=by
         simp only[aD,bq] at g ⊢;exact⟨by simpa using cG g.1,g.2⟩
        unfold Ok; simp only[qc,qt]; rw[ex];simp only[hh,aK eo,OV.au];rw[hb',hg];simp only[cz,ap,cO];refine⟨⟨hj,trivial⟩,?_⟩;rw[x9 hv]; exact V.Fe hu
       ·exact hk.elim
     |true =>
      rw[hb2] at q;simp only[bE] at q;obtain⟨hs,hk⟩:=mY q;have ex:s.ev x= .ptr i j off:=by rw[R.ev e1,dZ hb0 (hs (.inl rfl))]; rfl
      simp only[aD] at hb2;have f1:=fO hb2.1; have f2:=fO hb2.2; subst f1; subst f2;obtain⟨v,hv,hk⟩:=hk.ok;rw[V.seq_eq] at hk;refine aeL rfl ?_ hk;have hj:j<y.length:=by
       rcases eR j y.length with h|h
       ·exact h
       ·rw[cv h] at hv; cases hv
      unfold Ok; simp only[qc,qt]; rw[ex];simp only[hh,aK eo,OV.au];simp only[BEq.rfl,fI,Bool.true_or,bE,cO];exact⟨⟨hj,trivial⟩,x9 hv⟩
    ·exact q.elim
   ·rename_i i j off s0 hb0;obtain⟨hs,hk⟩:=mY q;have ex:s.ev x=(V.ptr i j off).aI:=by rw[R.ev e1,dZ hb0 (hs (.inl rfl))]; rfl
    obtain⟨ty,ko,r,eo,hk⟩:=hk.ok;split at hk
    ·rename_i v s' hq;obtain⟨hs',hk⟩:=mY hk;rw[V.seq_eq] at hk;exact aeL rfl (YS hh (u:=.ptr i j off) (by simp only[ldZ,eo]; exact hq) (hs' (.inl rfl)) ex) hk
    ·exact hk.elim
   ·exact q.elim
  ·exact q.elim
 ·rename_i k x i;split at q
  ·rename_i v0 w0 e1 e2;split at q
   ·rename_i o s0 n0 s1 hb0 hb1;obtain⟨hs,hk⟩:=mY q;have hs2:=Sd.pI.1 (hs (.inl rfl));have ex:s.ev x=(V.own o).aI:=by rw[R.ev e1,dZ hb0 hs2.1]; rfl
    have ei:s.ev i=(V.int n0).aI:=by rw[R.ev e2,dZ hb1 hs2.2]
    obtain⟨ty,ko,r,eo,hk⟩:=hk.ok;cases hb2:Nat.beq ko k with
    |false=>rw[hb2] at hk; exact hk.elim
    |true =>
     rw[hb2] at hk;simp only[bE] at hk;obtain⟨hr,hk⟩:=hk;have hok:Ok s (.ia k x i) (.ptr o n0.toNat 0):=aeD hh (u:=.own o) (v:=.int n0) (r:=.ptr o n0.toNat 0) (sd:=.yes (r.rng n0)) (by simp only[iaZ,eo,hb2,dU,bE]) hr ex ei;exact aeL (v:=.pin o n0.toNat 0) rfl ⟨hok.1,hok.2⟩ hk
   ·exact q.elim
  ·exact q.elim
 ·rename_i str x;split at q
  ·rename_i v0 e1;split at q
   ·rename_i o s0 hb0;obtain⟨hs,hk⟩:=mY q;have ex:s.ev x=(V.own o).aI:=by rw[R.ev e1,dZ hb0 (hs (.inl rfl))]; rfl
    obtain⟨ty,ko,r,eo,hk⟩:=hk.ok;cases hb2:(!str&& !(Nat.beq ko gK)) with
    |false=>rw[hb2] at hk; exact hk.elim
    |true =>
     rw[hb2] at hk;simp only[bE] at hk;rw[V.seq_eq] at hk;exact aeL rfl (aad hh (u:=.own o) (r:=r.lenV) (sd:=.no) (by simp only[ahz,eo,hb2,dU,bE]) ex) hk
   ·exact q.elim
  ·exact q.elim
 ·rename_i ty k bytes x y;split at q
  ·rename_i vx vy e1 e2;split at q
   ·rename_i r' x' es;simp only[nS];rw[R.ev e1,R.ev e2,hh,ahK es];simp only;split at q
    ·rename_i k';obtain⟨c,hk⟩:=q;have e0:(V.row k' true Rw.nil).aI= .sl k' true []:=rfl;rw[e0];unfold kT at c;rw[CU] at c;refine⟨.inr rfl,.inl (.inl rfl),by simpa using c.1,by simpa using c.2,?_⟩;have:=fin hk;rw[bI] at this;exact this
    ·rename_i k' r hnn;cases hb2:Nat.beq k' k with
     |false=>rw[hb2] at q; exact q.elim
     |true =>
      rw[hb2] at q;have:=fO hb2; subst this;simp only[bE] at q;split at q
      ·rename_i w hw;obtain⟨c1,c2,hk⟩:=q.ok;simp only[V.aI];unfold kT at c2;rw[CU] at c1 c2;refine⟨.inl trivial,?_,by rw[Rw.fD]; exact c2.1,by rw[Rw.fD]; exact c2.2,?_⟩
       ·rcases c1 with (c|c)|⟨c,hk2⟩
        ·left; left; exact ai (by rw[Rw.fD]; exact c)
        ·left; right; intro e; rw[e] at c; simp at c
        ·right;refine⟨c,?_⟩;have f1:=fin hk2;rw[<- hh] at f1;rw[show({(s.put d (V.row k' true r).aI) with hp:=s.hp}:AS)=s.put d (.sl k' true r.aS) by cases d<;>rfl] at f1;exact f1
       ·have:=fin hk;rw[bI] at this;simp only[bp,OV.au,Rw.NK hw,bO] at this;exact this
      ·exact q.elim
    ·rename_i i;split at q
     ·rename_i ty' ko r xx eo;cases hb2:(Nat.beq ko k&&Nat.beq ty' ty) with
      |false=>rw[hb2] at q; exact q.elim
      |true =>
       rw[hb2] at q;simp only[bE] at q;simp only[aD] at hb2;have f1:=fO hb2.1; have f2:=fO hb2.2; subst f1; subst f2;split at q
       ·rename_i w z hw;obtain⟨c,hk⟩:=q;simp only[V.aI,aK eo,OV.au];unfold kT at c;rw[CU,CU] at c;refine⟨by simp,c.1,c.2,?_⟩;have:=fin hk;rw[bI,bI] at this;simp only[bp,eA,OV.au,ahL hw] at this;exact this
       ·exact q.elim
     ·rename_i ty' ko y eo;cases hb2:(Nat.beq ko k&&Nat.beq ty' ty) with
      |false=>rw[hb2] at q; exact q.elim
      |true =>
       rw[hb2] at q;simp only[bE] at q;simp only[aD] at hb2;have f1:=fO hb2.1; have f2:=fO hb2.2; subst f1; subst f2;obtain⟨c,hk⟩:=q;simp only[V.aI,aK eo,OV.au];unfold kT at c;rw[CU] at c;refine⟨by simp,by rw[cO]; exact c.1,by rw[cO]; exact c.2,?_⟩;have:=fin hk;rw[bI,bI] at this;simp only[bp,eA,OV.au,rW,Rw.aey] at this;exact this
     ·exact q.elim
    ·rename_i i;obtain⟨r,h',a1,a2,hk⟩:=q.ok;split at hk
     ·rename_i w hw;obtain⟨c,hk⟩:=hk;simp only[V.aI,aK a1,OV.au,V.aS,cS];unfold kT at c;rw[CU] at c;refine⟨by simp,by rw[Rw.fD]; exact c.1,by rw[Rw.fD]; exact c.2,?_⟩;have:=fin hk;rw[bI,a2] at this;simp only[bp,OV.au,Rw.NK hw,bO] at this;exact this
     ·exact hk.elim
    ·exact q.elim
   ·exact q.elim
  ·exact q.elim
 ·rename_i k z x;split at q
  ·rename_i i lo hi e;split at q
   ·rename_i ty ko r eo;cases g:(Nat.beq ko k&&z.kd==k&&z.nR h.aj&&z.free) with
    |false=>rw[g] at q; exact q.elim
    |true =>
     rw[g] at q;simp only[bE] at q;obtain⟨⟨c1,c2⟩,hk⟩:=q;simp only[aD] at g;obtain⟨⟨⟨g1,g2⟩,g3⟩,g4⟩:=g;have f1:=fO g1; subst f1;simp only[nS];rw[R.ev e];simp only[V.aI,hh,aK eo,OV.au];refine⟨by simp[g2,g3,g4],by simp[Rw.fD,c2,V.aS],?_⟩;have el:(r.take lo).aS++V.aS (List.replicate (hi-lo) (E9 z))=List.take lo (r.aS++V.aS [])++List.replicate (hi-lo) z++List.drop hi (r.aS++V.aS []):=by
      rw[Rw.Fb,jG,fu,yO];simp[V.aS,Rw.fD,c2]
     cases d with
     |none =>
      simp only at hk;refine⟨_,_,hl,R,?_,hp,hn,hk⟩;rw[bI];simp only[bp,OV.au,el]
     |some dd =>
      simp only at hk;have:=fin hk;rw[bI] at this;simp only[bp,OV.au,el] at this;exact this
   ·exact q.elim
  ·exact q.elim
 ·rename_i ty k z nn ps;split at q
  ·rename_i vs s' hb;split at q
   ·rename_i l hl;cases g:((z.kd==k)&&z.free&&AB k vs&&G5 h vs&&Nat.ble (nn*bD k) 16777216&&Bv k) with
    |false=>rw[g] at q; exact q.elim
    |true =>
     rw[g] at q;simp only[bE] at q;obtain⟨hs,hk⟩:=mY q;have he:=wH R hb (hs (.inl rfl));have he':(ps.map fun p=>s.ev p.2)=V.aS vs:=by rw[<- he]; simp
     simp only[aD] at g;obtain⟨⟨⟨⟨⟨g1,g2⟩,g3⟩,g4⟩,g5⟩,g6⟩:=g;obtain⟨i1,i2⟩:=aae hl he' g3;have e:V.aS (List.replicate nn (E9 z))=List.replicate nn z:=by rw[jG,fu,yO]
     rw[e] at i2;simp only[nS];rw[i1,i2,he',hh,Lj g4,g1,g2,g5,g6];refine⟨rfl,?_⟩;have:=fin hk;rw[bI] at this;simp only[bp,OV.au,Rw.aS,fX] at this;exact this
   ·exact q.elim
  ·exact q.elim
 ·rename_i x;split at q
  ·rename_i k' f r e;obtain⟨q1,q2⟩:=q;simp only[nS];rw[R.ev e];have f1:=fun hz=>fin (q1 hz)
   have f2:=fin q2;rw[<- hh] at f1 f2;refine⟨fun hl=>?_,?_⟩
   ·have:=f1 (by rw[<- Rw.fD]; exact dC List.length hl);rw[show({(s.put d (V.bool true).aI) with hp:=s.hp}:AS)=s.put d (.lit (.bool true)) by cases d<;>rfl] at this;exact this
   ·rw[show({(s.put d (V.bool false).aI) with hp:=s.hp}:AS)=s.put d (.lit (.bool false)) by cases d<;>rfl] at f2;exact f2
  ·rename_i i e;split at q
   ·rename_i ty ko r eo;cases hb:Nat.beq ko gK with
    |true=>rw[hb] at q; exact q.elim
    |false =>
     rw[hb] at q;obtain⟨q1,q2⟩:=q;simp only[nS];rw[R.ev e];have f1:=fun hz=>fin (q1 hz)
     have f2:=fin q2;rw[<- hh] at f1 f2;simp only[V.aI,hh,aK eo,OV.au];refine⟨fun hl=>?_,?_,cG hb⟩
     ·have:=f1 (by rw[<- Rw.fD]; simpa [V.aS] using dC List.length hl);rw[show({(s.put d (V.bool true).aI) with hp:=s.hp}:AS)=s.put d (.lit (.bool true)) by cases d<;>rfl] at this;exact this
     ·rw[show({(s.put d (V.bool false).aI) with hp:=s.hp}:AS)=s.put d (.lit (.bool false)) by cases d<;>rfl] at f2;exact f2
   ·exact q.elim
  ·exact q.elim
 ·rename_i ty k bytes y;split at q
  ·rename_i k' f r e;cases g:kOk k k' r with
   |false=>rw[g] at q; exact q.elim
   |true =>
    rw[g] at q;obtain⟨c,hk⟩:=q;unfold kT at c;simp only[fS] at c;simp only[nS];rw[R.ev e,hh];refine⟨⟨Ij g,r.ids⟩,by rw[Rw.fD]; exact c,?_⟩;have:=fin hk;rw[bI] at this;simp only[bp,OV.au,V.aS,cS] at this;exact this
  ·rename_i k' f l e;cases g:Nat.beq k' k&&V.bn l with
   |false=>rw[g] at q; exact q.elim
   |true =>
    rw[g] at q;simp only[aD] at g;obtain⟨c,hk⟩:=q;unfold kT at c;simp only[fS] at c;simp only[nS];rw[R.ev e,hh];refine⟨⟨.inl (fO g.1),dh (V.eG l g.2)⟩,by rw[cO]; exact c,?_⟩;have:=fin hk;rw[bI] at this;simp only[bp,OV.au,Rw.aS,fX] at this;exact this
  ·exact q.elim
 ·rename_i ty;simp only[nS];have:=fin q;rw[bI] at this;rw[hh];exact this
 ·rename_i z x i;split at q
  ·rename_i o k e1 e2;split at q
   ·rename_i ty es eo;obtain⟨q1,q2⟩:=q;rw[bU rfl];simp only[qc,qt];rw[R.ev e1,R.ev e2];simp only[V.aI,eS,T.int,hh,aK eo,OV.au,akM];refine⟨⟨trivial,ajv⟩,?_⟩;cases hg:MV k es with
    |some l =>
     have f1:=fin (q1 l hg);rw[<- hh] at f1;rw[show({(s.put d (V.dD [.int l,.bool true]).aI) with hp:=s.hp}:AS)=s.put d (.dD [.int l,.lit (.bool true)]) by cases d<;>rfl] at f1;exact f1
    |none =>
     have f2:=fin (q2 hg);rw[<- hh] at f2;rw[show({(s.put d (V.dD [E9 z,.bool false]).aI) with hp:=s.hp}:AS)=s.put d (.dD [(E9 z).aI,.lit (.bool false)]) by cases d<;>rfl,yO] at f2;exact f2
   ·exact q.elim
  ·exact q.elim
 ·rename_i x i v;split at q
  ·rename_i o k w e1 e2 e3;split at q
   ·rename_i ty es eo;obtain⟨c,hk⟩:=q;simp only[nS];rw[R.ev e1,R.ev e2,R.ev e3];simp only[V.aI,eS,T.int,hh,aK eo,OV.au];refine⟨trivial,ajv,rfl,?_⟩;have hK:Kz N pn nx K {s with hp:=Hz.aj ((o,some (.smap ty (es++[(k,w)])))::h)}:=⟨m,_,hl,R,rfl,hp,hn,hk⟩
    rw[bI] at hK;have:=amm (v:=.int w) c;rw[this];rw[bp,show(OV.smap ty (es++[(k,w)])).au=⟨ty,gK,es.map Ii++[.dD [eS k,.int w]]⟩ by simp[OV.au,Ii]] at hK;exact hK
   ·exact q.elim
  ·exact q.elim
 ·rename_i z x i;split at q
  ·rename_i o k e1 e2;split at q
   ·rename_i ty es eo;obtain⟨q1,q2⟩:=q;rw[bU rfl];simp only[qc,qt];rw[R.ev e1,R.ev e2];simp only[V.aI,T.int,hh,aK eo,OV.au,List.map_nil,cS,akL];refine⟨⟨trivial,keysB⟩,?_⟩;cases hg:MJ k es with
    |some l =>
     have f1:=fin (q1 l hg);rw[<- hh] at f1;rw[show({(s.put d (V.dD [.row 0 false (.bools l),.bool true]).aI) with hp:=s.hp}:AS)=s.put d (.dD [.sl 0 false (l.map T.bool),.lit (.bool true)]) by cases d<;>rfl] at f1;exact f1
    |none =>
     have f2:=fin (q2 hg);rw[<- hh] at f2;rw[show({(s.put d (V.dD [E9 z,.bool false]).aI) with hp:=s.hp}:AS)=s.put d (.dD [(E9 z).aI,.lit (.bool false)]) by cases d<;>rfl,yO] at f2;exact f2
   ·exact q.elim
  ·exact q.elim
 ·rename_i x i v;split at q
  ·rename_i o k w e1 e2 e3;split at q;rename_i v' s' hb;split at q
   ·rename_i ty es eo;cases g:AB 0 [v']&&v'.nR h with
    |false=>rw[g] at q; exact q.elim
    |true =>
     rw[g] at q;simp only[aD] at g;simp only[bE] at q;obtain⟨hs,c,hk⟩:=mY q;have ev:s.ev v=v'.aI:=by rw[R.ev e3]; exact dZ hb (hs (.inl rfl))
     have hkd:=Um g.1;have hst:=V.wG g.2;simp only[nS];rw[R.ev e1,R.ev e2,ev];simp only[V.aI,T.int,hh,aK eo,OV.au,List.map_nil,cS];refine⟨trivial,keysB,?_,?_⟩
     ·rw[hkd]
      have:v'.aI.Ai h.aj=true:=by
       revert hst hkd;cases v'.aI<;>simp[T.nR,T.kd]
      rw[this]; rfl
     ·have hK:Kz N pn nx K {s with hp:=Hz.aj ((o,some (.map ty es [(k,v')]))::h)}:=⟨m,_,hl,R,rfl,hp,hn,hk⟩
      rw[bI] at hK;have:=aml (v:=v'.aI) c;simp only[T.int] at this;rw[this];exact hK
   ·exact q.elim
  ·exact q.elim
 ·exact q.elim
end
section
variable {P:Program} {m:Fm} {h:Hz}
theorem Kz.put{N pn nx:Nat}{K:Fm->Hz->Prop}{s:AS}{d:Option Nat}{v:V}{t:T}{h':Hz}(hl:s.fr.length=N)(hd: ∀ i,d=some i->i<N)(R:Rp m s.fr)(hp:s.pin=pn)(hn:s.nx=nx)(ht:t=v.aI)(hk:K (iV d v m) h') :
  Kz N pn nx K {(s.put d t) with hp:=h'.aj}:=by
 subst ht;exact⟨_,h',by show(s.put d v.aI).fr.length=N; rw[aah,hl],R.put (v:=v) (fun i e=>by rw[hl]; exact hd i e) rfl,rfl,by show(s.put d v.aI).pin=pn; cases d<;>exact hp,by show(s.put d v.aI).nx=nx; cases d<;>exact hn,hk⟩
theorem Pn{N pn nx n:Nat}{K:Fm->Hz->Prop}{KW:Nat->Fm->Hz->Prop}{s:AS}{d:Option Nat}{dr:Bool}{g:Option Bool}{f:FuncId}{l:List V}(hl:s.fr.length=N)(hd: ∀ i,d=some i->i<N)(R:Rp m s.fr)(hh:s.hp=h.aj)(hp:s.pin=pn)(hn:s.nx=nx)
  (hg:g=none\/g=some true) (q:ah P dr g f l h n (fun v h'=>v.seq fun v=>K (iV d (vS g v) m) h') (fun k v h'=>v.seq fun v=>KW k (iV d v m) h')) (hq:dr=true-> ∀ (v:V) (h':Hz),¬ (v.seq fun v=>KW 0 (iV d v m) h')) :
  qM P dr n d f (V.aS l) (Kz N pn nx K) s\/(dr=false/\ ∃ k,jr P f (V.aS l) s.hp n k fun t hp=>Kz N pn (nx+k) (KW k) {(s.put d t) with hp:=hp,nx:=s.nx+k}):=by
 unfold qM;rw[hh];rcases q.ok with q|⟨rfl,rfl,k,q⟩|⟨_,hdr,_,⟨_,_,v,o,_,_,hk⟩,_⟩
 rotate_left
 rotate_left
 ·exact absurd hk (hq hdr _ _)
 rotate_left
 ·refine .inr ⟨rfl,k,q.mono ?_⟩;rintro t hp' ⟨v,h',rfl,rfl,hk⟩;rw[V.seq_eq] at hk;obtain⟨m',h'',a1,a2,a3,a4,_,a6⟩:=Kz.put (K:=KW k) hl hd R hp hn rfl hk;exact⟨m',h'',a1,a2,a3,a4,by show s.nx+k=nx+k; rw[hn],a6⟩
 left;rcases hg with rfl|rfl
 ·refine aP.mono q ?_;rintro t hp' ⟨v,h',e1,e2,e3,hk⟩;rw[V.seq_eq] at hk;subst e2;refine⟨fun e=>⟨by rw[(e3 e).1],(e3 e).2⟩,Kz.put (v:=v) hl hd R hp hn e1 hk⟩
 ·rcases q with ⟨v,c,hf,hk⟩|⟨hdr,c,_⟩
  rotate_left
  ·refine aP.mono (c rfl) ?_;rintro t hp' ⟨v,h',e1,e2,hk⟩;rw[V.seq_eq] at hk;subst e2;exact⟨fun e=>(by rw[hdr] at e; cases e),Kz.put (v:=vS (some true) v) hl hd R hp hn (e1.trans (Ll v).symm) hk⟩
  rw[V.seq_eq] at hk;refine aP.mono (c rfl) ?_;rintro t hp' ⟨e1,e2⟩;subst e2;refine⟨fun _=>⟨rfl,by rw[e1]; exact V.jS v hf⟩,Kz.put (v:=vS (some true) v) hl hd R hp hn (by rw[e1]; exact(Ll v).symm) hk⟩
theorem AX{N pn nx n:Nat}{K:Fm->Hz->Prop}{s:AS}{d:Option Nat}{dr:Bool}{g:Option Bool}{f:FuncId}{l:List V}(hl:s.fr.length=N)(hd: ∀ i,d=some i->i<N)(R:Rp m s.fr)(hh:s.hp=h.aj)(hp:s.pin=pn)(hn:s.nx=nx)
  (hg:g=none\/g=some true) (q:ah P dr g f l h n (fun v h'=>v.seq fun v=>K (iV d (vS g v) m) h') (fun _ _ _=>False)):qM P dr n d f (V.aS l) (Kz N pn nx K) s:=by
 rcases Pn (KW:=fun _ _ _=>False) hl hd R hh hp hn hg ⟨q.ok.imp id fun h=>h.imp (fun⟨a,b,k,c⟩=>⟨a,b,k,c.mono fun _ _ ⟨_,_,_,_,h⟩=>h.elim⟩) (fun⟨a,b,d,c⟩=>⟨a,b,d,c.mono fun _ _ ⟨_,_,_,_,h⟩=>h.elim⟩)⟩ (fun _ v h' hk=>by rw[V.seq_eq] at hk; exact hk) with h|⟨_,k,⟨t,hp',hk⟩,_⟩
 ·exact h
 ·obtain⟨_,_,_,_,_,_,_,hk⟩:=hk; exact hk.elim
theorem ah.guard{dr:Bool}{f:FuncId}{args:List V}{n:Nat}{K:V->Hz->Prop}{KW:Nat->V->Hz->Prop}(q:ah P dr (some false) f args h n K KW): ∃ v,K v h:=by
 rcases q.ok with (⟨v,_,_,k⟩|⟨_,_,k⟩)|⟨h1,_⟩|⟨h1,_⟩
 ·exact⟨v,k⟩
 ·exact⟨_,k rfl⟩
 ·cases h1
 ·cases h1
theorem ab1{dr fl:Bool}{a b c:Prop}:Il dr fl a b c↔(dr=false/\a)\/(dr=true/\bif fl then c else b):=by
 cases dr<;>cases fl<;>simp[Il]
theorem xE{dr fl:Bool}{C:Bool->Prop}(q:Il dr fl (C false) (C true) (C false)):C (dr&& !fl):=by
 cases dr<;>cases fl<;>exact q
theorem YW{N pn nx n:Nat}{KK:Nat->Fm->Hz->Prop}{s:AS}{o:aT}{dr:Bool}(hl:s.fr.length=N)(hd: ∀ i,o.d=some i->i<N)(R:Rp m s.fr)(hh:s.hp=h.aj)(hp:s.pin=pn)(hn:s.nx=nx)
  (q:akJ P dr nx n o KK m h):(gv o.g s=some true/\lH o s/\(nS P (o.dr dr) n o.d o.op (Kz N pn nx (KK 0)) s\/opW P dr n o.d o.op (fun s'=> ∃ k,Kz N pn (nx+k) (KK k) s') s))\/(gv o.g s=some false/\Kz N pn nx (KK 0) (s.put o.d T.un)):=by
 unfold akJ at q;split at q
 ·exact q.elim
 ·rename_i g hg;cases hf:ML nx o m with
  |false=>rw[hf] at q; exact q.elim
  |true =>
   rw[hf] at q;simp only[bE] at q;have hfl:lH o s:=Pm R (by rw[hn]; exact hf);have un: ∀ {v:V} {h':Hz},h'=h->KK 0 (iV o.d (vS (some false) v) m) h'->Kz N pn nx (KK 0) (s.put o.d T.un):=fun {v h'} e hk=>by
    subst e;have:=Kz.put (s:=s) (v:=vS (some false) v) (t:=T.un) hl hd R hp hn (YT v).symm hk;rw[<- hh] at this;have e2:({(s.put o.d T.un) with hp:=s.hp}:AS)=s.put o.d T.un:=by
     cases o.d<;>rfl
    rw[e2] at this;exact this
   rcases abZ R hg with ⟨h1,h2⟩|⟨h1,rfl⟩
   ·refine .inl ⟨h1,hfl,?_⟩;split at q
    ·rename_i f xs eo;split at q
     ·rename_i l sd hb;obtain⟨hs,q⟩:=mY q;have ed:o.dr dr=(dr&& !o.fl):=by unfold aT.dr; rw[eo]
      rw[ed,eo];show qM P (dr&& !o.fl) n o.d f (xs.map s.ev) _ s\/(dr=false/\ ∃ k,jr P f (xs.map s.ev) s.hp n k _);rw[wH R hb (hs h2)];split at q
      ·rw[ab1] at q;rcases q with ⟨e,q⟩|q
       ·rw[e];exact(Pn (g:=none) hl hd R hh hp hn h2 q (fun e=>by cases e)).imp id fun⟨a,k,b⟩=>⟨a,k,b.mono fun _ _ hk=>⟨k,hk⟩⟩
       ·obtain⟨hdt,q⟩:=q;refine .inl (AX (g:=none) hl hd R hh hp hn h2 ?_);rw[hdt];cases hf2:o.fl<;>rw[hf2] at q<;>exact q
      ·rename_i bb _;exact .inl (AX hl hd R hh hp hn h2 (xE (C:=fun dr=>ah P dr (some bb) f l h n (fun v h'=>v.seq fun v=>KK 0 (iV o.d (vS (some bb) v) m) h') (fun _ _ _=>False)) q))
     ·exact q.elim
    ·rename_i x xs eo;split at q
     ·rename_i v0 l sd e1 hb;split at q
      ·rename_i f cap s0 hb0;obtain⟨hs,q⟩:=mY q;have hs2:=Sd.pI.1 (hs h2);have ed:o.dr dr=(dr&& !o.fl):=by unfold aT.dr; rw[eo]
       rw[ed,eo];cases h81:Nat.blt f 8192 with
       |false =>
        have h40:Nat.blt f 4096=false:=by
         cases hq:Nat.blt f 4096 with
         |false=>rfl
         |true=>rw[cF.mpr (Nat.lt_trans (cF.mp hq) (by decide))] at h81; cases h81
        rw[h40,h81] at q;right;cases dr with
        |true=>exact q.elim
        |false =>
         have q':abX P f cap l h n (fun v h'=>v.seq fun v=>KK 0 (iV o.d v m) h'):=by
          rcases h2 with rfl|rfl
          ·exact q
          ·obtain⟨qa,_⟩:=q; exact qa rfl
         refine⟨rfl,?_⟩;rw[R.ev e1,dZ hb0 hs2.1];simp only[V.aI];rw[wH R hb hs2.2,hh];refine⟨h81,q'.ok.mono ?_⟩;rintro t hp' ⟨v,h',rfl,rfl,hk⟩;rw[V.seq_eq] at hk;exact⟨0,Kz.put hl hd R hp hn rfl hk⟩
       |true =>
       left;simp only[nS];rw[R.ev e1,dZ hb0 hs2.1];simp only[V.aI];rw[wH R hb hs2.2,<- rW];cases hbl:Nat.blt f 4096 with
       |true=>rw[hbl] at q; exact AX hl hd R hh hp hn h2 (xE (C:=fun dr=>ah P dr g f (l++cap) h n (fun v h'=>v.seq fun v=>KK 0 (iV o.d (vS g v) m) h') (fun _ _ _=>False)) q)
       |false=>rw[hbl,h81] at q; refine⟨h81,?_⟩; exact AX (l:=.agg cap::l) hl hd R hh hp hn h2 (xE (C:=fun dr=>ah P dr g (f % 4096) (.agg cap::l) h n (fun v h'=>v.seq fun v=>KK 0 (iV o.d (vS g v) m) h') (fun _ _ _=>False)) q)
      ·exact q.elim
     ·exact q.elim
    ·rename_i hn1 hn2;have ed:o.dr dr=dr:=by
      unfold aT.dr;split
      ·rename_i e; exact absurd e (hn1 _ _)
      ·rename_i e; exact absurd e (hn2 _ _)
      ·rfl
     rw[ed];left;split at q
     ·rename_i v sd hq;obtain⟨hs,hk⟩:=mY q;rw[V.seq_eq] at hk;obtain⟨hqu,hc,ht⟩:=aeH R hh hq (hs h2);rw[bU hqu];refine⟨hc,?_⟩;have:=Kz.put (s:=s) (v:=vS g v) (t:=qt s o.op) hl hd R hp hn (by rw[ht]; rcases h2 with rfl|rfl; rfl; exact(Ll v).symm) hk;rw[<- hh] at this;have e2:({(s.put o.d (qt s o.op)) with hp:=s.hp}:AS)=s.put o.d (qt s o.op):=by cases o.d<;>rfl
      rw[e2] at this;exact this
     ·split at q
      ·exact SB hl hd R hh hp hn q
      ·rename_i b _;rcases h2 with h2|h2
       ·cases h2
       ·cases h2;obtain⟨qa,_⟩:=q;exact SB hl hd R hh hp hn (qa rfl)
   ·refine .inr ⟨h1,?_⟩;split at q
    ·split at q
     ·obtain⟨hs,q⟩:=mY q;obtain⟨v,hk⟩:=ah.guard (xE (C:=fun dr=>ah P dr (some false) _ _ h n (fun v h'=>v.seq fun v=>KK 0 (iV o.d (vS (some false) v) m) h') (fun _ _ _=>False)) q);rw[V.seq_eq] at hk;exact un rfl hk
     ·exact q.elim
    ·split at q
     ·rename_i v0 l sd e1 hb;split at q
      ·rename_i f cap s0 hb0;obtain⟨hs,q⟩:=mY q;cases hbl:Nat.blt f 4096 with
       |true =>
        rw[hbl] at q;obtain⟨v,hk⟩:=ah.guard (xE (C:=fun dr=>ah P dr (some false) f (l++cap) h n (fun v h'=>v.seq fun v=>KK 0 (iV o.d (vS (some false) v) m) h') (fun _ _ _=>False)) q);rw[V.seq_eq] at hk;exact un rfl hk
       |false =>
        rw[hbl] at q;cases h81:Nat.blt f 8192 with
        |false =>
         rw[h81] at q;cases dr with
         |true=>exact q.elim
         |false =>
          obtain⟨_,qb⟩:=q;exact un (v:=.int 0) rfl (qb rfl)
        |true =>
        rw[h81] at q;obtain⟨v,hk⟩:=ah.guard (xE (C:=fun dr=>ah P dr (some false) (f % 4096) (.agg cap::l) h n (fun v h'=>v.seq fun v=>KK 0 (iV o.d (vS (some false) v) m) h') (fun _ _ _=>False)) q);rw[V.seq_eq] at hk;exact un rfl hk
      ·exact q.elim
     ·exact q.elim
    ·split at q
     ·obtain⟨hs,hk⟩:=mY q;rw[V.seq_eq] at hk;exact un rfl hk
     ·obtain⟨_,qb⟩:=q;have e3:V.cnd false (phZ o.op)=vS (some false) (phZ o.op):=by cases o.op<;>rfl
      exact un (v:=phZ o.op) rfl (by rw[<- e3]; exact qb rfl)
theorem ab2{N pn nx n:Nat}{KK:Nat->Fm->Hz->Prop}{s:AS}{o:aT}{dr:Bool}(hl:s.fr.length=N)(hd: ∀ i,o.d=some i->i<N)(R:Rp m s.fr)(hh:s.hp=h.aj)(hp:s.pin=pn)(hn:s.nx=nx)
  (q:opZ P dr nx n o KK m h):(gv o.g s=some true/\lH o s/\(opR P dr n o (Kz N pn nx (KK 0)) s\/opW P dr n o.d o.op (fun s'=> ∃ k,Kz N pn (nx+k) (KK k) s') s))\/(gv o.g s=some false/\Kz N pn nx (KK 0) (s.put o.d T.un)):=by
 unfold opZ at q;cases har:o.ar with
 |true =>
  rw[har] at q;simp only at q;unfold arZ at q;split at q
  ·rename_i f xs eo eg;cases hf:(o.fl&&ML nx o m) with
   |false=>rw[hf] at q; exact q.elim
   |true =>
    rw[hf] at q;simp only[bE] at q;rw[aD] at hf;have hfl:lH o s:=Pm R (by rw[hn]; exact hf.2);refine .inl ⟨by rw[eg]; rfl,hfl,.inl (.inr ⟨har,hf.1,?_⟩)⟩;split at q
    ·rename_i l sd hb;obtain⟨hs,q⟩:=mY q;obtain⟨v,ob,c1,c2,c3,hk⟩:=q.ok;rw[eo];refine⟨v.aI,ob.map OV.au,c1,?_,?_,?_⟩
     ·intro o' ho';cases ob with
      |none=>cases ho'
      |some ob=>cases ho'; exact c2 _ rfl
     ·intro hp' he _;rw[wH R hb (hs (.inl rfl))];exact c3 hp' (by rw[<- hh]; exact he)
     ·rw[V.seq_eq] at hk;cases ob with
      |none =>
       show Kz N pn nx (KK 0) {(s.put o.d v.aI) with hp:=s.hp};rw[hh];exact Kz.put (v:=v) hl hd R hp hn rfl hk
      |some ob =>
       have e:jM s.hp n (some ob.au)=Hz.aj ((n,some ob)::h):=by rw[bI,hh]; rfl
       show Kz N pn nx (KK 0) {(s.put o.d v.aI) with hp:=jM s.hp n (some ob.au)};rw[e];exact Kz.put (v:=v) hl hd R hp hn rfl hk
    ·exact q.elim
  ·exact q.elim
 |false =>
 rw[har] at q;simp only at q;cases had:o.ad with
 |false =>
  rw[had] at q;rcases YW hl hd R hh hp hn q with ⟨h1,h2,h3⟩|h1
  ·exact .inl ⟨h1,h2,h3.imp (fun h=>.inl ⟨har,mP (fun s' _ _ h=>⟨fun e=>(by rw[had] at e; cases e),h⟩) h⟩) id⟩
  ·exact .inr h1
 |true =>
  rw[had] at q;simp only at q;unfold adZ at q;split at q
  ·rename_i f xs eo eg;cases hf:(o.fl&&ML nx o m) with
   |false=>rw[hf] at q; exact q.elim
   |true =>
    rw[hf] at q;simp only[bE] at q;rw[aD] at hf;have hfl:lH o s:=Pm R (by rw[hn]; exact hf.2);refine .inl ⟨by rw[eg]; rfl,hfl,.inl (.inl ⟨har,?_⟩)⟩;split at q
    ·rename_i l sd hb;obtain⟨hs,q⟩:=mY q;have ed:o.dr dr=false:=by unfold aT.dr; rw[eo,hf.1]; cases dr<;>rfl
     rw[ed,eo];show aP P f (xs.map s.ev) s.hp n _;rw[wH R hb (hs (.inl rfl)),hh];have hx: ∀ {h':Hz} {s':AS},s'.hp=h'.aj->(h'=h\/ ∃ o,h'=(n,some o)::h/\h.get n=none)-> ∀ i ob,s.hp i=some ob->s'.hp i=some ob:=by
      intro h' s' e1 e2 i ob hi;rw[e1];rw[hh] at hi;rcases e2 with rfl|⟨o',rfl,hn0⟩
      ·exact hi
      ·rw[bI];have hne:i≠n:=by
        rintro rfl;simp only[Hz.aj,hn0] at hi; cases hi
       simp only[upd,bB hne]; exact hi
     rcases q.ok with q|⟨_,e,_⟩|⟨_,_,hn0,q⟩
     ·refine aP.mono q ?_;rintro t hp' ⟨v,h',e1,e2,e3,hk⟩;rw[V.seq_eq] at hk;subst e2;exact⟨(fun e=>by cases e),fun _=>hx rfl (.inl (e3 rfl).1),Kz.put (v:=v) hl hd R hp hn e1 hk⟩
     ·cases e
     ·refine aP.mono q ?_;rintro t hp' ⟨v,o',e1,e2,hk⟩;rw[V.seq_eq] at hk;subst e2;exact⟨(fun e=>by cases e),fun _=>hx rfl (.inr ⟨o',rfl,hn0⟩),Kz.put (v:=v) hl hd R hp hn e1 hk⟩
    ·exact q.elim
  ·exact q.elim
theorem Wx{N pn ml:Nat}{K:Fm->Hz->Nat->Prop}{dr:Bool}: ∀ {nx:Nat} {ops:List aT} {i:Nat} {m:Fm} {h:Hz} {s:AS},Ul N ops=true->s.fr.length=N->Rp m s.fr->s.hp=h.aj->s.pin=pn->s.nx=nx ->
  Wv P dr ml nx K ops i m h->wR P dr ml (fun s=> ∃ m h,s.fr.length=N/\Rp m s.fr/\s.hp=h.aj/\s.pin=pn/\K m h s.nx) ops i s:=by
 intro nx ops;induction ops generalizing nx with
 |nil =>
  intro i m h s _ hl R hh hp hn q;exact⟨m,h,hl,R,hh,hp,by show K m h (s.nx+ml); rw[hn]; exact q⟩
 |cons o r ih =>
  intro i m h s hd hl R hh hp hn q;simp only[Ul,aD] at hd;have hd1: ∀ j,o.d=some j->j<N:=fun j e=>by
   have:=hd.1;rw[e] at this;simpa using this
  simp only[wR];rw[H8];have next: ∀ s',s'.nx=s.nx->s'.pin=s.pin->Kz N pn nx (Wv P dr ml nx K r (i+1)) s'->wR P dr ml (fun s=> ∃ m h,s.fr.length=N/\Rp m s.fr/\s.hp=h.aj/\s.pin=pn/\K m h s.nx) r (i+1) s':=by
   rintro s' _ _ ⟨m',h',a1,a2,a3,a4,a5,a6⟩;exact ih hd.2 a1 a2 a3 a4 a5 a6
  have amn: ∀ s',(∃ k,Kz N pn (nx+k) (Wv P dr ml (nx+k) K r (i+1)) s')->wR P dr ml (fun s=> ∃ m h,s.fr.length=N/\Rp m s.fr/\s.hp=h.aj/\s.pin=pn/\K m h s.nx) r (i+1) s':=by
   rintro s' ⟨k,m',h',a1,a2,a3,a4,a5,a6⟩;exact ih hd.2 a1 a2 a3 a4 a5 a6
  rcases ab2 hl hd1 R hh hp hn q with ⟨h1,h2,h3⟩|⟨h1,h2⟩
  ·refine .inl ⟨h1,h2,?_⟩;rw[hn];exact h3.imp (fun h=>h.imp (fun h=>⟨h.1,mP (fun s' a b c=>⟨c.1,next s' a b c.2⟩) h.2⟩) fun h=>⟨h.1,h.2.1,OT (fun s' a b c=>next s' a b c) h.2.2⟩) (Wh amn)
  ·exact .inr ⟨h1,next _ (fQ _ _ _) (iM _ _ _) h2⟩
theorem lQ{N pn:Nat}: ∀ {c:aC} {Q:Qz} {m:Fm} {h:Hz} {s:AS},oQ N c=true->s.fr.length=N->Rp m s.fr->s.hp=h.aj->s.pin=pn->az P N pn c Q m h s.nx->aw P c (Lift N pn Q) s:=by
 intro c;induction c with
 |skip=>intro Q m h s _ hl R hh hp q; exact⟨m,h,hl,R,hh,hp,q⟩
 |reg dr ops =>
  intro Q m h s hd hl R hh hp q;exact Wx hd hl R hh hp rfl q
 |seq a b ia ib =>
  intro Q m h s hd hl R hh hp q;simp only[oQ,aD] at hd;simp only[aw];refine kH ?_ (ia hd.1 hl R hh hp q);rintro e s' ⟨m',h',b1,b2,b3,b4,b5⟩;cases e with
  |normal=>exact ib hd.2 b1 b2 b3 b4 b5
  |exit j=>exact⟨m',h',b1,b2,b3,b4,b5⟩
  |ret=>exact⟨m',h',b1,b2,b3,b4,b5⟩
 |cond c a b ia ib =>
  intro Q m h s hd hl R hh hp q;simp only[oQ,aD] at hd;simp only[az] at q;simp only[aw];split at q
  ·rename_i t e;rw[R.ev e];obtain⟨q1,q2⟩:=q;exact⟨fun e=>ia hd.1 hl R hh hp (q1 e),fun e=>ib hd.2 hl R hh hp (q2 e)⟩
  ·exact q.elim
 |blk id b ib =>
  intro Q m h s hd hl R hh hp q;simp only[aw];refine kH ?_ (ib hd hl R hh hp q);rintro e s' ⟨m',h',b1,b2,b3,b4,b5⟩;cases e with
  |normal=>exact⟨m',h',b1,b2,b3,b4,b5⟩
  |ret=>exact⟨m',h',b1,b2,b3,b4,b5⟩
  |exit j =>
   simp only at b5 ⊢;by_cases e:j=id
   ·subst e; simp at b5 ⊢; exact⟨m',h',b1,b2,b3,b4,b5⟩
   ·have e1:Nat.beq j id=false:=by
     cases hb:Nat.beq j id with
     |false=>rfl
     |true=>exact absurd (fO hb) e
    have e2:(j==id)=false:=by simpa using e
    rw[e1] at b5; rw[e2];exact⟨m',h',b1,b2,b3,b4,b5⟩
 |exit i=>intro Q m h s _ hl R hh hp q; exact⟨m,h,hl,R,hh,hp,q⟩
 |ret=>intro Q m h s _ hl R hh hp q; exact⟨m,h,hl,R,hh,hp,q⟩
 |loop b ib =>
  intro Q m h s _ hl R hh hp q;have:=q.ok s.fr hl R;rw[<- hh,<- hp] at this;simp only[aw];rw[hp] at this;have e:(⟨s.fr,s.hp,s.nx,pn⟩:AS)=s:=by rw[<- hp]
  rw[e] at this;exact this
end
end Go.Ab
