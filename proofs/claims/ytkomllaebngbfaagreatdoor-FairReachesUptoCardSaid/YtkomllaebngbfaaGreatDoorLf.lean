/-
 The typed layer, part 1: typed values, rows, objects. Definitions alone.
-/
import Derived.Test.YtkomllaebngbfaaGreatDoorLd
import Derived.Test.YtkomllaebngbfaaGreatDoorLc
namespace Go.Ab
inductive Dat where
 |lin (x:Lin)
 |Ry (x:zJ)
 |rule (x:Rule)
 |jA (x:aN)
 |cnt (x:Cnt)
 |prop (x:Prop')
 |clause (x:Clause)
 |elem (x:Elem)
@[reducible] def ad8(l:List Bool):T:=.sl 0 false (l.map T.bool)
@[reducible] def ad9(l:List (List Int)):T:=.sl 0 false (l.map Go.Ab.ints)
inductive Rw where
 |ints (l:List Int)
 |bools (l:List Bool)
 |strs (l:List Str)
 |jr (l:List (List Int))
 |mV (l:List (List Bool))
 |mW (l:List (List (List Int)))
 |Ar (l:List Lin)
 |qG (l:List zJ)
 |rules (l:List Rule)
 |cnts (l:List Cnt)
 |clauses (l:List Clause)
 |elems (l:List Elem)
 |nil
inductive V where
 |int (n:Int)
 |bool (b:Bool)
 |u8 (n:Int)
 |str (s:Str)
 |dat (d:Dat)
 |agg (l:List V)
 |row (k:Nat) (full:Bool) (r:Rw)
 |JB (k:Nat) (full:Bool) (l:List V)
 |ref (k:Nat) (v:V)
 |own (i:Nat)
 |inn (i:Nat)
 |pin (i j off:Nat)
 |ptr (i j off:Nat)
 |kZ (i lo hi:Nat)
 |fn (f:FuncId) (cap:List V)
 |fJ (l:List V)
 |cnd (b:Bool) (v:V)
 |raw (t:T)
def Dat.aG:Dat->T
 | .lin x=>Tn x
 | .Ry x=>Qq x
 | .rule x=>LX x
 | .jA x=>acP x
 | .cnt x=>Tq x
 | .prop x=>acQ x
 | .clause x=>Hl x
 | .elem x=>dZ x
def Dat.kd:Dat->Nat
 | .lin _=>5
 | .Ry _=>7
 | .rule _=>19
 | .jA _=>11
 | .cnt _=>3
 | .prop _=>7
 | .clause _=>4
 | .elem _=>3
def Rw.bn:Rw->List T
 | .ints l=>l.map T.int
 | .bools l=>l.map T.bool
 | .strs l=>l.map eS
 | .jr l=>l.map Go.Ab.ints
 | .mV l=>l.map ad8
 | .mW l=>l.map ad9
 | .Ar l=>l.map Tn
 | .qG l=>l.map Qq
 | .rules l=>l.map LX
 | .cnts l=>l.map Tq
 | .clauses l=>l.map Hl
 | .elems l=>l.map dZ
 | .nil=>[]
mutual
def V.aG:V->T
 | .int n=>.int n
 | .bool b=>.bool b
 | .u8 n=>.lit (.int .u8 n)
 | .str s=>eS s
 | .dat d=>d.aG
 | .agg l=>.agg (V.bn l)
 | .row k f r=>.sl k f r.bn
 | .JB k f l=>.sl k f (V.bn l)
 | .ref k v=>.ref k v.aG
 | .own i=>.own i
 | .inn i=>.own i
 | .pin i j off=>.ptr i j off
 | .ptr i j off=>.ptr i j off
 | .kZ i lo hi=>.kZ i lo hi
 | .fn f cap=>.fn f (V.bn cap)
 | .fJ l=>.fJ (V.bn l)
 | .cnd b v=>bif b then v.aG else T.un
 | .raw t=>t
def V.bn:List V->List T
 |[]=>[]
 |v::r=>v.aG::V.bn r
end
def Dat.cells:Dat->List V
 | .lin x=>[.int x.c,.int x.n,.int x.t,.int x.f]
 | .Ry x=>[.int x.message,.int x.Es,.int x.bound.c,.int x.bound.n,.int x.bound.t,.int x.bound.f]
 | .rule x=>[.str x.name,.int x.kind,.int x.fr,.int x.to,.int x.gI,.int x.AO,.row 0 false (.ints x.response),.row 7 false (.qG x.guards),.row 0 false (.ints x.ex),.row 0 false (.ints x.all),.int x.read,.int x.write,.row 0 false (.ints x.send),.int x.pos,.row 0 false (.ints x.left),.row 0 false (.ints x.right),.row 0 false (.ints x.parent),.int x.direction]
 | .jA x=>[.str x.name,.int x.topology,.row 0 false (.strs x.states),.row 0 false (.strs x.messages),.row 0 false (.strs x.values),.int x.fault,.row 5 false (.Ar x.dF),.row 0 false (.ints x.initial),.row 0 false (.ints x.leader),.row 19 false (.rules x.rules)]
 | .cnt x=>[.row 0 false (.ints x.states),.int x.least]
 | .prop x=>[.str x.name,.int x.kind,.row 0 false (.ints x.start),.row 3 false (.cnts x.bad),.row 0 false (.ints x.adjacent),.row 0 false (.ints x.goal)]
 | .clause x=>[.row 0 false (.jr x.each),.row 0 false (.ints x.values),.row 0 false (.ints x.some)]
 | .elem x=>[.int x.value,.row 0 false (.ints x.counts)]
theorem Dat.FN(d:Dat):d.aG= .agg (V.bn d.cells):=by cases d<;>rfl
theorem Dat.aea(d:Dat):d.aG.kd=d.kd:=by cases d<;>rfl
def Rw.len:Rw->Nat
 | .ints l=>l.length
 | .bools l=>l.length
 | .strs l=>l.length
 | .jr l=>l.length
 | .mV l=>l.length
 | .mW l=>l.length
 | .Ar l=>l.length
 | .qG l=>l.length
 | .rules l=>l.length
 | .cnts l=>l.length
 | .clauses l=>l.length
 | .elems l=>l.length
 | .nil=>0
def Rw.lenV:Rw->V
 | .ints l=>.int l.length
 | .bools l=>.int l.length
 | .strs l=>.int l.length
 | .jr l=>.int l.length
 | .mV l=>.int l.length
 | .mW l=>.int l.length
 | .Ar l=>.int l.length
 | .qG l=>.int l.length
 | .rules l=>.int l.length
 | .cnts l=>.int l.length
 | .clauses l=>.int l.length
 | .elems l=>.int l.length
 | .nil=>.int 0
def Rw.rng(n:Int):Rw->Prop
 | .ints l=>0<=n/\n<l.length
 | .bools l=>0<=n/\n<l.length
 | .strs l=>0<=n/\n<l.length
 | .jr l=>0<=n/\n<l.length
 | .mV l=>0<=n/\n<l.length
 | .mW l=>0<=n/\n<l.length
 | .Ar l=>0<=n/\n<l.length
 | .qG l=>0<=n/\n<l.length
 | .rules l=>0<=n/\n<l.length
 | .cnts l=>0<=n/\n<l.length
 | .clauses l=>0<=n/\n<l.length
 | .elems l=>0<=n/\n<l.length
 | .nil=>False
def Rw.pq(n:Int):Rw->Prop
 | .ints l=>0<=n/\n<=l.length
 | .bools l=>0<=n/\n<=l.length
 | .strs l=>0<=n/\n<=l.length
 | .jr l=>0<=n/\n<=l.length
 | .mV l=>0<=n/\n<=l.length
 | .mW l=>0<=n/\n<=l.length
 | .Ar l=>0<=n/\n<=l.length
 | .qG l=>0<=n/\n<=l.length
 | .rules l=>0<=n/\n<=l.length
 | .cnts l=>0<=n/\n<=l.length
 | .clauses l=>0<=n/\n<=l.length
 | .elems l=>0<=n/\n<=l.length
 | .nil=>n=0
def Rw.get(i:Nat):Rw->V
 | .ints l=>.int (l.getD i 0)
 | .bools l=>.bool (l.getD i false)
 | .strs l=>.str (l.getD i [])
 | .jr l=>.row 0 false (.ints (l.getD i []))
 | .mV l=>.row 0 false (.bools (l.getD i []))
 | .mW l=>.row 0 false (.jr (l.getD i []))
 | .Ar l=>.dat (.lin (l.getD i default))
 | .qG l=>.dat (.Ry (l.getD i default))
 | .rules l=>.dat (.rule (l.getD i default))
 | .cnts l=>.dat (.cnt (l.getD i default))
 | .clauses l=>.dat (.clause (l.getD i default))
 | .elems l=>.dat (.elem (l.getD i default))
 | .nil=>.raw .any
def Rw.take(i:Nat):Rw->Rw
 | .ints l=>.ints (l.take i)
 | .bools l=>.bools (l.take i)
 | .strs l=>.strs (l.take i)
 | .jr l=>.jr (l.take i)
 | .mV l=>.mV (l.take i)
 | .mW l=>.mW (l.take i)
 | .Ar l=>.Ar (l.take i)
 | .qG l=>.qG (l.take i)
 | .rules l=>.rules (l.take i)
 | .cnts l=>.cnts (l.take i)
 | .clauses l=>.clauses (l.take i)
 | .elems l=>.elems (l.take i)
 | .nil=>.nil
def Rw.drop(i:Nat):Rw->Rw
 | .ints l=>.ints (l.drop i)
 | .bools l=>.bools (l.drop i)
 | .strs l=>.strs (l.drop i)
 | .jr l=>.jr (l.drop i)
 | .mV l=>.mV (l.drop i)
 | .mW l=>.mW (l.drop i)
 | .Ar l=>.Ar (l.drop i)
 | .qG l=>.qG (l.drop i)
 | .rules l=>.rules (l.drop i)
 | .cnts l=>.cnts (l.drop i)
 | .clauses l=>.clauses (l.drop i)
 | .elems l=>.elems (l.drop i)
 | .nil=>.nil
def Rw.app:Rw->Rw->Option Rw
 |r,.nil=>some r
 | .nil,r=>some r
 | .ints a,.ints b=>some (.ints (a++b))
 | .bools a,.bools b=>some (.bools (a++b))
 | .strs a,.strs b=>some (.strs (a++b))
 | .jr a,.jr b=>some (.jr (a++b))
 | .mV a,.mV b=>some (.mV (a++b))
 | .mW a,.mW b=>some (.mW (a++b))
 | .Ar a,.Ar b=>some (.Ar (a++b))
 | .qG a,.qG b=>some (.qG (a++b))
 | .rules a,.rules b=>some (.rules (a++b))
 | .cnts a,.cnts b=>some (.cnts (a++b))
 | .clauses a,.clauses b=>some (.clauses (a++b))
 | .elems a,.elems b=>some (.elems (a++b))
 |_,_=>none
def Rw.kd:Rw->Nat
 | .ints _=>0
 | .bools _=>0
 | .strs _=>0
 | .jr _=>0
 | .mV _=>0
 | .mW _=>0
 | .Ar _=>5
 | .qG _=>7
 | .rules _=>19
 | .cnts _=>3
 | .clauses _=>4
 | .elems _=>3
 | .nil=>0
def V.one:V->Option Rw
 | .int n=>some (.ints [n])
 | .bool b=>some (.bools [b])
 | .str s=>some (.strs [s])
 | .row 0 false (.ints l)=>some (.jr [l])
 | .row 0 false (.bools l)=>some (.mV [l])
 | .row 0 false (.jr l)=>some (.mW [l])
 | .dat (.lin x)=>some (.Ar [x])
 | .dat (.Ry x)=>some (.qG [x])
 | .dat (.rule x)=>some (.rules [x])
 | .dat (.cnt x)=>some (.cnts [x])
 | .dat (.clause x)=>some (.clauses [x])
 | .dat (.elem x)=>some (.elems [x])
 | .agg [.int a,.row 0 false (.ints c)]=>some (.elems [⟨a,c⟩])
 | .agg [.row 0 false (.ints c),.int a]=>some (.cnts [⟨c,a⟩])
 | .agg [.row 0 false (.jr e),.row 0 false (.ints v),.row 0 false (.ints s)]=>some (.clauses [⟨e,v,s⟩])
 |_=>none
def Rw.V4:List V->Option Rw
 |[]=>some .nil
 |v::r=>match v.one,Rw.V4 r with
  |some a,some b=>a.app b
  |_,_=>none
def Rw.vs:Rw->List V
 | .ints l=>l.map .int
 | .bools l=>l.map .bool
 | .strs l=>l.map .str
 | .jr l=>l.map fun c=>.row 0 false (.ints c)
 | .mV l=>l.map fun c=>.row 0 false (.bools c)
 | .mW l=>l.map fun c=>.row 0 false (.jr c)
 | .Ar l=>l.map fun c=>.dat (.lin c)
 | .qG l=>l.map fun c=>.dat (.Ry c)
 | .rules l=>l.map fun c=>.dat (.rule c)
 | .cnts l=>l.map fun c=>.dat (.cnt c)
 | .clauses l=>l.map fun c=>.dat (.clause c)
 | .elems l=>l.map fun c=>.dat (.elem c)
 | .nil=>[]
inductive OV where
 |row (ty k:Nat) (r:Rw) (x:List V)
 |box (ty k:Nat) (v:V)
 |map (ty:Nat) (es:List (Int×List Bool)) (x:List (Int×V))
 |gen (ty k:Nat) (x:List V)
def Oe(e:Int×List Bool):T:=.fJ [.int e.1,.sl 0 false (e.2.map T.bool)]
def abI(e:Int×V):T:=.fJ [.int e.1,e.2.aG]
def OV.aF:OV->Ob
 | .row ty k r x=>⟨ty,k,r.bn++V.bn x⟩
 | .box ty k v=>⟨ty,k,[v.aG]⟩
 | .map ty es x=>⟨ty,dI,es.map Oe++x.map abI⟩
 | .gen ty k x=>⟨ty,k,V.bn x⟩
abbrev Fm:=List (Nat×V)
def Fm.get(i:Nat):Fm->Option V
 |[]=>none
 |(j,v)::r=>bif Nat.beq j i then some v else Fm.get i r
abbrev Hz:=List (Nat×Option OV)
def Hz.get(i:Nat):Hz->Option OV
 |[]=>none
 |(j,o)::r=>bif Nat.beq j i then o else Hz.get i r
def Hz.ay(h:Hz):Hp:=fun i=>(h.get i).map OV.aF
mutual
def BD:T->V
 | .lit (.int .i64 n)=>.int n
 | .lit (.int .u8 n)=>.u8 n
 | .lit (.bool b)=>.bool b
 | .lit (.string b)=>.str b.data.toList
 | .sl k f []=>.row k f .nil
 | .agg l=>.agg (V4 l)
 | .fn f l=>.fn f (V4 l)
 |t=>.raw t
def V4:List T->List V
 |[]=>[]
 |t::r=>BD t::V4 r
end
def V.kd:V->Option Nat
 | .dat d=>some d.kd
 | .agg l=>some (l.length+1)
 | .cnd _ _=>none
 | .raw _=>none
 |_=>some 0
def V.cells:V->Option (List V)
 | .dat d=>some d.cells
 | .agg l=>some l
 | .cnd _ _=>none
 | .raw _=>none
 |v=>some [v]
def V.iY(h:Hz):V->Bool
 | .own i=>(h.get i).isSome
 | .ptr i _ _=>(h.get i).isSome
 | .kZ i _ _=>(h.get i).isSome
 | .cnd _ _=>false
 | .raw _=>false
 | .fJ _=>false
 | .inn _=>false
 | .pin _ _ _=>false
 |_=>true
def V.part(off:Nat):Nat->V->Option V
 |0,.dat d=>d.cells[off]?
 |0,.agg l=>l[off]?
 |k+1,.dat (.Ry x)=>bif (Nat.beq off 2)&&(Nat.beq k 4) then some (.dat (.lin x.bound)) else none
 |k+1,.agg l=>some (.agg ((l.drop off).take k))
 |_,_=>none
inductive VC(p k:Prop):Prop where
 |mk:p->k->VC p k
inductive Fork(b:Bool)(x y:Prop):Prop where
 |mk:(b=true->x)->(b=false->y)->Fork b x y
inductive Sd where
 |no
 |yes (p:Prop)
def Sd.holds:Sd->Prop
 | .no=>True
 | .yes p=>p
def Sd.and:Sd->Sd->Sd
 | .no,b=>b
 |a,.no=>a
 | .yes p,.yes q=>.yes (p/\q)
def Sd.imp(t:Bool)(b:Bool):Sd->Sd
 | .no=>.no
 | .yes p=>.yes (t=b->p)
def Sd.vc(g:Option Bool)(k:Prop):Sd->Prop
 | .no=>k
 | .yes p=>match g with
  |none=>VC p k
  |some b=>VC (b=true->p) k
def V.bare:V->V×Sd
 | .cnd c v=>(v,.yes (c=true))
 |v=>(v,.no)
mutual
def V.free:V->Bool
 | .own _=>false
 | .ptr _ _ _=>false
 | .kZ _ _ _=>false
 | .inn _=>false
 | .pin _ _ _=>false
 | .cnd _ _=>false
 | .raw t=>t.free
 | .agg l=>V.bC l
 | .fn _ l=>V.bC l
 | .fJ l=>V.bC l
 |_=>true
def V.bC:List V->Bool
 |[]=>true
 |v::r=>V.free v&&V.bC r
end
def zK(m:Fm):X->Option V
 | .t n=>m.get n
 | .c t=>some (BD t)
def evL(m:Fm):List X->Option (List V)
 |[]=>some []
 |x::r=>match zK m x,evL m r with
  |some v,some l=>some (v::l)
  |_,_=>none
abbrev zL:=Option (V×Sd)
def L9(m:Fm)(x:X)(f:V->zL):zL :=
 match zK m x with
 |some v=>match v.bare with
  |(u,s)=>match f u with
   |some (r,s')=>some (r,s.and s')
   |none=>none
 |none=>none
def qz2(m:Fm)(x y:X)(f:V->V->zL):zL:=L9 m x fun u=>L9 m y fun v=>f u v
def okI(n:Int):Prop:= -9223372036854775808<=n/\n<9223372036854775808
def agJ(a b:Int):Int:=a.fdiv (2 ^ min b.toNat 64)
def aeb(op:BinOp):V->V->zL
 | .int a,.int b=>match op with
  | .add=>some (.int (a+b),.yes (okI (a+b)))
  | .sub=>some (.int (a-b),.yes (okI (a-b)))
  | .mul=>some (.int (a*b),.yes (okI (a*b)))
  | .eql=>some (.bool (a==b),.no)
  | .neq=>some (.bool (a !=b),.no)
  | .lss=>some (.bool (decide (a<b)),.no)
  | .leq=>some (.bool (decide (a<=b)),.no)
  | .gtr=>some (.bool (decide (b<a)),.no)
  | .geq=>some (.bool (decide (b<=a)),.no)
  |_=>none
 | .u8 a,.u8 b=>match op with
  | .eql=>some (.bool (a==b),.no)
  | .neq=>some (.bool (a !=b),.no)
  | .lss=>some (.bool (decide (a<b)),.no)
  | .leq=>some (.bool (decide (a<=b)),.no)
  | .gtr=>some (.bool (decide (b<a)),.no)
  | .geq=>some (.bool (decide (b<=a)),.no)
  |_=>none
 | .str a,.str b=>match op with
  | .eql=>some (.bool (a==b),.no)
  | .neq=>some (.bool (!(a==b)),.no)
  | .add=>some (.str (a++b),.yes (a.length+b.length<=9223372036854775807))
  |_=>none
 | .raw (.lit (.int .u64 a)),.raw (.lit (.int .u64 b))=>match op with
  | .shr=>some (.raw (.lit (.int .u64 (agJ a b))),.yes (0<=b))
  | .and=>some (.raw (.lit (.int .u64 (adv .u64 a b))),.no)
  | .eql=>some (.bool (a==b),.no)
  | .geq=>some (.bool (decide (b<=a)),.no)
  |_=>none
 |_,_=>none
def Bq:X->Bool
 | .c (.lit (.bool true))=>true
 |_=>false
def yH:X->Bool
 | .c (.lit (.bool false))=>true
 |_=>false
def acY(t:Bool)(xa xb:X):V->V->Option V
 | .bool x,.bool y=>bif Bq xa then some (.bool (t||y)) else bif yH xb then some (.bool (t&&x)) else some (.bool (bif t then x else y))
 | .int x,.int y=>some (.int (bif t then x else y))
 | .str x,.str y=>some (.str (bif t then x else y))
 |_,_=>none
def Zq(t:Bool)(xa xb:X)(a b:V×Sd):zL :=
 match a,b with
 |(a,sa),(b,sb)=>match acY t xa xb a b with
  |some v=>some (v,(sa.imp t true).and (sb.imp t false))
  |none=>none
def dM{α:Type}(b:Bool)(x:Option α):Option α:=bif b then x else none
def V.TJ(k:Nat):Option V->zL
 |some u=>some (.ref k u,.no)
 |none=>none
def V.Hr:Option V->zL
 |some u=>some (u,.no)
 |none=>none
def faZ(h:Hz)(off k:Nat):V->zL
 | .ref kt v=>dM (!(Nat.beq kt 0)&&jF (bG kt) off k) (V.TJ k (v.part off k))
 | .ptr i j o=>dM (h.get i).isSome (some (.ptr i j (o+off),.no))
 |_=>none
def fvZ(off k:Nat)(v:V):zL :=
 match v.kd with
 |some kt=>dM (!(Nat.beq kt 0)&&jF (bG kt) off k) (V.Hr (v.part off k))
 |none=>none
def aec:List V->Nat->Option V
 |[],_=>none
 |v::_,0=>some v
 |_::r,n+1=>aec r n
def iaZ(h:Hz)(k:Nat):V->V->zL
 | .JB k' _ l,.int n=>match aec l n.toNat with
  |some v=>dM (Nat.beq k' k) (some (.ref k v,.yes (0<=n)))
  |none=>none
 | .row k' _ r,.int n=>dM (Nat.beq k' k) (some (.ref k (r.get n.toNat),.yes (r.rng n)))
 | .own o,.int n=>match h.get o with
  |some (.row _ k' r [])=>dM (Nat.beq k' k) (some (.ptr o n.toNat 0,.yes (r.rng n)))
  |some (.gen _ k' x)=>dM (Nat.beq k' k) (some (.ptr o n.toNat 0,.yes (0<=n/\n<x.length)))
  |_=>none
 | .kZ o lo hi,.int n=>match h.get o with
  |some (.row _ k' _ [])=>dM (Nat.beq k' k) (some (.ptr o (lo+n.toNat) 0,.yes (0<=n/\n<(hi-lo:Nat))))
  |_=>none
 |_,_=>none
def chZ:V->V->zL
 | .str s,.int n=>some (.u8 (s.getD n.toNat 0).toNat,.yes (0<=n/\n<s.length))
 | .str s,.u8 n=>some (.u8 (s.getD n.toNat 0).toNat,.yes (0<=n/\n<s.length))
 |_,_=>none
def ldB(k j off ko:Nat)(v:V):zL :=
 bif Nat.beq j 0 then(bif Nat.beq off 0&&Nat.beq ko k then some (v,.no) else dM (!(Nat.beq ko 0)&&jF (bG ko) off k) (V.Hr (v.part off k))) else none
def ldR(k j off ko:Nat)(r:Rw):zL :=
 bif Nat.beq off 0&&Nat.beq ko k then some (r.get j,.yes (r.rng j)) else
  match (r.get j).part off k with
  |some u=>dM (!(Nat.beq ko 0)&&jF (bG ko) off k) (some (u,.yes (r.rng j)))
  |none=>none
def ldZ(h:Hz)(k:Nat):V->zL
 | .ref k' v=>dM (Nat.beq k' k&&Nat.blt 0 (bG k)) (some (v,.no))
 | .ptr i j off=>match h.get i with
  |some (.box _ ko v)=>ldB k j off ko v
  |some (.row _ ko r [])=>ldR k j off ko r
  |_=>none
 |_=>none
def ncZ(h:Hz):V->zL
 | .ref k v=>some (.ref k v,.no)
 | .ptr i j o=>dM (h.get i).isSome (some (.ptr i j o,.no))
 | .fn f l=>some (.fn f l,.no)
 |_=>none
def abJ(h:Hz)(str:Bool):V->zL
 | .row _ _ r=>dM (!str) (some (r.lenV,.no))
 | .JB _ _ l=>dM (!str) (some (.int l.length,.no))
 | .str s=>dM str (some (.int s.length,.no))
 | .own o=>match h.get o with
  |some (.row _ k r x)=>dM (!str&& !(Nat.beq k dI)) (match x with|[]=>some (r.lenV,.no)|x=>some (.int (r.len+x.length),.no))
  |some (.gen _ k x)=>dM (!str&& !(Nat.beq k dI)) (some (.int x.length,.no))
  |_=>none
 | .kZ o lo hi=>dM (!str&&(h.get o).isSome) (some (.int (hi-lo:Nat),.no))
 |_=>none
def mxZ:V->V->zL
 | .int a,.int b=>some (.int (max a b),.no)
 |_,_=>none
def mnZ:V->V->zL
 | .int a,.int b=>some (.int (min a b),.no)
 |_,_=>none
def Au(m:Fm):List X->Option (List V×Sd)
 |[]=>some ([],.no)
 |x::r=>match zK m x,Au m r with
  |some v,some (l,s)=>match v.bare with|(u,s')=>some (u::l,s'.and s)
  |_,_=>none
def U4:List (Nat×Nat×X)->List V->List V->Option (List V)
 |[],[],z=>some z
 |(off,n,_)::ps,v::vs,z=>match v.cells with
  |some c=>dM (Nat.beq c.length n&&Nat.ble (off+n) z.length) (U4 ps vs (z.take off++c++z.drop (off+n)))
  |none=>none
 |_,_,_=>none
def Cc(h:Hz):List V->Bool
 |[]=>true
 |v::r=>v.iY h&&Cc h r
def mkZ(m:Fm)(h:Hz)(z:List T)(ps:List (Nat×Nat×X)):zL :=
 match Au m (ps.map fun p=>p.2.2) with
 |some (vs,s)=>match U4 ps vs (V4 z) with
  |some l=>dM (Cc h vs) (some (.agg l,s))
  |none=>none
 |none=>none
def F9(k:Nat):List V->Bool
 |[]=>true
 |v::r=>(match v.kd with|some k'=>Nat.beq k' k|none=>false)&&F9 k r
def Zr(n:Nat):List (Nat×X)->List V->List V->Option (List V)
 |[],[],z=>some z
 |(i,_)::ps,v::vs,z=>dM (Nat.blt i n) (Zr n ps vs (z.set i v))
 |_,_,_=>none
def msZ(m:Fm)(h:Hz)(k:Nat)(z:T)(n:Nat)(ps:List (Nat×X)):zL :=
 match Au m (ps.map fun p=>p.2) with
 |some (vs,s)=>match Zr n ps vs (List.replicate n (BD z)) with
  |some l=>dM ((z.kd==k)&&z.free&&F9 k vs&&Cc h vs&&V.bC vs&&Nat.ble (n*bG k) 16777216&&Nat.blt 0 (bG k))
    (match Rw.V4 l with
    |some r=>some (.row k true r,s)
    |none=>some (.JB k true l,s))
  |none=>none
 |none=>none
def kOk(k k':Nat):Rw->Bool
 | .nil=>true
 |_=>Nat.beq k' k
def JC(m:Fm):Option X->Option (Option V×Sd)
 |none=>some (none,.no)
 |some x=>match zK m x with
  |some v=>match v.bare with|(u,s)=>some (some u,s)
  |none=>none
def Zt(k k':Nat)(f:Bool)(r:Rw):Option V->Option V->Option V->zL
 |none,none,none=>dM (kOk k k' r) (some (.row k f r,.no))
 |some (.int a),none,none=>dM (kOk k k' r) (some (.row k f (r.drop a.toNat),.yes (r.pq a)))
 |none,some (.int b),none=>dM (kOk k k' r) (some (.row k (f&&decide (b=r.len)) (r.take b.toNat),.yes (r.pq b)))
 |some (.int a),some (.int b),none=>dM (kOk k k' r) (some (.row k false ((r.take b.toNat).drop a.toNat),.yes (0<=a/\a<=b/\r.pq b)))
 |none,some (.int b),some (.int c)=>dM (kOk k k' r) (some (.row k (decide (b=c)) (r.take b.toNat),.yes (0<=b/\b<=c/\r.pq c)))
 |_,_,_=>none
def Zu(k i ko:Nat)(r:Rw):Option V->Option V->Option V->zL
 |some (.int a),none,none=>dM (Nat.beq ko k) (some (.kZ i a.toNat r.len,.yes (r.pq a)))
 |none,some (.int b),none=>dM (Nat.beq ko k) (some (.kZ i 0 b.toNat,.yes (r.pq b)))
 |some (.int a),some (.int b),none=>dM (Nat.beq ko k) (some (.kZ i a.toNat b.toNat,.yes (0<=a/\a<=b/\r.pq b)))
 |_,_,_=>none
def TK(k i ko:Nat)(r:Rw)(xs:List V):Option V->Option V->Option V->zL
 |none,some (.int b),none=>dM (Nat.beq ko k) (some (.kZ i 0 b.toNat,.yes (r.pq b)))
 |lo,hi,mx=>match xs with|[]=>Zu k i ko r lo hi mx|_=>none
def slZ(h:Hz)(x:Bool)(k:Nat)(v:V)(lo hi mx:Option V):zL :=
 match v with
 | .row k' f r=>Zt k k' f r lo hi mx
 | .own i=>bif x then(match h.get i with
  |some (.row _ ko r xs)=>TK k i ko r xs lo hi mx
  |_=>none) else none
 |_=>none
def slX(m:Fm)(h:Hz)(b:Bool)(k:Nat)(x:X)(lo hi mx:Option X):zL :=
 L9 m x fun v=>match JC m lo,JC m hi,JC m mx with
  |some (lo,s1),some (hi,s2),some (mx,s3)=>match slZ h b k v lo hi mx with
   |some (u,s)=>some (u,s1.and (s2.and (s3.and s)))
   |none=>none
  |_,_,_=>none
def ssZ(s:Str):Option V->Option V->zL
 |some (.int a),none=>some (.str (s.drop a.toNat),.yes (0<=a/\a<=s.length))
 |none,some (.int b)=>some (.str (s.take b.toNat),.yes (0<=b/\b<=s.length))
 |some (.int a),some (.int b)=>some (.str ((s.take b.toNat).drop a.toNat),.yes (0<=a/\a<=b/\b<=s.length))
 |_,_=>none
def ssX(m:Fm)(x:X)(lo hi:Option X):zL :=
 L9 m x fun v=>match v,JC m lo,JC m hi with
  | .str s,some (lo,s1),some (hi,s2)=>match ssZ s lo hi with
   |some (u,s)=>some (u,s1.and (s2.and s))
   |none=>none
  |_,_,_=>none
def exZ(i:Nat):V->zL
 | .fJ l=>match l[i]? with|some v=>some (v,.no)|none=>none
 |_=>none
def aed(ne:Bool)(n:Nat):V->V->zL
 | .dat (.lin x),.dat (.lin y)=>dM (Nat.beq n 4) (some (.bool (bif ne then !(x==y) else x==y),.no))
 | .dat (.Ry x),.dat (.Ry y)=>dM (Nat.beq n 6) (some (.bool (bif ne then !(x==y) else x==y),.no))
 |_,_=>none
def Gt(n:Int):List (Int×List Bool)->Option (List Bool)
 |[]=>none
 |(m,v)::r=>bif n==m then some v else Gt n r
def mfZ(m:Fm)(h:Hz)(f:FuncId)(cap:List X):zL :=
 match Au m cap with
 |some (l,s)=>dM (Cc h l&&F9 0 l&&Nat.blt f 4096) (some (.fn f l,s))
 |none=>none
def mbZ(f:FuncId):V->zL
 | .agg l=>dM (Nat.blt f 4096) (some (.fn (f+4096) l,.no))
 | .dat d=>dM (Nat.blt f 4096) (some (.fn (f+4096) d.cells,.no))
 |_=>none
def aee:V->zL
 | .row _ true r=>some (r.lenV,.no)
 |_=>none
def saZ(n:Nat):V->zL
 | .ref k (.agg l)=>match Rw.V4 l with
  |some r=>dM (Nat.beq k (n+1)&&Nat.beq l.length n&&Nat.blt 0 n) (some (.row 0 true r,.no))
  |none=>none
 |_=>none
def qz(m:Fm)(h:Hz):lF->zL
 | .mv x=>match zK m x with|some v=>some (v,.no)|none=>none
 | .pick c a b=>L9 m c fun c=>match c,zK m a,zK m b with
  | .bool t,some va,some vb=>Zq t a b va.bare vb.bare
  |_,_,_=>none
 | .bin op x y=>qz2 m x y (aeb op)
 | .bb ne x y=>qz2 m x y fun x y=>match x,y with
  | .bool a,.bool b=>some (.bool (bif ne then !(a==b) else a==b),.no)
  |_,_=>none
 | .not x=>L9 m x fun v=>match v with| .bool b=>some (.bool !b,.no)|_=>none
 | .conv .i64 x=>L9 m x fun v=>match v with
  | .int n=>some (.int n,.yes (okI n))
  | .u8 n=>some (.int n,.yes (okI n))
  | .raw (.lit (.int .u64 n))=>some (.int n,.yes (okI n))
  |_=>none
 | .conv .u64 x=>L9 m x fun v=>match v with
  | .int n=>some (.raw (.lit (.int .u64 n)),.yes (0<=n/\n<18446744073709551616))
  |_=>none
 | .conv .u8 x=>L9 m x fun v=>match v with
  | .raw (.lit (.int .u64 n))=>some (.u8 n,.yes (0<=n/\n<256))
  |_=>none
 | .fa off k x=>L9 m x (faZ h off k)
 | .fv off k x=>L9 m x (fvZ off k)
 | .ia k x i=>qz2 m x i (iaZ h k)
 | .ch x i=>qz2 m x i chZ
 | .ld k x=>L9 m x (ldZ h k)
 | .nc x=>L9 m x (ncZ h)
 | .len s x=>L9 m x (abJ h s)
 | .mx x y=>qz2 m x y mxZ
 | .mn x y=>qz2 m x y mnZ
 | .mk z ps=>mkZ m h z ps
 | .ms _ k z n ps=>msZ m h k z n ps
 | .sl k x lo hi mx=>slX m h false k x lo hi mx
 | .Rx k x lo hi mx=>slX m h true k x lo hi mx
 | .ss x lo hi=>ssX m x lo hi
 | .ex x i=>L9 m x (exZ i)
 | .mf f cap=>mfZ m h f cap
 | .eqs ne n x y=>qz2 m x y (aed ne n)
 | .IL x=>L9 m x aee
 | .mb f x=>L9 m x (mbZ f)
 | .sa n x=>L9 m x (saZ n)
 |_=>none
theorem acZ(b:ByteArray):eS b.data.toList= .lit (.string b):=by
 unfold eS bs; simp
mutual
theorem wR:(t:T)->(BD t).aG=t
 | .lit v=>by
  cases v with
  |int k n=>cases k<;>simp[BD,V.aG]
  |bool b=>simp[BD,V.aG]
  |string b=>simp only[BD,V.aG]; exact acZ b
  |_=>simp[BD,V.aG]
 | .agg l=>by simp only[BD,V.aG]; rw[zx l]
 | .sl k f l=>by cases l<;>simp[BD,V.aG,Rw.bn]
 | .ref k t=>by simp[BD,V.aG]
 | .own i=>by simp[BD,V.aG]
 | .ptr i j k=>by simp[BD,V.aG]
 | .kZ i j k=>by simp[BD,V.aG]
 | .fn f l=>by simp only[BD,V.aG]; rw[zx l]
 | .fJ l=>by simp[BD,V.aG]
 | .any=>by simp[BD,V.aG]
theorem zx:(l:List T)->V.bn (V4 l)=l
 |[]=>rfl
 |t::r=>by simp only[V4,V.bn]; rw[wR t,zx r]
end
theorem jk(l:List V):V.bn l=l.map V.aG:=by
 induction l with
 |nil=>rfl
 |cons v r ih=>simp[V.bn,ih]
theorem fD(l:List V):(V.bn l).length=l.length:=by rw[jk]; simp
theorem wo(a b:List V):V.bn (a++b)=V.bn a++V.bn b:=by simp[jk]
theorem JD(a:List V)(n:Nat):V.bn (a.take n)=(V.bn a).take n:=by simp[jk]
theorem JE(a:List V)(n:Nat):V.bn (a.drop n)=(V.bn a).drop n:=by simp[jk]
def Rp(m:Fm)(fr:List T):Prop:= ∀ i v,m.get i=some v->fr[i]? =some v.aG
theorem Rp.getD{m:Fm}{fr:List T}(R:Rp m fr){i:Nat}{v:V}{d:T}(h:m.get i=some v):fr.getD i d=v.aG:=by
 rw[List.getD_eq_getElem?_getD,R i v h]; rfl
theorem Rp.ev{m:Fm}{s:AS}(R:Rp m s.fr){x:X}{v:V}(h:zK m x=some v):s.ev x=v.aG:=by
 cases x with
 |t n=>exact R.getD h
 |c t=>simp only[zK,Option.some.injEq] at h; subst h; exact(wR t).symm
theorem dW{v u:V}{s:Sd}(h:v.bare=(u,s))(hs:s.holds):v.aG=u.aG:=by
 unfold V.bare at h
 split at h
 ·cases h; simp only[Sd.holds] at hs; simp[V.aG,hs]
 ·cases h; rfl
theorem Sd.lI{a b:Sd}:(a.and b).holds↔a.holds/\b.holds:=by cases a<;>cases b<;>simp[Sd.and,Sd.holds]
theorem Sd.Mc{t b:Bool}{s:Sd}:(s.imp t b).holds↔(t=b->s.holds):=by cases s<;>simp[Sd.imp,Sd.holds]
theorem kD{m:Fm}{s:AS}(R:Rp m s.fr){x:X}{f:V->zL}{r:V}{sd:Sd}(h:L9 m x f=some (r,sd))(hs:sd.holds): ∃ u s',f u=some (r,s')/\s'.holds/\s.ev x=u.aG:=by
 unfold L9 at h
 split at h
 ·rename_i v hv
  split at h
  rename_i u s0 hb
  split at h
  ·rename_i r' s' hf
   cases h
   rw[Sd.lI] at hs
   exact⟨u,s',hf,hs.2,by rw[R.ev hv,dW hb hs.1]⟩
  ·cases h
 ·cases h
theorem zy{m:Fm}{s:AS}(R:Rp m s.fr){x y:X}{f:V->V->zL}{r:V}{sd:Sd}(h:qz2 m x y f=some (r,sd))(hs:sd.holds): ∃ u v s',f u v=some (r,s')/\s'.holds/\s.ev x=u.aG/\s.ev y=v.aG:=by
 obtain⟨u,s',h1,h2,h3⟩:=kD R h hs
 obtain⟨v,s'',h4,h5,h6⟩:=kD R h1 h2
 exact⟨u,v,s'',h4,h5,h3,h6⟩
theorem aP{α:Type}{b:Bool}{x:Option α}{y:α}(h:dM b x=some y):b=true/\x=some y:=by
 cases b<;>simp[dM] at h; exact⟨rfl,h⟩
theorem afF{n:Int}(h1:0<=n)(h2:n<18446744073709551616):IntKind.u64.wrap n=n:=by
 have e:IntKind.u64.wrap n=(if(false&&decide (n % 18446744073709551616>=9223372036854775808))=true then n % 18446744073709551616-18446744073709551616 else n % 18446744073709551616):=rfl
 rw[e]
 simp only[Bool.false_and,Bool.false_eq_true,if_false]
 omega
theorem aef{n:Int}(h1:0<=n)(h2:n<256):IntKind.u8.wrap n=n:=by
 have e:IntKind.u8.wrap n=(if(false&&decide (n % 256>=128))=true then n % 256-256 else n % 256):=rfl
 rw[e]
 simp only[Bool.false_and,Bool.false_eq_true,if_false]
 omega
theorem U5{n:Int}(h:okI n):IntKind.i64.wrap n=n:=wrap64 h.1 h.2
theorem Rw.dR(r:Rw):r.bn.length=r.len:=by cases r<;>simp[Rw.bn,Rw.len]
theorem Rw.Og(r:Rw):r.lenV= .int r.len:=by cases r<;>rfl
theorem Rw.zA{n:Int}{r:Rw}:r.rng n↔(0<=n/\n<r.len):=by cases r<;>simp[Rw.rng,Rw.len]<;>omega
theorem Rw.tV{n:Int}{r:Rw}:r.pq n↔(0<=n/\n<=r.len):=by cases r<;>simp[Rw.pq,Rw.len]<;>omega
theorem getD_map'{α:Type}{f:α->T}{l:List α}{i:Nat}{d:α}(h:i<l.length):(l.map f).getD i .any=f (l.getD i d):=by
 simp[List.getD_eq_getElem?_getD,h]
theorem Rw.Oh{r:Rw}{i:Nat}(h:i<r.len):r.bn.getD i .any=(r.get i).aG:=by
 cases r<;>simp only[Rw.len] at h<;>simp only[Rw.bn,Rw.get,V.aG,Dat.aG,Rw.bn]<;>first|exact getD_map' h|omega
theorem Rw.Aw(r:Rw)(n:Nat):(r.take n).bn=r.bn.take n:=by cases r<;>simp[Rw.take,Rw.bn]
theorem Rw.QD(r:Rw)(n:Nat):(r.drop n).bn=r.bn.drop n:=by cases r<;>simp[Rw.drop,Rw.bn]
theorem Rw.RN(r:Rw):V.bn r.vs=r.bn:=by
 rw[jk]
 cases r<;>simp[Rw.vs,Rw.bn,V.aG,Dat.aG]
theorem Rw.XZ(r:Rw):r.vs.length=r.len:=by cases r<;>simp[Rw.vs,Rw.len]
theorem Rw.Ht{a b c:Rw}(h:a.app b=some c):c.bn=a.bn++b.bn:=by
 unfold Rw.app at h
 split at h<;>first|(cases h; done)|(cases h; simp[Rw.bn])
theorem Rw.XP(r:Rw)(n:Nat):(r.take n).len=min n r.len:=by rw[<- Rw.dR,Rw.Aw,List.length_take,Rw.dR]
theorem V.abK{v:V}{r:Rw}(h:v.one=some r):r.bn=[v.aG]:=by
 unfold V.one at h
 split at h<;>first|(cases h; done)|(cases h; simp[Rw.bn,V.aG,V.bn,Dat.aG,dZ,Tq,Hl])
theorem Rw.zx: ∀ {l:List V} {r:Rw},Rw.V4 l=some r->r.bn=V.bn l:=by
 intro l
 induction l with
 |nil=>intro r h; cases h; rfl
 |cons v l ih =>
  intro r h
  simp only[Rw.V4] at h
  split at h
  ·rename_i a b h1 h2
   rw[Rw.Ht h,V.abK h1,ih h2]; rfl
  ·cases h
theorem V.Oi{v:V}{k:Nat}(h:v.kd=some k):v.aG.kd=k:=by
 cases v with
 |dat d=>cases h; exact Dat.aea d
 |_=>simp only[V.kd,Option.some.injEq,reduceCtorEq] at h<;>subst h<;>simp[V.aG,T.kd,eS,fD]
theorem V.FP{v:V}{l:List V}(h:v.cells=some l):v.aG.cells=V.bn l:=by
 cases v<;>simp only[V.cells,Option.some.injEq,reduceCtorEq] at h<;>subst h<;>simp[V.aG,Dat.FN,T.cells,eS,V.bn]
theorem Hz.yJ{h:Hz}{i:Nat}:(h.ay i).isSome=(h.get i).isSome:=by simp[Hz.ay]
theorem V.qU{h:Hz}{v:V}(hv:v.iY h=true):v.aG.iY h.ay=true:=by
 cases v<;>simp only[V.iY,Bool.false_eq_true] at hv<;>simp[V.aG,T.iY,T.wC,eS,Value.oneCell',Hz.yJ,hv]
 rename_i d
 cases d<;>rfl
theorem V.Zv{h:Hz}{v:V}(hv:v.iY h=true)(hk:v.kd=some 0):v.aG.wC h.ay=true:=by
 cases v<;>simp only[V.iY,Bool.false_eq_true] at hv<;>simp only[V.kd,Option.some.injEq,Nat.succ_ne_zero] at hk<;>simp[V.aG,T.wC,eS,Value.oneCell',Hz.yJ,hv]
 rename_i d
 cases d<;>cases hk
theorem Dat.free(d:Dat):d.aG.free=true:=by cases d<;>rfl
mutual
theorem V.qK:(v:V)->v.free=true->v.aG.free=true
 | .int _,_=>by simp[V.aG,T.free]
 | .bool _,_=>by simp[V.aG,T.free]
 | .u8 _,_=>by simp[V.aG,T.free]
 | .str _,_=>by simp[V.aG,T.free,eS]
 | .dat d,_=>by simp only[V.aG]; exact d.free
 | .agg l,h=>by simp only[V.aG,T.free]; simp only[V.free] at h; exact V.lD l h
 | .row _ _ _,_=>by simp[V.aG,T.free]
 | .JB _ _ _,_=>by simp[V.aG,T.free]
 | .ref _ _,_=>by simp[V.aG,T.free]
 | .own _,h=>by simp[V.free] at h
 | .inn _,h=>by simp[V.free] at h
 | .pin _ _ _,h=>by simp[V.free] at h
 | .ptr _ _ _,h=>by simp[V.free] at h
 | .kZ _ _ _,h=>by simp[V.free] at h
 | .fn _ l,h=>by simp only[V.aG,T.free]; simp only[V.free] at h; exact V.lD l h
 | .fJ l,h=>by simp only[V.aG,T.free]; simp only[V.free] at h; exact V.lD l h
 | .cnd _ _,h=>by simp[V.free] at h
 | .raw t,h=>by simp only[V.aG]; simpa only[V.free] using h
theorem V.lD:(l:List V)->V.bC l=true->T.bC (V.bn l)=true
 |[],_=>by simp[V.bn,T.bC]
 |v::r,h=>by
  simp only[V.bC,Bool.and_eq_true] at h
  simp only[V.bn,T.bC,Bool.and_eq_true]
  exact⟨V.qK v h.1,V.lD r h.2⟩
end
theorem wS{l:List V}{i:Nat}{u:V}(h:l[i]? =some u):(V.bn l).getD i .any=u.aG:=by
 rw[jk,List.getD_eq_getElem?_getD,List.getElem?_map,h]; rfl
theorem V.EC{off k:Nat}{v u:V}(h:v.part off k=some u):v.aG.part off k=u.aG:=by
 unfold V.part at h
 split at h
 ·simp only[V.aG,Dat.FN,T.part,T.cells]; exact wS h
 ·simp only[V.aG,T.part,T.cells]; exact wS h
 ·rename_i k x
  cases hb:(Nat.beq off 2)&&(Nat.beq k 4) with
  |false=>rw[hb] at h; cases h
  |true =>
   rw[hb] at h
   simp only[Bool.and_eq_true,Nat.beq_eq] at hb
   obtain⟨rfl,rfl⟩:=hb
   cases h; rfl
 ·cases h
  simp only[V.aG,T.part,T.cells,JD,JE]
 ·cases h
theorem iQ{a b:Nat}(h:Nat.beq a b=true):a=b:=Nat.eq_of_beq_eq_true h
section
variable {m:Fm} {h:Hz} {s:AS}
def Ok(s:AS)(op:lF)(v:V):Prop:=qc s op/\qt s op=v.aG
theorem abL{op:BinOp}{x y:X}{u v r:V}{sd:Sd}(q:aeb op u v=some (r,sd))(hs:sd.holds)(h1:s.ev x=u.aG)(h2:s.ev y=v.aG):Ok s (.bin op x y) r:=by
 unfold Ok; simp only[qc,qt]; rw[h1,h2]
 unfold aeb at q
 split at q
 ·rename_i a b
  split at q<;>first|(cases q; done)|(cases q; simp only[Sd.holds] at hs; simp[V.aG,yX,kEq,U5,hs])
 ·split at q<;>first|(cases q; done)|(cases q; simp[V.aG,yX,kEq])
 ·split at q
  ·cases q; simp[V.aG,yX,eS,Bg]
  ·cases q; simp[V.aG,yX,eS,Bg]
  ·rename_i a b _
   cases q
   simp only[Sd.holds] at hs
   have hsz:(((bs a).size+(bs b).size:Nat):Int)<=9223372036854775807:=by
    have e1:(bs a).size=a.length:=by simp[bs,ByteArray.size]
    have e2:(bs b).size=b.length:=by simp[bs,ByteArray.size]
    rw[e1,e2]; exact Int.ofNat_le.2 hs
   have hap:bs a++bs b=bs (a++b):=by apply ByteArray.ext; simp[bs]
   have hsz2:((bs a).size:Int)+(bs b).size<=9223372036854775807:=by omega
   simp[V.aG,yX,eS,hsz2,hap]
  ·cases q
 ·split at q
  ·cases q
   simp only[Sd.holds] at hs
   refine⟨?_,?_⟩
   ·simp only[V.aG,yX,hs,decide_true,cond_true,Option.isSome]
   ·simp only[V.aG,yX,hs,decide_true,cond_true]; rfl
  ·cases q; simp[V.aG,yX,kEq]
  ·cases q; simp[V.aG,yX,kEq]
  ·cases q; simp[V.aG,yX,kEq]
  ·cases q
 ·cases q
theorem TL{x:X}(hx:Bq x=true):x= .c (.lit (.bool true)):=by
 unfold Bq at hx
 split at hx
 ·rfl
 ·cases hx
theorem QE{x:X}(hx:yH x=true):x= .c (.lit (.bool false)):=by
 unfold yH at hx
 split at hx
 ·rfl
 ·cases hx
theorem Zw{c xa xb:X}{t:Bool}{va vb r:V}{sd:Sd}(R:Rp m s.fr)(ha:zK m xa=some va)(hb:zK m xb=some vb)(q:Zq t xa xb va.bare vb.bare=some (r,sd))(hs:sd.holds)(hc:s.ev c= .lit (.bool t)):Ok s (.pick c xa xb) r:=by
 unfold Ok; simp only[qc,qt]; rw[hc]
 refine⟨rfl,?_⟩
 unfold Zq at q
 split at q
 rename_i a sa b sb ea eb
 split at q
 ·rename_i v hp
  cases q
  rw[Sd.lI,Sd.Mc,Sd.Mc] at hs
  have h1:t=true->s.ev xa=a.aG:=fun e=>by rw[R.ev ha,dW ea (hs.1 e)]
  have h2:t=false->s.ev xb=b.aG:=fun e=>by rw[R.ev hb,dW eb (hs.2 e)]
  unfold acY at hp
  split at hp
  ·rename_i x y
   have hp':r= .bool (bif Bq xa then t||y else bif yH xb then t&&x else bif t then x else y):=by
    cases e1:Bq xa<;>cases e2:yH xb<;>simp[e1,e2] at hp ⊢ <;>exact hp.symm
   subst hp'
   have key:xX (.lit (.bool t)) (s.ev xa) (s.ev xb)= .lit (.bool (bif t then x else y)):=by
    cases t with
    |true =>
     rw[h1 rfl]; simp only[V.aG,xX]
     split<;>simp_all
    |false =>
     rw[h2 rfl]; simp only[V.aG,xX]
     split<;>simp_all
   rw[key]
   simp only[V.aG]
   congr 2
   cases e1:Bq xa with
   |true =>
    have:=TL e1; subst this
    simp only[zK,Option.some.injEq] at ha; subst ha
    simp only[BD,V.bare,Prod.mk.injEq] at ea
    have:=ea.1; cases this
    cases t<;>rfl
   |false =>
    cases e2:yH xb with
    |true =>
     have:=QE e2; subst this
     simp only[zK,Option.some.injEq] at hb; subst hb
     simp only[BD,V.bare,Prod.mk.injEq] at eb
     have:=eb.1; cases this
     cases t<;>simp
    |false=>rfl
  ·cases hp
   cases t with
   |true=>rw[h1 rfl]; simp only[V.aG,xX,cond_true]
   |false=>rw[h2 rfl]; simp only[V.aG,xX,cond_false]; split<;>simp_all
  ·cases hp
   cases t with
   |true=>rw[h1 rfl]; simp only[V.aG,xX,cond_true,eS]
   |false=>rw[h2 rfl]; simp only[V.aG,xX,cond_false,eS]; split<;>simp_all
  ·cases hp
 ·cases q
theorem TM{k:Nat}{p:Option V}{r:V}{sd:Sd}(q:V.TJ k p=some (r,sd)): ∃ u,p=some u/\r= .ref k u:=by
 unfold V.TJ at q
 split at q
 ·cases q; exact⟨_,rfl,rfl⟩
 ·cases q
theorem Gu{p:Option V}{r:V}{sd:Sd}(q:V.Hr p=some (r,sd)):p=some r:=by
 unfold V.Hr at q
 split at q
 ·cases q; rfl
 ·cases q
theorem Zx{k:Nat}(h:(!(Nat.beq k 0))=true):(!(k==0))=true:=by
 cases k<;>simp_all
theorem aeg(hh:s.hp=h.ay){off k:Nat}{x:X}{u r:V}{sd:Sd}(q:faZ h off k u=some (r,sd))(h1:s.ev x=u.aG):Ok s (.fa off k x) r:=by
 unfold Ok; simp only[qc,qt]; rw[h1]
 unfold faZ at q
 split at q
 ·obtain⟨g,q⟩:=aP q
  obtain⟨u,e,rfl⟩:=TM q
  simp only[Bool.and_eq_true] at g
  simp only[V.aG,V.EC e,Bool.and_eq_true]
  exact⟨⟨Zx g.1,g.2⟩,trivial⟩
 ·obtain⟨g,q⟩:=aP q
  cases q
  simp only[V.aG,hh,Hz.yJ,g,and_self]
 ·cases q
theorem aeh{off k:Nat}{x:X}{u r:V}{sd:Sd}(q:fvZ off k u=some (r,sd))(h1:s.ev x=u.aG):Ok s (.fv off k x) r:=by
 unfold Ok; simp only[qc,qt]; rw[h1]
 unfold fvZ at q
 split at q
 ·rename_i kt hk
  obtain⟨g,q⟩:=aP q
  rw[V.Oi hk,V.EC (Gu q)]
  simp only[Bool.and_eq_true] at g ⊢
  exact⟨⟨Zx g.1,g.2⟩,trivial⟩
 ·cases q
theorem aV{i:Nat}{o:OV}(e:h.get i=some o):h.ay i=some o.aF:=by simp[Hz.ay,e]
theorem abM: ∀ {l:List V} {i:Nat} {v:V},aec l i=some v->i<l.length/\(V.bn l).getD i .any=v.aG:=by
 intro l
 induction l with
 |nil=>intro i v h; cases h
 |cons u r ih =>
  intro i v h
  cases i with
  |zero=>cases h; exact⟨Nat.succ_pos _,rfl⟩
  |succ i =>
   obtain⟨a,b⟩:=ih h
   exact⟨Nat.succ_lt_succ a,by simpa [V.bn] using b⟩
theorem Zy(hh:s.hp=h.ay){k:Nat}{x i:X}{u v r:V}{sd:Sd}(q:iaZ h k u v=some (r,sd))(hs:sd.holds)(h1:s.ev x=u.aG)(h2:s.ev i=v.aG):Ok s (.ia k x i) r:=by
 unfold Ok; simp only[qc,qt]; rw[h1,h2]
 unfold iaZ at q
 split at q
 ·rename_i k' f l n
  split at q
  ·rename_i v hv
   obtain⟨g,q⟩:=aP q
   cases q
   have:=iQ g; subst this
   simp only[Sd.holds] at hs
   obtain⟨a,b⟩:=abM hv
   simp only[V.aG,XB,fD]
   exact⟨⟨trivial,hs,by omega⟩,by rw[b]⟩
  ·cases q
 ·rename_i k' f w n
  obtain⟨g,q⟩:=aP q
  cases q
  have:=iQ g; subst this
  simp only[Sd.holds,Rw.zA] at hs
  simp only[V.aG,XB,Rw.dR]
  refine⟨⟨trivial,hs⟩,?_⟩
  rw[Rw.Oh (by omega)]
 ·rename_i o n
  split at q
  ·rename_i ty k' w e
   obtain⟨g,q⟩:=aP q
   cases q
   have:=iQ g; subst this
   simp only[Sd.holds,Rw.zA] at hs
   simp only[V.aG,hh,aV e,OV.aF,V.bn,List.append_nil,XB,Rw.dR]
   exact⟨⟨trivial,hs⟩,trivial⟩
  ·rename_i ty k' x e
   obtain⟨g,q⟩:=aP q
   cases q
   have:=iQ g; subst this
   simp only[Sd.holds] at hs
   simp only[V.aG,hh,aV e,OV.aF,XB,fD]
   exact⟨⟨trivial,hs⟩,trivial⟩
  ·cases q
 ·rename_i o lo hi n
  split at q
  ·rename_i ty k' w e
   obtain⟨g,q⟩:=aP q
   cases q
   have:=iQ g; subst this
   simp only[Sd.holds] at hs
   simp only[V.aG,hh,aV e,OV.aF,XB]
   exact⟨⟨trivial,hs⟩,trivial⟩
  ·cases q
 ·cases q
theorem aei{x i:X}{u v r:V}{sd:Sd}(q:chZ u v=some (r,sd))(hs:sd.holds)(h1:s.ev x=u.aG)(h2:s.ev i=v.aG):Ok s (.ch x i) r:=by
 unfold Ok; simp only[qc,qt]; rw[h1,h2]
 unfold chZ at q
 split at q
 ·cases q
  simp only[Sd.holds] at hs
  simp only[V.aG,eS,XB,zi,YV]
  exact⟨hs,trivial⟩
 ·cases q
  simp only[Sd.holds] at hs
  simp only[V.aG,eS,XB,zi,YV]
  exact⟨hs,trivial⟩
 ·cases q
theorem TN(hh:s.hp=h.ay){k:Nat}{x:X}{u r:V}{sd:Sd}(q:ldZ h k u=some (r,sd))(hs:sd.holds)(h1:s.ev x=u.aG):Ok s (.ld k x) r:=by
 unfold Ok; simp only[qc,qt]; rw[h1]
 unfold ldZ at q
 split at q
 ·obtain⟨g,q⟩:=aP q
  cases q
  simp only[Bool.and_eq_true] at g
  have:=iQ g.1; subst this
  simp[V.aG,g.2]
 ·rename_i i j off
  split at q
  ·rename_i ty ko v e
   simp only[V.aG,hh,aV e,OV.aF]
   unfold ldB at q
   cases hj:Nat.beq j 0 with
   |false=>rw[hj] at q; cases q
   |true =>
    have:=iQ hj; subst this
    rw[hj] at q
    simp only[cond_true] at q
    cases hb:(Nat.beq off 0&&Nat.beq ko k) with
    |true =>
     rw[hb] at q; cases q
     simp only[Bool.and_eq_true] at hb
     have e1:=iQ hb.1; have e2:=iQ hb.2; subst e1; subst e2
     simp
    |false =>
     rw[hb] at q
     simp only[cond_false] at q
     obtain⟨g,q⟩:=aP q
     have hb':(off==0&&ko==k)=false:=by
      rw[Bool.and_eq_false_iff] at hb ⊢
      rcases hb with hb|hb
      ·left; simpa using Nat.ne_of_beq_eq_false hb
      ·right; simpa using Nat.ne_of_beq_eq_false hb
     simp only[hb',cond_false,Bool.false_or,List.getD_cons_zero,V.EC (Gu q),List.length_cons,List.length_nil]
     simp only[Bool.and_eq_true] at g ⊢
     exact⟨⟨by omega,Zx g.1,g.2⟩,trivial⟩
  ·rename_i ty ko w e
   simp only[V.aG,hh,aV e,OV.aF,V.bn,List.append_nil]
   unfold ldR at q
   cases hb:(Nat.beq off 0&&Nat.beq ko k) with
   |true =>
    rw[hb] at q; cases q
    simp only[Bool.and_eq_true] at hb
    have e1:=iQ hb.1; have e2:=iQ hb.2; subst e1; subst e2
    simp only[Sd.holds,Rw.zA] at hs
    have hlt:j<w.len:=by omega
    simp only[BEq.rfl,Bool.and_self,Bool.true_or,cond_true,Rw.dR,Rw.Oh hlt]
    exact⟨⟨hlt,trivial⟩,trivial⟩
   |false =>
    rw[hb] at q
    simp only[cond_false] at q
    split at q
    ·rename_i u hu
     obtain⟨g,q⟩:=aP q
     cases q
     have hb':(off==0&&ko==k)=false:=by
      rw[Bool.and_eq_false_iff] at hb ⊢
      rcases hb with hb|hb
      ·left; simpa using Nat.ne_of_beq_eq_false hb
      ·right; simpa using Nat.ne_of_beq_eq_false hb
     simp only[Sd.holds,Rw.zA] at hs
     have hlt:j<w.len:=by omega
     simp only[hb',cond_false,Bool.false_or,Rw.dR,Rw.Oh hlt,V.EC hu]
     simp only[Bool.and_eq_true] at g ⊢
     exact⟨⟨hlt,Zx g.1,g.2⟩,trivial⟩
    ·cases q
  ·cases q
 ·cases q
theorem aej(hh:s.hp=h.ay){x:X}{u r:V}{sd:Sd}(q:ncZ h u=some (r,sd))(h1:s.ev x=u.aG):Ok s (.nc x) r:=by
 unfold Ok; simp only[qc,qt]; rw[h1]
 unfold ncZ at q
 split at q
 ·cases q; simp[V.aG]
 ·obtain⟨g,q⟩:=aP q; cases q; simp[V.aG,hh,Hz.yJ,g]
 ·cases q; simp[V.aG]
 ·cases q
theorem U6(hh:s.hp=h.ay){str:Bool}{x:X}{u r:V}{sd:Sd}(q:abJ h str u=some (r,sd))(h1:s.ev x=u.aG):Ok s (.len str x) r:=by
 unfold Ok; simp only[qc,qt]; rw[h1]
 unfold abJ at q
 split at q
 ·obtain⟨g,q⟩:=aP q; cases q
  simp only[Bool.not_eq_true'] at g
  simp[V.aG,Rw.Og,Rw.dR,g]
 ·obtain⟨g,q⟩:=aP q; cases q
  simp only[Bool.not_eq_true'] at g
  simp[V.aG,fD,g]
 ·obtain⟨g,q⟩:=aP q; cases q
  simp[V.aG,eS,zi,g]
 ·rename_i o
  split at q
  ·rename_i ty k w y e
   obtain⟨g,q⟩:=aP q
   simp only[Bool.and_eq_true,Bool.not_eq_true'] at g
   have hk:k≠dI:=Nat.ne_of_beq_eq_false g.2
   split at q
   ·cases q
    simp only[V.aG,hh,aV e,OV.aF,V.bn,List.append_nil,Rw.Og,Rw.dR]
    exact⟨⟨g.1,hk⟩,trivial⟩
   ·cases q
    simp only[V.aG,hh,aV e,OV.aF,List.length_append,fD,Rw.dR]
    exact⟨⟨g.1,hk⟩,by simp⟩
  ·rename_i ty k x e
   obtain⟨g,q⟩:=aP q
   cases q
   simp only[Bool.and_eq_true,Bool.not_eq_true'] at g
   simp only[V.aG,hh,aV e,OV.aF,fD]
   exact⟨⟨g.1,Nat.ne_of_beq_eq_false g.2⟩,trivial⟩
  ·cases q
 ·rename_i o lo hi
  obtain⟨g,q⟩:=aP q; cases q
  simp only[Bool.and_eq_true,Bool.not_eq_true'] at g
  simp[V.aG,hh,Hz.yJ,g]
 ·cases q
theorem aek{x y:X}{u v r:V}{sd:Sd}(q:mxZ u v=some (r,sd))(h1:s.ev x=u.aG)(h2:s.ev y=v.aG):Ok s (.mx x y) r:=by
 unfold Ok; simp only[qc,qt]; rw[h1,h2]
 unfold mxZ at q
 split at q
 ·rename_i a b
  cases q; simp only[V.aG,true_and]; congr 2; split<;>omega
 ·cases q
theorem ael{x y:X}{u v r:V}{sd:Sd}(q:mnZ u v=some (r,sd))(h1:s.ev x=u.aG)(h2:s.ev y=v.aG):Ok s (.mn x y) r:=by
 unfold Ok; simp only[qc,qt]; rw[h1,h2]
 unfold mnZ at q
 split at q
 ·rename_i a b
  cases q; simp only[V.aG,true_and]; congr 2; split<;>omega
 ·cases q
theorem aem{i:Nat}{x:X}{u r:V}{sd:Sd}(q:exZ i u=some (r,sd))(h1:s.ev x=u.aG):Ok s (.ex x i) r:=by
 unfold Ok; simp only[qc,qt]; rw[h1]
 unfold exZ at q
 split at q
 ·split at q
  ·rename_i l _ v e
   cases q
   have hi:i<l.length:=(List.getElem?_eq_some_iff.1 e).1
   simp only[V.aG,Nat.blt_eq,fD,wS e]
   exact⟨hi,trivial⟩
  ·cases q
 ·cases q
theorem abN{ne:Bool}{n:Nat}{x y:X}{u v r:V}{sd:Sd}(q:aed ne n u v=some (r,sd))(h1:s.ev x=u.aG)(h2:s.ev y=v.aG):Ok s (.eqs ne n x y) r:=by
 unfold Ok; simp only[qc,qt]; rw[h1,h2]
 unfold aed at q
 split at q
 ·rename_i x y
  obtain⟨g,q⟩:=aP q; cases q
  have:=iQ g; subst this
  have e:pR [.int x.c,.int x.n,.int x.t,.int x.f] [.int y.c,.int y.n,.int y.t,.int y.f]=(x==y):=by
   cases x; cases y; simp[pR,BEq.beq]
  simp only[V.aG,Dat.aG,Tn,e]
  exact⟨rfl,trivial⟩
 ·rename_i x y
  obtain⟨g,q⟩:=aP q; cases q
  have:=iQ g; subst this
  have e:pR [.int x.message,.int x.Es,.int x.bound.c,.int x.bound.n,.int x.bound.t,.int x.bound.f] [.int y.message,.int y.Es,.int y.bound.c,.int y.bound.n,.int y.bound.t,.int y.bound.f]=(x==y):=by
   obtain⟨a,b,c,d,e,f⟩:=x; obtain⟨a',b',c',d',e',f'⟩:=y; simp[pR,BEq.beq]
  simp only[V.aG,Dat.aG,Qq,e]
  exact⟨rfl,trivial⟩
 ·cases q
theorem aen{n:Nat}{x:X}{u r:V}{sd:Sd}(q:saZ n u=some (r,sd))(h1:s.ev x=u.aG):Ok s (.sa n x) r:=by
 unfold Ok; simp only[qc,qt]; rw[h1]
 unfold saZ at q
 split at q
 ·rename_i k l
  split at q
  ·rename_i w hw
   obtain⟨g,q⟩:=aP q; cases q
   simp only[V.aG,fD]
   exact⟨g,by rw[Rw.zx hw]⟩
  ·cases q
 ·cases q
theorem abO{x:X}{u r:V}{sd:Sd}(q:aee u=some (r,sd))(h1:s.ev x=u.aG):Ok s (.IL x) r:=by
 unfold Ok; simp only[qc,qt]; rw[h1]
 unfold aee at q
 split at q
 ·cases q; simp[V.aG,Rw.Og,Rw.dR]
 ·cases q
end
section
variable {m:Fm} {h:Hz} {s:AS}
theorem tX(R:Rp m s.fr): ∀ {xs:List X} {l:List V} {sd:Sd},Au m xs=some (l,sd)->sd.holds->xs.map s.ev=V.bn l:=by
 intro xs
 induction xs with
 |nil=>intro l sd q _; cases q; rfl
 |cons x r ih =>
  intro l sd q hs
  simp only[Au] at q
  split at q
  ·rename_i v l' s' h1 h2
   cases q
   rw[Sd.lI] at hs
   simp only[List.map_cons,V.bn]
   rw[R.ev h1,dW (v:=v) (u:=v.bare.1) (s:=v.bare.2) rfl hs.1,ih h2 hs.2]
  ·cases q
theorem FQ: ∀ {l:List V},Cc h l=true->qM h.ay (V.bn l)=true:=by
 intro l
 induction l with
 |nil=>intro _; rfl
 |cons v r ih =>
  intro q
  simp only[Cc,Bool.and_eq_true] at q
  simp only[V.bn,qM,Bool.and_eq_true]
  exact⟨V.qU q.1,ih q.2⟩
theorem Hu{k:Nat}: ∀ {l:List V},F9 k l=true-> ∀ v∈l,v.kd=some k:=by
 intro l
 induction l with
 |nil=>intro _ v hv; cases hv
 |cons u r ih =>
  intro q v hv
  simp only[F9,Bool.and_eq_true] at q
  rcases List.mem_cons.1 hv with rfl|hv
  ·have:=q.1
   split at this
   ·rename_i k' e; rw[e,iQ this]
   ·cases this
  ·exact ih q.2 v hv
theorem WU: ∀ {l:List V},Cc h l=true->F9 0 l=true->xA h.ay (V.bn l)=true:=by
 intro l
 induction l with
 |nil=>intro _ _; rfl
 |cons v r ih =>
  intro q k
  have hk:=Hu k v (by simp)
  simp only[Cc,F9,Bool.and_eq_true] at q k
  simp only[V.bn,xA,Bool.and_eq_true]
  exact⟨V.Zv q.1 hk,ih q.2 k.2⟩
theorem Zz: ∀ {ps:List (Nat×Nat×X)} {vs z l:List V},U4 ps vs z=some l->(ps.map fun p=>s.ev p.2.2)=V.bn vs ->
  CS (V.bn z) (ps.map fun p=>(p.1,p.2.1,s.ev p.2.2))=true/\D9 (V.bn z) (ps.map fun p=>(p.1,p.2.1,s.ev p.2.2))=V.bn l:=by
 intro ps
 induction ps with
 |nil =>
  intro vs z l q he
  cases vs with
  |nil=>cases q; exact⟨rfl,rfl⟩
  |cons v vs=>simp[V.bn] at he
 |cons p ps ih =>
  intro vs z l q he
  obtain⟨off,n,x⟩:=p
  cases vs with
  |nil=>simp[V.bn] at he
  |cons v vs =>
   simp only[U4] at q
   split at q
   ·rename_i c hc
    obtain⟨g,q⟩:=aP q
    simp only[List.map_cons,V.bn,List.cons.injEq] at he
    simp only[Bool.and_eq_true] at g
    have e1:=iQ g.1
    obtain⟨i1,i2⟩:=ih q he.2
    simp only[List.map_cons,CS,D9,Bool.and_eq_true]
    have ec:(s.ev x).cells=V.bn c:=by rw[he.1]; exact V.FP hc
    simp only[wo,JD,JE] at i1 i2
    simp only[ec,fD]
    refine⟨⟨⟨by simpa using e1,g.2⟩,i1⟩,i2⟩
   ·cases q
theorem aeo(R:Rp m s.fr)(hh:s.hp=h.ay){z:List T}{ps:List (Nat×Nat×X)}{r:V}{sd:Sd}(q:mkZ m h z ps=some (r,sd))(hs:sd.holds):Ok s (.mk z ps) r:=by
 unfold mkZ at q
 split at q
 ·rename_i vs s' hb
  split at q
  ·rename_i l hl
   obtain⟨g,q⟩:=aP q
   cases q
   have he:=tX R hb hs
   have he':(ps.map fun p=>s.ev p.2.2)=V.bn vs:=by rw[<- he]; simp
   obtain⟨i1,i2⟩:=Zz hl he'
   rw[zx] at i1 i2
   unfold Ok; simp only[qc,qt]
   rw[i1,i2,he',hh,FQ g]
   exact⟨rfl,rfl⟩
  ·cases q
 ·cases q
theorem U7{k n:Nat}: ∀ {ps:List (Nat×X)} {vs z l:List V},Zr n ps vs z=some l->(ps.map fun p=>s.ev p.2)=V.bn vs->F9 k vs=true ->
  BL k n (ps.map fun p=>(p.1,s.ev p.2))=true/\oI (V.bn z) (ps.map fun p=>(p.1,s.ev p.2))=V.bn l:=by
 intro ps
 induction ps with
 |nil =>
  intro vs z l q he _
  cases vs with
  |nil=>cases q; exact⟨rfl,rfl⟩
  |cons v vs=>simp[V.bn] at he
 |cons p ps ih =>
  intro vs z l q he hk
  obtain⟨i,x⟩:=p
  cases vs with
  |nil=>simp[V.bn] at he
  |cons v vs =>
   simp only[Zr] at q
   obtain⟨g,q⟩:=aP q
   simp only[List.map_cons,V.bn,List.cons.injEq] at he
   have hkv:=Hu hk v (by simp)
   simp only[F9,Bool.and_eq_true] at hk
   obtain⟨i1,i2⟩:=ih q he.2 hk.2
   have e:V.bn (z.set i v)=(V.bn z).set i (s.ev x):=by rw[he.1]; simp[jk,List.map_set]
   rw[e] at i2
   simp only[List.map_cons,BL,oI,Bool.and_eq_true]
   refine⟨⟨⟨?_,g⟩,i1⟩,i2⟩
   rw[he.1,V.Oi hkv]; simp
theorem aep(R:Rp m s.fr)(hh:s.hp=h.ay){ty k:Nat}{z:T}{n:Nat}{ps:List (Nat×X)}{r:V}{sd:Sd}(q:msZ m h k z n ps=some (r,sd))(hs:sd.holds):Ok s (.ms ty k z n ps) r:=by
 unfold msZ at q
 split at q
 ·rename_i vs s' hb
  split at q
  ·rename_i l hl
   obtain⟨g,q⟩:=aP q
   have hs':s'.holds/\r.aG= .sl k true (V.bn l):=by
    split at q
    ·rename_i w hw
     cases q; exact⟨hs,by simp only[V.aG]; rw[Rw.zx hw]⟩
    ·cases q; exact⟨hs,rfl⟩
   have he:=tX R hb hs'.1
   have he':(ps.map fun p=>s.ev p.2)=V.bn vs:=by rw[<- he]; simp
   simp only[Bool.and_eq_true] at g
   obtain⟨⟨⟨⟨⟨⟨g1,g2⟩,g3⟩,g4⟩,g5⟩,g6⟩,g7⟩:=g
   obtain⟨i1,i2⟩:=U7 hl he' g3
   have e:V.bn (List.replicate n (BD z))=List.replicate n z:=by rw[jk,List.map_replicate,wR]
   rw[e] at i2
   unfold Ok; simp only[qc,qt]
   rw[i1,i2,he',hh,FQ g4,V.lD _ g5,g1,g2,g6,g7,hs'.2]
   exact⟨rfl,rfl⟩
  ·cases q
 ·cases q
theorem Az(R:Rp m s.fr){x:Option X}{v:Option V}{sd:Sd}(q:JC m x=some (v,sd))(hs:sd.holds):x.map s.ev=v.map V.aG:=by
 cases x with
 |none=>cases q; rfl
 |some x =>
  simp only[JC] at q
  split at q
  ·rename_i u hu
   cases q
   simp only[Option.map_some]; rw[R.ev hu,dW (v:=u) (u:=u.bare.1) (s:=u.bare.2) rfl hs]
  ·cases q
theorem FT{k k':Nat}{r:Rw}(g:kOk k k' r=true):k'=k\/r.bn=[]:=by
 unfold kOk at g
 split at g
 ·exact .inr rfl
 ·exact .inl (iQ g)
theorem QF{k k':Nat}{f:Bool}{w:Rw}{lo hi mx:Option V}{r:V}{sd:Sd}(q:Zt k k' f w lo hi mx=some (r,sd))(hs:sd.holds) :
  Yv k (.sl k' f w.bn) (lo.map V.aG) (hi.map V.aG) (mx.map V.aG)/\Ns k (.sl k' f w.bn) (lo.map V.aG) (hi.map V.aG) (mx.map V.aG)=r.aG:=by
 unfold Zt at q
 split at q
 ·obtain⟨g,q⟩:=aP q; cases q
  simp only[Option.map_none,Yv,Ns,V.aG]
  exact⟨FT g,trivial⟩
 ·obtain⟨g,q⟩:=aP q; cases q
  simp only[Sd.holds,Rw.tV] at hs
  simp only[Option.map_none,Option.map_some,Yv,Ns,V.aG,Rw.QD,Rw.dR]
  exact⟨⟨FT g,hs⟩,trivial⟩
 ·obtain⟨g,q⟩:=aP q; cases q
  simp only[Sd.holds,Rw.tV] at hs
  simp only[Option.map_none,Option.map_some,Yv,Ns,V.aG,Rw.Aw,Rw.dR]
  exact⟨⟨FT g,hs⟩,trivial⟩
 ·obtain⟨g,q⟩:=aP q; cases q
  simp only[Sd.holds,Rw.tV] at hs
  simp only[Option.map_none,Option.map_some,Yv,Ns,V.aG,Rw.Aw,Rw.QD,Rw.dR]
  exact⟨⟨FT g,hs.1,hs.2.1,hs.2.2.2⟩,trivial⟩
 ·obtain⟨g,q⟩:=aP q; cases q
  simp only[Sd.holds,Rw.tV] at hs
  simp only[Option.map_none,Option.map_some,Yv,Ns,V.aG,Rw.Aw,Rw.dR]
  exact⟨⟨FT g,hs.1,hs.2.1,hs.2.2.2⟩,trivial⟩
 ·cases q
theorem ZA{k i ty ko:Nat}{w:Rw}{lo hi mx:Option V}{r:V}{sd:Sd}(q:Zu k i ko w lo hi mx=some (r,sd))(hs:sd.holds) :
  BM k ⟨ty,ko,w.bn⟩ (lo.map V.aG) (hi.map V.aG) (mx.map V.aG)/\xY i ⟨ty,ko,w.bn⟩ (lo.map V.aG) (hi.map V.aG) (mx.map V.aG)=r.aG:=by
 unfold Zu at q
 split at q
 ·obtain⟨g,q⟩:=aP q; cases q
  simp only[Sd.holds,Rw.tV] at hs
  simp only[Option.map_none,Option.map_some,BM,xY,V.aG,Rw.dR]
  exact⟨⟨iQ g,hs⟩,trivial⟩
 ·obtain⟨g,q⟩:=aP q; cases q
  simp only[Sd.holds,Rw.tV] at hs
  simp only[Option.map_none,Option.map_some,BM,xY,V.aG,Rw.dR]
  exact⟨⟨iQ g,hs⟩,trivial⟩
 ·obtain⟨g,q⟩:=aP q; cases q
  simp only[Sd.holds,Rw.tV] at hs
  simp only[Option.map_none,Option.map_some,BM,xY,V.aG,Rw.dR]
  exact⟨⟨iQ g,hs.1,hs.2.1,hs.2.2.2⟩,trivial⟩
 ·cases q
theorem WV{k i ty ko:Nat}{w:Rw}{xs:List V}{lo hi mx:Option V}{r:V}{sd:Sd}(q:TK k i ko w xs lo hi mx=some (r,sd))(hs:sd.holds) :
  BM k ⟨ty,ko,w.bn++V.bn xs⟩ (lo.map V.aG) (hi.map V.aG) (mx.map V.aG)/\xY i ⟨ty,ko,w.bn++V.bn xs⟩ (lo.map V.aG) (hi.map V.aG) (mx.map V.aG)=r.aG:=by
 unfold TK at q
 split at q
 ·obtain⟨g,q⟩:=aP q; cases q
  simp only[Sd.holds,Rw.tV] at hs
  simp only[Option.map_none,Option.map_some,BM,xY,V.aG]
  refine⟨⟨iQ g,hs.1,?_⟩,trivial⟩
  have:=hs.2
  simp only[List.length_append,Rw.dR]; omega
 ·split at q
  ·simp only[V.bn,List.append_nil]; exact ZA q hs
  ·cases q
theorem U8(R:Rp m s.fr){b:Bool}{k:Nat}{x:X}{lo hi mx:Option X}{r:V}{sd:Sd}(q:slX m h b k x lo hi mx=some (r,sd))(hs:sd.holds) :
  ∃ v lo' hi' mx' s',slZ h b k v lo' hi' mx'=some (r,s')/\s'.holds/\s.ev x=v.aG/\lo.map s.ev=lo'.map V.aG/\hi.map s.ev=hi'.map V.aG/\mx.map s.ev=mx'.map V.aG:=by
 obtain⟨v,s',q,hs,hv⟩:=kD R q hs
 split at q
 ·rename_i lo' s1 hi' s2 mx' s3 e1 e2 e3
  split at q
  ·rename_i u s4 e4
   cases q
   rw[Sd.lI,Sd.lI,Sd.lI] at hs
   exact⟨v,lo',hi',mx',s4,e4,hs.2.2.2,hv,Az R e1 hs.1,Az R e2 hs.2.1,Az R e3 hs.2.2.1⟩
  ·cases q
 ·cases q
theorem afG(R:Rp m s.fr){k:Nat}{x:X}{lo hi mx:Option X}{r:V}{sd:Sd}(q:slX m h false k x lo hi mx=some (r,sd))(hs:sd.holds):Ok s (.sl k x lo hi mx) r:=by
 obtain⟨v,lo',hi',mx',s',q,hs,hv,e1,e2,e3⟩:=U8 R q hs
 unfold Ok; simp only[qc,qt]; rw[hv,e1,e2,e3]
 unfold slZ at q
 split at q
 ·exact QF q hs
 ·cases q
 ·cases q
theorem aer(R:Rp m s.fr)(hh:s.hp=h.ay){k:Nat}{x:X}{lo hi mx:Option X}{r:V}{sd:Sd}(q:slX m h true k x lo hi mx=some (r,sd))(hs:sd.holds):Ok s (.Rx k x lo hi mx) r:=by
 obtain⟨v,lo',hi',mx',s',q,hs,hv,e1,e2,e3⟩:=U8 R q hs
 unfold Ok; simp only[qc,qt]; rw[hv,e1,e2,e3]
 unfold slZ at q
 split at q
 ·exact QF q hs
 ·simp only[cond_true] at q
  split at q
  ·rename_i i _ ty ko w xs e
   simp only[V.aG,hh,aV e,OV.aF]
   exact WV q hs
  ·cases q
 ·cases q
theorem Dk{t:Str}{a b:Nat}(hab:a<=b)(_hb:b<=t.length):(bs t).extract a b=bs ((t.take b).drop a):=by
 apply ByteArray.ext
 have h1:((bs t).extract a b).data=(bs t).data.extract a b:=ByteArray.data_extract
 rw[h1]
 apply Array.ext'
 simp[bs,List.extract,List.take_drop]
 rw[show a+(b-a)=b by omega]
theorem afH(R:Rp m s.fr){x:X}{lo hi:Option X}{r:V}{sd:Sd}(q:ssX m x lo hi=some (r,sd))(hs:sd.holds):Ok s (.ss x lo hi) r:=by
 obtain⟨v,s',q,hs,hv⟩:=kD R q hs
 split at q
 ·rename_i t lo' s1 hi' s2 e1 e2
  split at q
  ·rename_i u s4 e4
   cases q
   rw[Sd.lI,Sd.lI] at hs
   have f1:=Az R e1 hs.1
   have f2:=Az R e2 hs.2.1
   unfold Ok; simp only[qc,qt]; rw[hv,f1,f2]
   have hs4:=hs.2.2
   unfold ssZ at e4
   split at e4
   ·cases e4
    simp only[Sd.holds] at hs4
    simp only[Option.map_none,Option.map_some,V.aG,eS,zi]
    refine⟨hs4,?_⟩
    rw[Dk (by omega) (Nat.le_refl _)]; simp
   ·cases e4
    simp only[Sd.holds] at hs4
    simp only[Option.map_none,Option.map_some,V.aG,eS,zi]
    refine⟨hs4,?_⟩
    rw[Dk (by omega) (by omega)]; simp
   ·cases e4
    simp only[Sd.holds] at hs4
    simp only[Option.map_some,V.aG,eS,zi]
    refine⟨hs4,?_⟩
    rw[Dk (by omega) (by omega)]
   ·cases e4
  ·cases q
 ·cases q
theorem aes(R:Rp m s.fr)(hh:s.hp=h.ay){f:FuncId}{cap:List X}{r:V}{sd:Sd}(q:mfZ m h f cap=some (r,sd))(hs:sd.holds):Ok s (.mf f cap) r:=by
 unfold mfZ at q
 split at q
 ·rename_i l s' hb
  obtain⟨g,q⟩:=aP q
  cases q
  simp only[Bool.and_eq_true] at g
  unfold Ok; simp only[qc,qt]
  rw[tX R hb hs,hh,WU g.1.1 g.1.2,g.2]
  exact⟨rfl,rfl⟩
 ·cases q
theorem aeu{f:FuncId}{x:X}{v r:V}{sd:Sd}(q:mbZ f v=some (r,sd))(h1:s.ev x=v.aG):Ok s (.mb f x) r:=by
 unfold mbZ at q
 split at q
 ·obtain⟨g,q⟩:=aP q; cases q
  unfold Ok; simp only[qc,qt]; rw[h1]; exact⟨Nat.blt_eq.mp g,rfl⟩
 ·obtain⟨g,q⟩:=aP q; cases q
  rename_i d
  unfold Ok; simp only[qc,qt]; rw[h1]; simp only[V.aG]; rw[Dat.FN]; exact⟨Nat.blt_eq.mp g,rfl⟩
 ·cases q
theorem ZB(R:Rp m s.fr)(hh:s.hp=h.ay){op:lF}{r:V}{sd:Sd}(q:qz m h op=some (r,sd))(hs:sd.holds):bP op=true/\Ok s op r:=by
 unfold qz at q
 split at q
 ·split at q
  ·rename_i v e; cases q
   exact⟨rfl,trivial,R.ev e⟩
  ·cases q
 ·obtain⟨c,s',q,hs,hc⟩:=kD R q hs
  split at q
  ·rename_i t va vb e1 e2
   exact⟨rfl,Zw R e1 e2 q hs hc⟩
  ·cases q
 ·obtain⟨u,v,s',q,hs,h1,h2⟩:=zy R q hs
  exact⟨rfl,abL q hs h1 h2⟩
 ·obtain⟨u,v,s',q,hs,h1,h2⟩:=zy R q hs
  split at q
  ·cases q; refine⟨rfl,?_⟩; unfold Ok; simp only[qc,qt]; rw[h1,h2]; exact⟨rfl,rfl⟩
  ·cases q
 ·obtain⟨u,s',q,hs,h1⟩:=kD R q hs
  split at q
  ·cases q; refine⟨rfl,?_⟩; unfold Ok; simp only[qc,qt]; rw[h1]; exact⟨rfl,rfl⟩
  ·cases q
 ·obtain⟨u,s',q,hs,h1⟩:=kD R q hs
  split at q
  ·cases q; refine⟨rfl,?_⟩; unfold Ok; simp only[qc,qt]; rw[h1]; simp only[V.aG,true_and]; rw[U5 hs]
  ·cases q; refine⟨rfl,?_⟩; unfold Ok; simp only[qc,qt]; rw[h1]; simp only[V.aG,true_and]; rw[U5 hs]
  ·cases q; refine⟨rfl,?_⟩; unfold Ok; simp only[qc,qt]; rw[h1]; simp only[V.aG,true_and]; rw[U5 hs]
  ·cases q
 ·obtain⟨u,s',q,hs,h1⟩:=kD R q hs
  split at q
  ·cases q; refine⟨rfl,?_⟩; unfold Ok; simp only[qc,qt]; rw[h1]; simp only[V.aG,true_and]; rw[afF hs.1 hs.2]
  ·cases q
 ·obtain⟨u,s',q,hs,h1⟩:=kD R q hs
  split at q
  ·cases q; refine⟨rfl,?_⟩; unfold Ok; simp only[qc,qt]; rw[h1]; simp only[V.aG,true_and]; rw[aef hs.1 hs.2]
  ·cases q
 ·obtain⟨u,s',q,hs,h1⟩:=kD R q hs; exact⟨rfl,aeg hh q h1⟩
 ·obtain⟨u,s',q,hs,h1⟩:=kD R q hs; exact⟨rfl,aeh q h1⟩
 ·obtain⟨u,v,s',q,hs,h1,h2⟩:=zy R q hs; exact⟨rfl,Zy hh q hs h1 h2⟩
 ·obtain⟨u,v,s',q,hs,h1,h2⟩:=zy R q hs; exact⟨rfl,aei q hs h1 h2⟩
 ·obtain⟨u,s',q,hs,h1⟩:=kD R q hs; exact⟨rfl,TN hh q hs h1⟩
 ·obtain⟨u,s',q,hs,h1⟩:=kD R q hs; exact⟨rfl,aej hh q h1⟩
 ·obtain⟨u,s',q,hs,h1⟩:=kD R q hs; exact⟨rfl,U6 hh q h1⟩
 ·obtain⟨u,v,s',q,hs,h1,h2⟩:=zy R q hs; exact⟨rfl,aek q h1 h2⟩
 ·obtain⟨u,v,s',q,hs,h1,h2⟩:=zy R q hs; exact⟨rfl,ael q h1 h2⟩
 ·exact⟨rfl,aeo R hh q hs⟩
 ·exact⟨rfl,aep R hh q hs⟩
 ·exact⟨rfl,afG R q hs⟩
 ·exact⟨rfl,aer R hh q hs⟩
 ·exact⟨rfl,afH R q hs⟩
 ·obtain⟨u,s',q,hs,h1⟩:=kD R q hs; exact⟨rfl,aem q h1⟩
 ·exact⟨rfl,aes R hh q hs⟩
 ·obtain⟨u,v,s',q,hs,h1,h2⟩:=zy R q hs; exact⟨rfl,abN q h1 h2⟩
 ·obtain⟨u,s',q,hs,h1⟩:=kD R q hs; exact⟨rfl,abO q h1⟩
 ·obtain⟨u,s',q,hs,h1⟩:=kD R q hs; exact⟨rfl,aeu q h1⟩
 ·obtain⟨u,s',q,hs,h1⟩:=kD R q hs; exact⟨rfl,aen q h1⟩
 ·cases q
end
structure ah(P:Program)(dr:Bool)(g:Option Bool)(f:FuncId)(args:List V)(h:Hz)(n:Nat)(K:V->Hz->Prop)(KW:Nat->V->Hz->Prop):Prop where
 ok:(match g with
  |none=>aO P f (V.bn args) h.ay n fun t hp=> ∃ v h',t=v.aG/\hp=h'.ay/\(dr=true->h'=h/\t.free=true)/\K v h'
  |some b=>(∃ v,(b=true->aO P f (V.bn args) h.ay n fun t hp=>t=v.aG/\hp=h.ay)/\v.free=true/\K v h) \/
   (dr=false/\(b=true->aO P f (V.bn args) h.ay n fun t hp=> ∃ v h',t=v.aG/\hp=h'.ay/\K v h')/\(b=false->K (.int 0) h))) \/
  (g=none/\dr=false/\ ∃ k,y7 P f (V.bn args) h.ay n k fun t hp=> ∃ v h',t=v.aG/\hp=h'.ay/\KW k v h') \/
  (g=none/\dr=true/\h.get n=none/\aO P f (V.bn args) h.ay n fun t hp=> ∃ v o,t=v.aG/\hp=Hz.ay ((n,some o)::h)/\KW 0 v ((n,some o)::h))
structure Ig(P:Program)(f:FuncId)(args:List V)(h:Hz)(n:Nat)(K:V->Hz->Prop):Prop where
 ok: ∃ (v:V) (o:Option OV),v.aG.ids (fun i=>i=n)/\(∀ ob,o=some ob->T.bC ob.aF.l=true) /\
  (∀ hp:Hp,(∀ i ob,h.ay i=some ob->hp i=some ob)->aO P f (V.bn args) hp n fun t' h'=>t'=v.aG/\h'=fU hp n (o.map OV.aF)) /\
  K v (match o with|none=>h|some o=>(n,some o)::h)
def Dl(dr fl:Bool)(a b c:Prop):Prop :=
 match dr with
 |false=>a
 |true=>match fl with
  |false=>b
  |true=>c
inductive XM(p a b:Prop):Prop where
 |mk:(p->a)->b->XM p a b
inductive afI(o:Option (List Bool))(yes:List Bool->Prop)(no:Prop):Prop where
 |mk:(∀ l,o=some l->yes l)->(o=none->no)->afI o yes no
def V.seq(v:V)(K:V->Prop):Prop :=
 match v with
 | .int n=>K (.int n)
 | .bool b=>K (.bool b)
 | .u8 n=>K (.u8 n)
 | .str s=>K (.str s)
 | .dat d=>K (.dat d)
 | .agg l=>K (.agg l)
 | .row k f r=>K (.row k f r)
 | .JB k f l=>K (.JB k f l)
 | .ref k v=>K (.ref k v)
 | .own i=>K (.own i)
 | .inn i=>K (.inn i)
 | .pin i j o=>K (.pin i j o)
 | .ptr i j o=>K (.ptr i j o)
 | .kZ i a b=>K (.kZ i a b)
 | .fn f l=>K (.fn f l)
 | .fJ l=>K (.fJ l)
 | .cnd b v=>K (.cnd b v)
 | .raw t=>K (.raw t)
theorem V.seq_eq(v:V)(K:V->Prop):v.seq K=K v:=by cases v<;>rfl
def iT(d:Option Nat)(v:V)(m:Fm):Fm :=
 match d with
 |some d=>(d,v)::m
 |none=>m
def qZ:Option Bool->V->V
 |none,v=>v
 |some b,.cnd c v=>.cnd (b&&c) v
 |some b,v=>.cnd b v
theorem FU(v:V):(qZ (some true) v).aG=v.aG:=by cases v<;>rfl
theorem TP(v:V):(qZ (some false) v).aG=T.un:=by cases v<;>rfl
def TQ(m:Fm):Option (Nat×Bool)->Option (Option Bool)
 |none=>some none
 |some (g,w)=>match m.get g with
  |some (.bool b)=>some (some (bif w then b else !b))
  |some (.cnd c (.bool b))=>some (some (c&&(bif w then b else !b)))
  |_=>none
def ltX(nx:Nat)(m:Fm):List X->Bool
 |[]=>true
 |x::r=>(match zK m x with|some v=>T.lt nx v.aG|none=>false)&&ltX nx m r
def ZC(nx:Nat)(m:Fm):lF->Bool
 | .st _ x _=>match zK m x with|some v=>T.newer nx v.aG|none=>false
 | .app _ _ _ x _=>match zK m x with|some v=>T.newer nx v.aG|none=>false
 | .Nr _ _ _=>false
 | .OJ _ _ _=>false
 | .call _ _=>true
 | .kH _ _=>true
 |op=>ltX nx m op.xs
def abP(i:Nat)(m:Fm):List X->Bool
 |[]=>true
 |x::r=>(match zK m x with|some v=>T.nid i v.aG|none=>false)&&abP i m r
def neB(m:Fm)(xs:List X):List Nat->Bool
 |[]=>true
 |d::r=>(match m.get d with|some (.ptr i _ _)=>abP i m xs|_=>false)&&neB m xs r
def Gv(nx:Nat)(o:aC)(m:Fm):Bool:=(!o.fl||ZC nx m o.op)&&neB m o.op.xs o.ne
def isZero:V->Bool
 | .int (.ofNat 0)=>true
 |_=>false
def XY(n:Nat):T->Option Rw
 | .lit (.int .i64 z)=>some (.ints (List.replicate n z))
 | .lit (.bool z)=>some (.bools (List.replicate n z))
 | .lit (.string z)=>some (.strs (List.replicate n z.data.toList))
 |_=>none
def Rw.set(j:Nat)(v:V)(r:Rw):Option Rw :=
 match r,v with
 | .ints l,.int n=>some (.ints (l.set j n))
 | .bools l,.bool n=>some (.bools (l.set j n))
 | .strs l,.str n=>some (.strs (l.set j n))
 | .rules l,.dat (.rule n)=>some (.rules (l.set j n))
 | .clauses l,.dat (.clause n)=>some (.clauses (l.set j n))
 | .elems l,.dat (.elem n)=>some (.elems (l.set j n))
 | .jr l,.row 0 false (.ints n)=>some (.jr (l.set j n))
 | .mV l,.row 0 false (.bools n)=>some (.mV (l.set j n))
 | .mW l,.row 0 false (.jr n)=>some (.mW (l.set j n))
 |_,_=>none
def aev(h:Hz)(k:Nat):V->Option (Rw×List V)
 | .row k' _ r=>dM (kOk k k' r) (some (r,[]))
 | .JB k' _ l=>dM (Nat.beq k' k) (some (.nil,l))
 | .own o=>match h.get o with
  |some (.row _ ko r x)=>dM (Nat.beq ko k) (some (r,x))
  |_=>none
 |_=>none
def aew(r:Rw)(x:List V)(r':Rw)(x':List V):Option (Rw×List V) :=
 match x,r' with
 |[],r'=>match r.app r' with|some w=>some (w,x')|none=>none
 |x,.nil=>some (r,x++x')
 |_,_=>none
def oz(r:Rw)(x:List V):Nat :=
 match x with
 |[]=>r.len
 |x=>r.len+x.length
def nI(bytes:Nat)(a b:Nat):Prop:=(a+b)*bytes<=140737488355328/\a+b<=1152921504606846976
def setCells(v:V)(off:Nat)(u:V):Option V :=
 match v.cells,u.cells with
 |some l,some c=>some (.agg (l.take off++c++l.drop (off+c.length)))
 |_,_=>none
def Oj:List V->(List V->Prop)->Prop
 |[],K=>K []
 |v::r,K=>Oj r fun r'=>K (v::r')
def V.force(v:V)(K:V->Prop):Prop :=
 match v with
 | .agg l=>Oj l fun l=>K (.agg l)
 |v=>K v
theorem WW: ∀ {l:List V} {K:List V->Prop},Oj l K=K l:=by
 intro l
 induction l with
 |nil=>intro K; rfl
 |cons v r ih=>intro K; show Oj r (fun r'=>K (v::r'))=_; rw[ih]
theorem V.force_eq(v:V)(K:V->Prop):v.force K=K v:=by
 cases v<;>first|rfl|exact WW
structure aaN(c p a b:Prop):Prop where
 ok:(c\/b)/\p/\a
theorem aaN.one{c p a b:Prop}(h:c/\p)(k:a):aaN c p a b:=⟨.inl h.1,h.2,k⟩
structure AtZ(y:List V)(j:Nat)(K:V->Prop):Prop where
 ok: ∃ v,y[j]? =some v/\K v
structure InZ(h:Hz)(i:Nat)(K:Nat->Rw->Prop):Prop where
 ok: ∃ ty k r,h.get i=some (.row ty k r [])/\K k r
structure agK(h:Hz)(i j k:Nat)(v:V)(K:Hz->Prop):Prop where
 ok: ∃ ty r r' h',h.get i=some (.row ty k r [])/\r.set j v=some r'/\r.rng j/\h'.ay=upd h.ay i (some (OV.row ty k r' []).aF)/\K h'
structure afJ(h:Hz)(i ty k:Nat)(K:Rw->Hz->Prop):Prop where
 ok: ∃ r h',h.get i=some (.row ty k r [])/\h'.ay=upd h.ay i none/\K r h'
def abQ(dr:Bool)(d:Option Nat)(n:Nat)(m:Fm)(h:Hz)(K:Fm->Hz->Prop):lF->Prop
 | .box ty k x=>match zK m x with
  |some v=>match v.bare with
   |(v,s)=>bif F9 k [v]&&v.iY h&&tq k then s.vc none (K (iT d (.ptr n 0 0) m) ((n,some (.box ty k v))::h)) else False
  |none=>False
 | .al ty k z=>bif z.kd==k&&z.iY h.ay&&z.free&&tq k then K (iT d (.ptr n 0 0) m) ((n,some (.box ty k (BD z)))::h) else False
 | .make ty k bytes z x y=>match zK m x,zK m y with
  |some (.int a),some (.int b)=>bif z.kd==k&&z.iY h.ay&&z.free&&tq k then
    (match (bif isZero (.int a) then some .nil else XY a.toNat z) with
    |some r=>VC (0<=a/\a<=b/\b*bytes<=140737488355328/\b<=1152921504606846976) (K (iT d (.own n) m) ((n,some (.row ty k r []))::h))
    |none=>VC (0<=a/\a<=b/\b*bytes<=140737488355328/\b<=1152921504606846976) (K (iT d (.own n) m) ((n,some (.gen ty k (List.replicate a.toNat (BD z))))::h))) else False
  |_,_=>False
 | .st k x v=>match zK m x,zK m v with
  |some (.ptr i j off),some v=>match v.bare with
   |(v,s)=>bif F9 k [v]&&v.iY h then
    (match h.get i with
    |some (.box ty ko w)=>bif Nat.beq j 0 then
      (bif Nat.beq off 0&&Nat.beq ko k then s.vc none (K m ((i,some (.box ty ko v))::h))
      else bif !(Nat.beq ko 0)&&jF (bG ko) off k then(match setCells w off v with
       |some w'=>w'.force fun w'=>s.vc none (K m ((i,some (.box ty ko w'))::h))
       |none=>False) else False) else False
    |some (.row ty ko r [])=>bif Nat.beq off 0&&Nat.beq ko k then(match r.set j v with
      |some r'=>s.vc none (VC (r.rng j) (K m ((i,some (.row ty ko r' []))::h)))
      |none=>s.vc none (VC (r.rng j) (K m ((i,some (.gen ty ko (r.vs.set j v)))::h)))) else False
    |some (.gen ty ko y)=>bif Nat.beq off 0&&Nat.beq ko k then s.vc none (VC (j<y.length) (K m ((i,some (.gen ty ko (y.set j v)))::h))) else False
    |_=>False) else False
  |some x,some v=>(match x.bare with
   |(.pin i j off,s0)=>match v.bare with
    |(v,s)=>bif F9 k [v]&&v.iY h&&Nat.beq off 0 then(s0.and s).vc none (agK h i j k v fun h'=>K m h') else False
   |_=>False)
  |_,_=>False
 | .ld k x=>match zK m x with
  |some v=>(match v.bare with
   |(.ptr i j off,s)=>(match h.get i with
    |some (.gen _ ko y)=>bif Nat.beq off 0&&Nat.beq ko k then s.vc none (AtZ y j fun v=>v.seq fun v=>K (iT d v m) h) else False
    |_=>False)
   |(.pin i j off,s)=>s.vc none (InZ h i fun ko r=>match ldR k j off ko r with
    |some (v,s')=>s'.vc none (v.seq fun v=>K (iT d v m) h)
    |none=>False)
   |_=>False)
  |none=>False
 | .ia k x i=>match zK m x,zK m i with
  |some v,some w=>(match v.bare,w.bare with
   |(.inn o,s),(.int n,s')=>(s.and s').vc none (InZ h o fun ko r=>bif Nat.beq ko k then VC (r.rng n) (K (iT d (.pin o n.toNat 0) m) h) else False)
   |_,_=>False)
  |_,_=>False
 | .len str x=>match zK m x with
  |some v=>(match v.bare with
   |(.inn o,s)=>s.vc none (InZ h o fun ko r=>bif !str&& !(Nat.beq ko dI) then r.lenV.seq fun v=>K (iT d v m) h else False)
   |_=>False)
  |none=>False
 | .app ty k bytes x y=>match zK m x,zK m y with
  |some x,some y=>match aev h k y with
   |some (r',x')=>(match x with
    | .row _ true .nil=>VC (nI bytes 0 (oz r' x')) (K (iT d (.own n) m) ((n,some (.row ty k r' x'))::h))
    | .row k' true r=>bif Nat.beq k' k then(match r.app r' with
     |some w=>aaN (r.len=0\/0<oz r' x') (nI bytes r.len (oz r' x')) (K (iT d (.own n) m) ((n,some (.row ty k w x'))::h)) (dr=false/\K (iT d (.row k' true r) m) h)
     |none=>False) else False
    | .own i=>(match h.get i with
     |some (.row ty' ko r x)=>bif Nat.beq ko k&&Nat.beq ty' ty then(match aew r x r' x' with
      |some (w,z)=>VC (nI bytes (oz r x) (oz r' x')) (K (iT d (.own n) m) ((n,some (.row ty k w z))::(i,none)::h))
      |none=>False) else False
     |some (.gen ty' ko y)=>bif Nat.beq ko k&&Nat.beq ty' ty then VC (nI bytes y.length (oz r' x')) (K (iT d (.own n) m) ((n,some (.gen ty k (y++(r'.vs++x'))))::(i,none)::h)) else False
     |_=>False)
    | .inn i=>afJ h i ty k fun r h'=>match r.app r' with
     |some w=>VC (nI bytes r.len (oz r' x')) (K (iT d (.own n) m) ((n,some (.row ty k w x'))::h'))
     |none=>False
    |_=>False)
   |none=>False
  |_,_=>False
 | .OJ k z x=>match zK m x with
  |some (.kZ i lo hi)=>match h.get i with
   |some (.row ty ko r [])=>bif Nat.beq ko k&&z.kd==k&&z.iY h.ay&&z.free then
     VC (lo<=hi/\hi=r.len) (match d with
      |none=>K m ((i,some (.row ty ko (r.take lo) (List.replicate (hi-lo) (BD z))))::h)
      |some _=>K (iT d (.raw T.un) m) ((i,some (.row ty ko (r.take lo) (List.replicate (hi-lo) (BD z))))::h)) else False
   |_=>False
  |_=>False
 | .CQ ty k z nn ps=>match Au m (ps.map fun p=>p.2) with
  |some (vs,s)=>match Zr nn ps vs (List.replicate nn (BD z)) with
   |some l=>bif (z.kd==k)&&z.free&&F9 k vs&&Cc h vs&&Nat.ble (nn*bG k) 16777216&&tq k then s.vc none (K (iT d (.own n) m) ((n,some (.row ty k .nil l))::h)) else False
   |none=>False
  |none=>False
 | .xW x=>match zK m x with
  |some (.row _ _ r)=>XM (r.len=0) (K (iT d (.bool true) m) h) (K (iT d (.bool false) m) h)
  |some (.own i)=>match h.get i with
   |some (.row _ ko r [])=>bif Nat.beq ko dI then False else XM (r.len=0) (K (iT d (.bool true) m) h) (K (iT d (.bool false) m) h)
   |_=>False
  |_=>False
 | .Uz ty=>K (iT d (.own n) m) ((n,some (.map ty [] []))::h)
 | .mlk z x i=>match zK m x,zK m i with
  |some (.own o),some (.int k)=>match h.get o with
   |some (.map _ es [])=>afI (Gt k es) (fun l=>K (iT d (.fJ [.row 0 false (.bools l),.bool true]) m) h) (K (iT d (.fJ [BD z,.bool false]) m) h)
   |_=>False
  |_,_=>False
 | .Nr x i v=>match zK m x,zK m i,zK m v with
  |some (.own o),some (.int k),some v=>match v.bare with
   |(v,s)=>match h.get o with
    |some (.map ty es [])=>bif F9 0 [v]&&v.iY h then s.vc none (VC (Gt k es=none) (K m ((o,some (.map ty es [(k,v)]))::h))) else False
    |_=>False
  |_,_,_=>False
 |_=>False
def aex(P:Program)(dr:Bool)(nx n:Nat)(o:aC)(KK:Nat->Fm->Hz->Prop)(m:Fm)(h:Hz):Prop :=
 match TQ m o.g with
 |none=>False
 |some g=>bif Gv nx o m then
   (match o.op with
   | .call f xs=>(match Au m xs with
    |some (l,s)=>s.vc g (match g with
     |none=>Dl dr o.fl (ah P false none f l h n (fun v h'=>v.seq fun v=>KK 0 (iT o.d v m) h') (fun k v h'=>v.seq fun v=>KK k (iT o.d v m) h')) (ah P true none f l h n (fun v h'=>v.seq fun v=>KK 0 (iT o.d v m) h') (fun _ _ _=>False)) (ah P false none f l h n (fun v h'=>v.seq fun v=>KK 0 (iT o.d v m) h') (fun _ _ _=>False))
     |some b=>Dl dr o.fl (ah P false (some b) f l h n (fun v h'=>v.seq fun v=>KK 0 (iT o.d (qZ (some b) v) m) h') (fun _ _ _=>False)) (ah P true (some b) f l h n (fun v h'=>v.seq fun v=>KK 0 (iT o.d (qZ (some b) v) m) h') (fun _ _ _=>False)) (ah P false (some b) f l h n (fun v h'=>v.seq fun v=>KK 0 (iT o.d (qZ (some b) v) m) h') (fun _ _ _=>False)))
    |none=>False)
   | .kH x xs=>(match zK m x,Au m xs with
    |some v,some (l,s)=>(match v.bare with
     |(.fn f cap,s0)=>(s0.and s).vc g (bif Nat.blt f 4096 then Dl dr o.fl (ah P false g f (l++cap) h n (fun v h'=>v.seq fun v=>KK 0 (iT o.d (qZ g v) m) h') (fun _ _ _=>False)) (ah P true g f (l++cap) h n (fun v h'=>v.seq fun v=>KK 0 (iT o.d (qZ g v) m) h') (fun _ _ _=>False)) (ah P false g f (l++cap) h n (fun v h'=>v.seq fun v=>KK 0 (iT o.d (qZ g v) m) h') (fun _ _ _=>False)) else Dl dr o.fl (ah P false g (f % 4096) (.agg cap::l) h n (fun v h'=>v.seq fun v=>KK 0 (iT o.d (qZ g v) m) h') (fun _ _ _=>False)) (ah P true g (f % 4096) (.agg cap::l) h n (fun v h'=>v.seq fun v=>KK 0 (iT o.d (qZ g v) m) h') (fun _ _ _=>False)) (ah P false g (f % 4096) (.agg cap::l) h n (fun v h'=>v.seq fun v=>KK 0 (iT o.d (qZ g v) m) h') (fun _ _ _=>False)))
     |_=>False)
    |_,_=>False)
   |op=>(match qz m h op with
    |some (v,s)=>s.vc g (v.seq fun v=>KK 0 (iT o.d (qZ g v) m) h)
    |none=>(match g with
     |none=>abQ dr o.d n m h (KK 0) op
     |some b=>Fork b (abQ dr o.d n m h (KK 0) op) (KK 0 (iT o.d (.cnd false (.int 0)) m) h))))
   else False
def adZ(P:Program)(nx n:Nat)(o:aC)(KK:Nat->Fm->Hz->Prop)(m:Fm)(h:Hz):Prop :=
 match o.op,o.g with
 | .call f xs,none=>bif o.fl&&Gv nx o m then
   (match Au m xs with
   |some (l,s)=>s.vc none (ah P true none f l h n (fun v h'=>v.seq fun v=>KK 0 (iT o.d v m) h') (fun _ v h'=>v.seq fun v=>KK 0 (iT o.d v m) h'))
   |none=>False)
   else False
 |_,_=>False
def arZ(P:Program)(nx n:Nat)(o:aC)(KK:Nat->Fm->Hz->Prop)(m:Fm)(h:Hz):Prop :=
 match o.op,o.g with
 | .call f xs,none=>bif o.fl&&Gv nx o m then
   (match Au m xs with
   |some (l,s)=>s.vc none (Ig P f l h n (fun v h'=>v.seq fun v=>KK 0 (iT o.d v m) h'))
   |none=>False)
   else False
 |_,_=>False
def opZ(P:Program)(dr:Bool)(nx n:Nat)(o:aC)(KK:Nat->Fm->Hz->Prop)(m:Fm)(h:Hz):Prop :=
 match o.ar with
 |true=>arZ P nx n o KK m h
 |false=>match o.ad with
 |true=>adZ P nx n o KK m h
 |false=>aex P dr nx n o KK m h
def QG(P:Program)(dr:Bool)(ml:Nat)(nx:Nat)(K:Fm->Hz->Nat->Prop):List aC->Nat->Fm->Hz->Prop
 |[],_,m,h=>K m h (nx+ml)
 |o::r,i,m,h=>opZ P dr nx (nx+i) o (fun k=>QG P dr ml (nx+k) K r (i+1)) m h
abbrev Qz:=oG->Fm->Hz->Nat->Prop
def Lift(N pn:Nat)(Q:Qz)(e:oG)(s:AS):Prop:= ∃ m h,s.fr.length=N/\Rp m s.fr/\s.hp=h.ay/\s.pin=pn/\Q e m h s.nx
structure aI(P:Program)(N pn:Nat)(b:eG)(Q:Qz)(m:Fm)(h:Hz)(nx:Nat):Prop where
 ok: ∀ fr,fr.length=N->Rp m fr->x9 (aw P b) (Lift N pn Q) ⟨fr,h.ay,nx,pn⟩
def az(P:Program)(N pn:Nat):eG->Qz->Fm->Hz->Nat->Prop
 | .skip,Q,m,h,nx=>Q .normal m h nx
 | .reg dr ops,Q,m,h,nx=>QG P dr ops.length nx (fun m h nx=>Q .normal m h nx) ops 0 m h
 | .seq a b,Q,m,h,nx=>az P N pn a (fun e m h nx=>match e with| .normal=>az P N pn b Q m h nx|e=>Q e m h nx) m h nx
 | .cond c a b,Q,m,h,nx =>
  match zK m c with
  |some (.bool t)=>Fork t (az P N pn a Q m h nx) (az P N pn b Q m h nx)
  |_=>False
 | .blk id b,Q,m,h,nx=>az P N pn b (fun e m h nx=>match e with| .exit j=>(bif Nat.beq j id then Q .normal m h nx else Q (.exit j) m h nx)|e=>Q e m h nx) m h nx
 | .exit id,Q,m,h,nx=>Q (.exit id) m h nx
 | .ret,Q,m,h,nx=>Q .ret m h nx
 | .loop b,Q,m,h,nx=>aI P N pn b Q m h nx
def Ol(N:Nat):List aC->Bool
 |[]=>true
 |o::r=>(match o.d with|some d=>Nat.blt d N|none=>true)&&Ol N r
def rD(N:Nat):eG->Bool
 | .skip=>true
 | .reg _ ops=>Ol N ops
 | .seq a b=>rD N a&&rD N b
 | .cond _ a b=>rD N a&&rD N b
 | .blk _ b=>rD N b
 | .exit _=>true
 | .ret=>true
 | .loop b=>rD N b
section
variable {P:Program} {m:Fm} {h:Hz}
theorem bQ{i:Nat}{o:Option OV}:Hz.ay ((i,o)::h)=upd h.ay i (o.map OV.aF):=by
 funext j
 simp only[Hz.ay,Hz.get,upd]
 by_cases e:j=i
 ·subst e; simp
 ·have:Nat.beq i j=false:=by
   cases hb:Nat.beq i j with
   |false=>rfl
   |true=>exact absurd (iQ hb).symm e
  simp[this,e]
theorem Rp.put{fr:List T}(R:Rp m fr){d:Option Nat}{v:V}(hd: ∀ i,d=some i->i<fr.length){s:AS}(hs:s.fr=fr):Rp (iT d v m) (s.put d v.aG).fr:=by
 subst hs
 cases d with
 |none=>exact R
 |some d =>
  intro i u hu
  simp only[iT,Fm.get] at hu
  show(s.fr.set d v.aG)[i]? =_
  cases hb:Nat.beq d i with
  |true =>
   rw[hb] at hu; simp at hu; subst hu
   have:=iQ hb; subst this
   rw[List.getElem?_set_self (hd d rfl)]
  |false =>
   rw[hb] at hu
   have hne:d≠i:=Nat.ne_of_beq_eq_false hb
   rw[List.getElem?_set_ne hne]
   exact R i u hu
theorem U9{s:AS}{d:Option Nat}{t:T}:(s.put d t).fr.length=s.fr.length:=by cases d<;>simp[AS.put]
theorem kJ{g:Option Bool}{k:Prop}{s:Sd}(q:s.vc g k):((g=none\/g=some true)->s.holds)/\k:=by
 unfold Sd.vc at q
 split at q
 ·exact⟨fun _=>trivial,q⟩
 ·split at q
  ·obtain⟨a,b⟩:=q; exact⟨fun _=>a,b⟩
  ·obtain⟨a,b⟩:=q; exact⟨fun hg=>a (by rcases hg with e|e<;>cases e; rfl),b⟩
theorem WX{s:AS}(R:Rp m s.fr){g:Option (Nat×Bool)}{g':Option Bool}(q:TQ m g=some g'):(gv g s=some true/\(g'=none\/g'=some true))\/(gv g s=some false/\g'=some false):=by
 unfold TQ at q
 split at q
 ·cases q; exact .inl ⟨rfl,.inl rfl⟩
 ·rename_i d w
  split at q
  ·rename_i b e
   cases q
   have hg:s.fr.getD d .any= .lit (.bool b):=R.getD e
   simp only[gv,hg]
   cases w<;>cases b<;>simp
  ·rename_i c b e
   cases q
   have hg:s.fr.getD d .any=bif c then .lit (.bool b) else T.un:=R.getD e
   cases c with
   |true=>simp only[gv,hg,cond_true]; cases w<;>cases b<;>simp
   |false=>simp only[gv,hg,cond_false]; simp
  ·cases q
theorem abR{s:AS}(R:Rp m s.fr){nx:Nat}: ∀ {xs:List X},ltX nx m xs=true->(xs.all fun x=>T.lt nx (s.ev x))=true:=by
 intro xs
 induction xs with
 |nil=>intro _; rfl
 |cons x r ih =>
  intro q
  simp only[ltX,Bool.and_eq_true] at q
  simp only[List.all_cons,Bool.and_eq_true]
  refine⟨?_,ih q.2⟩
  have:=q.1
  split at this
  ·rename_i v e; rw[R.ev e]; exact this
  ·cases this
theorem ZE{s:AS}(R:Rp m s.fr){i:Nat}: ∀ {xs:List X},abP i m xs=true->(xs.all fun x=>T.nid i (s.ev x))=true:=by
 intro xs
 induction xs with
 |nil=>intro _; rfl
 |cons x r ih =>
  intro q
  simp only[abP,Bool.and_eq_true] at q
  simp only[List.all_cons,Bool.and_eq_true]
  refine⟨?_,ih q.2⟩
  have:=q.1
  split at this
  ·rename_i v e; rw[R.ev e]; exact this
  ·cases this
theorem aey{s:AS}(R:Rp m s.fr){xs:List X}: ∀ {l:List Nat},neB m xs l=true->IW s xs l=true:=by
 intro l
 induction l with
 |nil=>intro _; rfl
 |cons d r ih =>
  intro q
  simp only[neB,Bool.and_eq_true] at q
  simp only[IW,Bool.and_eq_true]
  refine⟨?_,ih q.2⟩
  have:=q.1
  split at this
  ·rename_i i j o e
   have hg:s.fr.getD d .any= .ptr i j o:=R.getD e
   simp only[AS.obj,hg]
   exact ZE R this
  ·cases this
theorem JF{s:AS}(R:Rp m s.fr){o:aC}(q:Gv s.nx o m=true):jf o s:=by
 unfold Gv at q
 simp only[Bool.and_eq_true,Bool.or_eq_true,Bool.not_eq_true'] at q
 refine⟨fun hf=>?_,aey R q.2⟩
 have h1:ZC s.nx m o.op=true:=by
  rcases q.1 with h|h
  ·rw[hf] at h; cases h
  ·exact h
 unfold ZC at h1
 split at h1
 ·rename_i k x v e
  rw[e]
  split at h1
  ·rename_i u hu; simp only; rw[R.ev hu]; exact h1
  ·cases h1
 ·rename_i e
  rw[e]
  split at h1
  ·rename_i u hu; simp only; rw[R.ev hu]; exact h1
  ·cases h1
 ·cases h1
 ·cases h1
 ·rename_i e; rw[e]
 ·rename_i e; rw[e]
 ·rename_i op h2 h3 h4 h5 h6 h7
  have:=abR R h1
  split
  ·rename_i e; exact absurd e (h2 _ _ _)
  ·rename_i e; exact absurd e (h3 _ _ _ _ _)
  ·rename_i e; exact absurd e (h4 _ _ _)
  ·rename_i e; exact absurd e (h5 _ _ _)
  ·rfl
  ·rfl
  ·exact this
def Kz(N pn nx:Nat)(K:Fm->Hz->Prop)(s:AS):Prop:= ∃ m h,s.fr.length=N/\Rp m s.fr/\s.hp=h.ay/\s.pin=pn/\s.nx=nx/\K m h
theorem Om{k:Nat}{v:V}(q:F9 k [v]=true):v.aG.kd=k:=V.Oi (Hu q v (by simp))
theorem abS{n:Nat}{z:T}{r:Rw}(q:XY n z=some r):r.bn=List.replicate n z:=by
 unfold XY at q
 split at q<;>cases q
 ·simp[Rw.bn]
 ·simp[Rw.bn]
 ·simp only[Rw.bn,List.map_replicate]; rw[acZ]
theorem Rw.Va{j:Nat}{v:V}{r w:Rw}(q:r.set j v=some w):w.bn=r.bn.set j v.aG:=by
 unfold Rw.set at q
 split at q<;>first|(cases q; done)|(cases q; simp[Rw.bn,V.aG,Dat.aG,List.map_set])
theorem abT{k:Nat}{y:V}{r:Rw}{x:List V}(q:aev h k y=some (r,x)):P7 h.ay k y.aG= .list (r.bn++V.bn x):=by
 unfold aev at q
 split at q
 ·rename_i k' f w
  obtain⟨g,q⟩:=aP q; cases q
  simp only[V.aG,P7,V.bn,List.append_nil]
  rcases FT g with rfl|e
  ·cases r.bn<;>simp
  ·rw[e]
 ·rename_i k' f l
  obtain⟨g,q⟩:=aP q; cases q
  have:=iQ g; subst this
  simp only[V.aG,P7,Rw.bn,List.nil_append]
  cases hx:V.bn x<;>simp
 ·split at q
  ·rename_i o _ ty ko w z e
   obtain⟨g,q⟩:=aP q; cases q
   have:=iQ g; subst this
   simp[V.aG,P7,aV e,OV.aF]
  ·cases q
 ·cases q
theorem yK{r:Rw}{x:List V}:oz r x=(r.bn++V.bn x).length:=by
 unfold oz
 split
 ·simp[V.bn,Rw.dR]
 ·simp[fD,Rw.dR]
theorem abU{r r' w:Rw}{x x' z:List V}(q:aew r x r' x'=some (w,z)):w.bn++V.bn z=(r.bn++V.bn x)++(r'.bn++V.bn x'):=by
 unfold aew at q
 split at q
 ·split at q
  ·rename_i w' e; cases q; rw[Rw.Ht e]; simp[V.bn]
  ·cases q
 ·cases q; simp[wo,Rw.bn]
 ·cases q
theorem aez{k:Int}: ∀ {es:List (Int×List Bool)},vN k (es.map Oe)=(Gt k es).map fun l=>.sl 0 false (l.map T.bool):=by
 intro es
 induction es with
 |nil=>rfl
 |cons e es ih =>
  obtain⟨m,l⟩:=e
  simp only[List.map_cons,Oe,vN,T.int,Gt]
  cases k==m
  ·exact ih
  ·rfl
theorem afK{k:Int}{v:T}: ∀ {es:List (Int×List Bool)},Gt k es=none->zI k v (es.map Oe)=es.map Oe++[.fJ [.int k,v]]:=by
 intro es
 induction es with
 |nil=>intro _; rfl
 |cons e es ih =>
  obtain⟨m,l⟩:=e
  intro h
  simp only[Gt] at h
  cases hb:k==m with
  |true=>rw[hb] at h; cases h
  |false =>
   rw[hb] at h
   simp only[List.map_cons,Oe,zI,T.int,hb,cond_false,List.cons_append]
   rw[ih h]
theorem Md{N pn n nx:Nat}{d:Option Nat}{op:lF}{K:Fm->Hz->Prop}{s:AS}{dr:Bool}(hl:s.fr.length=N)(hd: ∀ i,d=some i->i<N)(R:Rp m s.fr)(hh:s.hp=h.ay)(hp:s.pin=pn)(hn:s.nx=nx)(q:abQ dr d n m h K op) :
  jQ P dr n d op (Kz N pn nx K) s:=by
 have hd': ∀ i,d=some i->i<s.fr.length:=fun i e=>by rw[hl]; exact hd i e
 have fin: ∀ {v:V} {h':Hz},K (iT d v m) h'->Kz N pn nx K {(s.put d v.aG) with hp:=h'.ay}:=fun {v h'} hk =>
  ⟨_,h',by show(s.put d v.aG).fr.length=N; rw[U9,hl],R.put (v:=v) hd' rfl,rfl,by show(s.put d v.aG).pin=pn; cases d<;>exact hp,by show(s.put d v.aG).nx=nx; cases d<;>exact hn,hk⟩
 have abV: ∀ {op:lF} {v:V},bP op=true->Ok s op v->K (iT d v m) h->jQ P dr n d op (Kz N pn nx K) s:=fun {op v} hq ho hk=>by
  rw[bK hq]
  refine⟨ho.1,?_⟩
  rw[ho.2]
  have:=fin hk
  rw[<- hh] at this
  rw[show({(s.put d v.aG) with hp:=s.hp}:AS)=s.put d v.aG by cases d<;>rfl] at this
  exact this
 unfold abQ at q
 split at q
 ·rename_i ty k x
  split at q
  ·rename_i v e
   split at q
   rename_i v' s' hb
   cases g:F9 k [v']&&v'.iY h&&tq k with
   |false=>rw[g] at q; exact q.elim
   |true =>
    rw[g] at q
    simp only[Bool.and_eq_true] at g
    simp only[cond_true] at q
    obtain⟨hs,hk⟩:=kJ q
    have ev:s.ev x=v'.aG:=by rw[R.ev e]; exact dW hb (hs (.inl rfl))
    simp only[jQ]
    rw[ev,Om g.1.1,hh,V.qU g.1.2,g.2]
    refine⟨by simp,?_⟩
    have:=fin hk
    rw[bQ] at this
    exact this
  ·exact q.elim
 ·rename_i ty k z
  cases g:z.kd==k&&z.iY h.ay&&z.free&&tq k with
  |false=>rw[g] at q; exact q.elim
  |true =>
   rw[g] at q
   simp only[jQ]
   rw[hh,g]
   refine⟨rfl,?_⟩
   have:=fin q
   rw[bQ] at this
   simp only[Option.map_some,OV.aF,wR] at this
   exact this
 ·rename_i ty k bytes z x y
  split at q
  ·rename_i a b e1 e2
   cases g:z.kd==k&&z.iY h.ay&&z.free&&tq k with
   |false=>rw[g] at q; exact q.elim
   |true =>
    rw[g] at q
    simp only[cond_true] at q
    split at q
    ·rename_i r er
     obtain⟨c,hk⟩:=q
     simp only[jQ]
     rw[R.ev e1,R.ev e2]
     simp only[V.aG]
     rw[hh,g]
     refine⟨rfl,c,?_⟩
     have:=fin hk
     rw[bQ] at this
     simp only[Option.map_some,OV.aF,V.bn,List.append_nil] at this
     have hr:r.bn=List.replicate a.toNat z:=by
      cases hz:isZero (.int a) with
      |false=>rw[hz] at er; exact abS er
      |true =>
       rw[hz] at er; cases er
       unfold isZero at hz
       split at hz
       ·rename_i e; cases e; rfl
       ·cases hz
     rw[hr] at this
     exact this
    ·obtain⟨c,hk⟩:=q
     simp only[jQ]
     rw[R.ev e1,R.ev e2]
     simp only[V.aG]
     rw[hh,g]
     refine⟨rfl,c,?_⟩
     have:=fin hk
     rw[bQ] at this
     simp only[Option.map_some,OV.aF] at this
     rw[jk,List.map_replicate,wR] at this
     exact this
  ·exact q.elim
 ·rename_i k x v
  split at q
  ·rename_i i j off v0 e1 e2
   split at q
   rename_i v' s' hb
   cases g:F9 k [v']&&v'.iY h with
   |false=>rw[g] at q; exact q.elim
   |true =>
    rw[g] at q
    simp only[Bool.and_eq_true] at g
    simp only[cond_true] at q
    have fin2: ∀ {h':Hz},K m h'->Kz N pn nx K {s with hp:=h'.ay}:=fun {h'} hk=>⟨m,h',hl,R,rfl,hp,hn,hk⟩
    have ex:s.ev x= .ptr i j off:=R.ev e1
    simp only[jQ]
    rw[ex]
    simp only
    split at q
    ·rename_i ty ko w eo
     rw[hh,aV eo]
     simp only[OV.aF]
     cases hj:Nat.beq j 0 with
     |false=>rw[hj] at q; exact q.elim
     |true =>
      have:=iQ hj; subst this
      rw[hj] at q
      simp only[cond_true] at q
      cases hb2:(Nat.beq off 0&&Nat.beq ko k) with
      |true =>
       rw[hb2] at q
       simp only[cond_true] at q
       obtain⟨hs,hk⟩:=kJ q
       have ev:s.ev v=v'.aG:=by rw[R.ev e2]; exact dW hb (hs (.inl rfl))
       simp only[Bool.and_eq_true] at hb2
       have f1:=iQ hb2.1; have f2:=iQ hb2.2; subst f1; subst f2
       rw[ev,Om g.1,V.qU g.2]
       refine⟨by simp,by simp,by simp,?_⟩
       have:=fin2 hk
       rw[bQ] at this
       simp only[BEq.rfl,Bool.and_self,cond_true,List.set_cons_zero]
       exact this
      |false =>
       rw[hb2] at q
       simp only[cond_false] at q
       cases hc:(!(Nat.beq ko 0)&&jF (bG ko) off k) with
       |false=>rw[hc] at q; exact q.elim
       |true =>
        rw[hc] at q
        simp only[cond_true] at q
        split at q
        ·rename_i w' hw
         rw[V.force_eq] at q
         obtain⟨hs,hk⟩:=kJ q
         have ev:s.ev v=v'.aG:=by rw[R.ev e2]; exact dW hb (hs (.inl rfl))
         have hb':(off==0&&ko==k)=false:=by
          rw[Bool.and_eq_false_iff] at hb2 ⊢
          rcases hb2 with hb2|hb2
          ·left; simpa using Nat.ne_of_beq_eq_false hb2
          ·right; simpa using Nat.ne_of_beq_eq_false hb2
         simp only[Bool.and_eq_true] at hc
         rw[ev,Om g.1,V.qU g.2]
         refine⟨by simp,by simp,?_,?_⟩
         ·simp only[hb',Bool.false_or,Bool.and_eq_true]; exact⟨Zx hc.1,hc.2⟩
         ·have:=fin2 hk
          rw[bQ] at this
          simp only[hb',cond_false,List.set_cons_zero,List.getD_cons_zero]
          have ew:w.aG.splice off v'.aG=w'.aG:=by
           unfold setCells at hw
           split at hw
           ·rename_i l c f1 f2
            cases hw
            unfold T.splice
            rw[V.FP f1,V.FP f2]
            simp only[V.aG,wo,JD,JE,fD]
           ·cases hw
          rw[ew]
          exact this
        ·exact q.elim
    ·rename_i ty ko r eo
     rw[hh,aV eo]
     simp only[OV.aF,V.bn,List.append_nil]
     cases hb2:(Nat.beq off 0&&Nat.beq ko k) with
     |false=>rw[hb2] at q; exact q.elim
     |true =>
      rw[hb2] at q
      simp only[cond_true] at q
      split at q
      ·rename_i r' hr
       obtain⟨hs,hk0⟩:=kJ q
       obtain⟨ZF,hk⟩:=hk0
       have ev:s.ev v=v'.aG:=by rw[R.ev e2]; exact dW hb (hs (.inl rfl))
       simp only[Bool.and_eq_true] at hb2
       have f1:=iQ hb2.1; have f2:=iQ hb2.2; subst f1; subst f2
       rw[Rw.zA] at ZF
       rw[ev,Om g.1,V.qU g.2]
       refine⟨by simp,by rw[Rw.dR]; omega,by simp,?_⟩
       have:=fin2 hk
       rw[bQ] at this
       simp only[Option.map_some,OV.aF,V.bn,List.append_nil,Rw.Va hr] at this
       simp only[BEq.rfl,Bool.and_self,cond_true]
       exact this
      ·obtain⟨hs,hk0⟩:=kJ q
       obtain⟨ZF,hk⟩:=hk0
       have ev:s.ev v=v'.aG:=by rw[R.ev e2]; exact dW hb (hs (.inl rfl))
       simp only[Bool.and_eq_true] at hb2
       have f1:=iQ hb2.1; have f2:=iQ hb2.2; subst f1; subst f2
       rw[Rw.zA] at ZF
       rw[ev,Om g.1,V.qU g.2]
       refine⟨by simp,by rw[Rw.dR]; omega,by simp,?_⟩
       have:=fin2 hk
       rw[bQ] at this
       simp only[Option.map_some,OV.aF] at this
       rw[jk,List.map_set,<- jk,Rw.RN] at this
       simp only[BEq.rfl,Bool.and_self,cond_true]
       exact this
    ·rename_i ty ko y eo
     rw[hh,aV eo]
     simp only[OV.aF]
     cases hb2:(Nat.beq off 0&&Nat.beq ko k) with
     |false=>rw[hb2] at q; exact q.elim
     |true =>
      rw[hb2] at q
      simp only[cond_true] at q
      obtain⟨hs,hk0⟩:=kJ q
      obtain⟨ZF,hk⟩:=hk0
      have ev:s.ev v=v'.aG:=by rw[R.ev e2]; exact dW hb (hs (.inl rfl))
      simp only[Bool.and_eq_true] at hb2
      have f1:=iQ hb2.1; have f2:=iQ hb2.2; subst f1; subst f2
      rw[ev,Om g.1,V.qU g.2]
      refine⟨by simp,by rw[fD]; exact ZF,by simp,?_⟩
      have:=fin2 hk
      rw[bQ] at this
      simp only[Option.map_some,OV.aF] at this
      rw[jk,List.map_set,<- jk] at this
      simp only[BEq.rfl,Bool.and_self,cond_true]
      exact this
    ·exact q.elim
  ·rename_i x0 v0 _ e1 e2
   split at q
   ·rename_i i j off s0 hb0
    split at q
    rename_i v' s' hb
    cases g:F9 k [v']&&v'.iY h&&Nat.beq off 0 with
    |false=>rw[g] at q; exact q.elim
    |true =>
     rw[g] at q
     simp only[Bool.and_eq_true] at g
     simp only[cond_true] at q
     obtain⟨hs,hk⟩:=kJ q
     have hs2:=Sd.lI.1 (hs (.inl rfl))
     have ex:s.ev x= .ptr i j off:=by rw[R.ev e1,dW hb0 hs2.1]; rfl
     have ev:s.ev v=v'.aG:=by rw[R.ev e2]; exact dW hb hs2.2
     have f1:=iQ g.2; subst f1
     obtain⟨ty,r,r',h',a1,a2,a3,a4,a5⟩:=hk.ok
     rw[Rw.zA] at a3
     simp only[jQ]
     rw[ex]
     simp only
     rw[hh,aV a1]
     simp only[OV.aF,V.bn,List.append_nil]
     rw[ev,Om g.1.1,V.qU g.1.2]
     refine⟨by simp,by rw[Rw.dR]; omega,by simp,?_⟩
     simp only[BEq.rfl,Bool.and_self,cond_true]
     rw[<- Rw.Va a2]
     refine⟨m,h',hl,R,?_,hp,hn,a5⟩
     rw[a4]; simp only[OV.aF,V.bn,List.append_nil]
   ·exact q.elim
  ·exact q.elim
 ·rename_i k x
  split at q
  ·rename_i v0 e1
   split at q
   ·rename_i i j off s0 hb0
    split at q
    ·rename_i ty ko y eo
     cases hb2:(Nat.beq off 0&&Nat.beq ko k) with
     |false=>rw[hb2] at q; exact q.elim
     |true =>
      rw[hb2] at q
      simp only[cond_true] at q
      obtain⟨hs,hk⟩:=kJ q
      have ex:s.ev x= .ptr i j off:=by rw[R.ev e1,dW hb0 (hs (.inl rfl))]; rfl
      simp only[Bool.and_eq_true] at hb2
      have f1:=iQ hb2.1; have f2:=iQ hb2.2; subst f1; subst f2
      obtain⟨v,hv,hk⟩:=hk.ok
      rw[V.seq_eq] at hk
      refine abV rfl ?_ hk
      have hj:j<y.length:=by
       rcases Nat.lt_or_ge j y.length with h|h
       ·exact h
       ·rw[List.getElem?_eq_none h] at hv; cases hv
      unfold Ok; simp only[qc,qt]; rw[ex]
      simp only[hh,aV eo,OV.aF]
      simp only[BEq.rfl,Bool.and_self,Bool.true_or,cond_true,fD]
      exact⟨⟨hj,trivial⟩,wS hv⟩
    ·exact q.elim
   ·rename_i i j off s0 hb0
    obtain⟨hs,hk⟩:=kJ q
    have ex:s.ev x=(V.ptr i j off).aG:=by rw[R.ev e1,dW hb0 (hs (.inl rfl))]; rfl
    obtain⟨ty,ko,r,eo,hk⟩:=hk.ok
    split at hk
    ·rename_i v s' hq
     obtain⟨hs',hk⟩:=kJ hk
     rw[V.seq_eq] at hk
     exact abV rfl (TN hh (u:=.ptr i j off) (by simp only[ldZ,eo]; exact hq) (hs' (.inl rfl)) ex) hk
    ·exact hk.elim
   ·exact q.elim
  ·exact q.elim
 ·rename_i k x i
  split at q
  ·rename_i v0 w0 e1 e2
   split at q
   ·rename_i o s0 n0 s1 hb0 hb1
    obtain⟨hs,hk⟩:=kJ q
    have hs2:=Sd.lI.1 (hs (.inl rfl))
    have ex:s.ev x=(V.own o).aG:=by rw[R.ev e1,dW hb0 hs2.1]; rfl
    have ei:s.ev i=(V.int n0).aG:=by rw[R.ev e2,dW hb1 hs2.2]
    obtain⟨ty,ko,r,eo,hk⟩:=hk.ok
    cases hb2:Nat.beq ko k with
    |false=>rw[hb2] at hk; exact hk.elim
    |true =>
     rw[hb2] at hk
     simp only[cond_true] at hk
     obtain⟨hr,hk⟩:=hk
     have hok:Ok s (.ia k x i) (.ptr o n0.toNat 0):=Zy hh (u:=.own o) (v:=.int n0) (r:=.ptr o n0.toNat 0) (sd:=.yes (r.rng n0)) (by simp only[iaZ,eo,hb2,dM,cond_true]) hr ex ei
     exact abV (v:=.pin o n0.toNat 0) rfl ⟨hok.1,hok.2⟩ hk
   ·exact q.elim
  ·exact q.elim
 ·rename_i str x
  split at q
  ·rename_i v0 e1
   split at q
   ·rename_i o s0 hb0
    obtain⟨hs,hk⟩:=kJ q
    have ex:s.ev x=(V.own o).aG:=by rw[R.ev e1,dW hb0 (hs (.inl rfl))]; rfl
    obtain⟨ty,ko,r,eo,hk⟩:=hk.ok
    cases hb2:(!str&& !(Nat.beq ko dI)) with
    |false=>rw[hb2] at hk; exact hk.elim
    |true =>
     rw[hb2] at hk
     simp only[cond_true] at hk
     rw[V.seq_eq] at hk
     exact abV rfl (U6 hh (u:=.own o) (r:=r.lenV) (sd:=.no) (by simp only[abJ,eo,hb2,dM,cond_true]) ex) hk
   ·exact q.elim
  ·exact q.elim
 ·rename_i ty k bytes x y
  split at q
  ·rename_i vx vy e1 e2
   split at q
   ·rename_i r' x' es
    simp only[jQ]
    rw[R.ev e1,R.ev e2,hh,abT es]
    simp only
    split at q
    ·rename_i k'
     obtain⟨c,hk⟩:=q
     have e0:(V.row k' true Rw.nil).aG= .sl k' true []:=rfl
     rw[e0]
     unfold nI at c
     rw[yK] at c
     refine⟨.inr rfl,.inl (.inl rfl),by simpa using c.1,by simpa using c.2,?_⟩
     have:=fin hk
     rw[bQ] at this
     exact this
    ·rename_i k' r hnn
     cases hb2:Nat.beq k' k with
     |false=>rw[hb2] at q; exact q.elim
     |true =>
      rw[hb2] at q
      have:=iQ hb2; subst this
      simp only[cond_true] at q
      split at q
      ·rename_i w hw
       obtain⟨c1,c2,hk⟩:=q.ok
       simp only[V.aG]
       unfold nI at c2
       rw[yK] at c1 c2
       refine⟨.inl trivial,?_,by rw[Rw.dR]; exact c2.1,by rw[Rw.dR]; exact c2.2,?_⟩
       ·rcases c1 with (c|c)|⟨c,hk2⟩
        ·left; left; exact List.eq_nil_of_length_eq_zero (by rw[Rw.dR]; exact c)
        ·left; right; intro e; rw[e] at c; simp at c
        ·right
         refine⟨c,?_⟩
         have f1:=fin hk2
         rw[<- hh] at f1
         rw[show({(s.put d (V.row k' true r).aG) with hp:=s.hp}:AS)=s.put d (.sl k' true r.bn) by cases d<;>rfl] at f1
         exact f1
       ·have:=fin hk
        rw[bQ] at this
        simp only[Option.map_some,OV.aF,Rw.Ht hw,List.append_assoc] at this
        exact this
      ·exact q.elim
    ·rename_i i
     split at q
     ·rename_i ty' ko r xx eo
      cases hb2:(Nat.beq ko k&&Nat.beq ty' ty) with
      |false=>rw[hb2] at q; exact q.elim
      |true =>
       rw[hb2] at q
       simp only[cond_true] at q
       simp only[Bool.and_eq_true] at hb2
       have f1:=iQ hb2.1; have f2:=iQ hb2.2; subst f1; subst f2
       split at q
       ·rename_i w z hw
        obtain⟨c,hk⟩:=q
        simp only[V.aG,aV eo,OV.aF]
        unfold nI at c
        rw[yK,yK] at c
        refine⟨by simp,c.1,c.2,?_⟩
        have:=fin hk
        rw[bQ,bQ] at this
        simp only[Option.map_some,Option.map_none,OV.aF,abU hw] at this
        exact this
       ·exact q.elim
     ·rename_i ty' ko y eo
      cases hb2:(Nat.beq ko k&&Nat.beq ty' ty) with
      |false=>rw[hb2] at q; exact q.elim
      |true =>
       rw[hb2] at q
       simp only[cond_true] at q
       simp only[Bool.and_eq_true] at hb2
       have f1:=iQ hb2.1; have f2:=iQ hb2.2; subst f1; subst f2
       obtain⟨c,hk⟩:=q
       simp only[V.aG,aV eo,OV.aF]
       unfold nI at c
       rw[yK] at c
       refine⟨by simp,by rw[fD]; exact c.1,by rw[fD]; exact c.2,?_⟩
       have:=fin hk
       rw[bQ,bQ] at this
       simp only[Option.map_some,Option.map_none,OV.aF,wo,Rw.RN] at this
       exact this
     ·exact q.elim
    ·rename_i i
     obtain⟨r,h',a1,a2,hk⟩:=q.ok
     split at hk
     ·rename_i w hw
      obtain⟨c,hk⟩:=hk
      simp only[V.aG,aV a1,OV.aF,V.bn,List.append_nil]
      unfold nI at c
      rw[yK] at c
      refine⟨by simp,by rw[Rw.dR]; exact c.1,by rw[Rw.dR]; exact c.2,?_⟩
      have:=fin hk
      rw[bQ,a2] at this
      simp only[Option.map_some,OV.aF,Rw.Ht hw,List.append_assoc] at this
      exact this
     ·exact hk.elim
    ·exact q.elim
   ·exact q.elim
  ·exact q.elim
 ·rename_i k z x
  split at q
  ·rename_i i lo hi e
   split at q
   ·rename_i ty ko r eo
    cases g:(Nat.beq ko k&&z.kd==k&&z.iY h.ay&&z.free) with
    |false=>rw[g] at q; exact q.elim
    |true =>
     rw[g] at q
     simp only[cond_true] at q
     obtain⟨⟨c1,c2⟩,hk⟩:=q
     simp only[Bool.and_eq_true] at g
     obtain⟨⟨⟨g1,g2⟩,g3⟩,g4⟩:=g
     have f1:=iQ g1; subst f1
     simp only[jQ]
     rw[R.ev e]
     simp only[V.aG,hh,aV eo,OV.aF]
     refine⟨by simp[g2,g3,g4],by simp[Rw.dR,c2,V.bn],?_⟩
     have el:(r.take lo).bn++V.bn (List.replicate (hi-lo) (BD z))=List.take lo (r.bn++V.bn [])++List.replicate (hi-lo) z++List.drop hi (r.bn++V.bn []):=by
      rw[Rw.Aw,jk,List.map_replicate,wR]
      simp[V.bn,Rw.dR,c2]
     cases d with
     |none =>
      simp only at hk
      refine⟨_,_,hl,R,?_,hp,hn,hk⟩
      rw[bQ]
      simp only[Option.map_some,OV.aF,el]
     |some dd =>
      simp only at hk
      have:=fin hk
      rw[bQ] at this
      simp only[Option.map_some,OV.aF,el] at this
      exact this
   ·exact q.elim
  ·exact q.elim
 ·rename_i ty k z nn ps
  split at q
  ·rename_i vs s' hb
   split at q
   ·rename_i l hl
    cases g:((z.kd==k)&&z.free&&F9 k vs&&Cc h vs&&Nat.ble (nn*bG k) 16777216&&tq k) with
    |false=>rw[g] at q; exact q.elim
    |true =>
     rw[g] at q
     simp only[cond_true] at q
     obtain⟨hs,hk⟩:=kJ q
     have he:=tX R hb (hs (.inl rfl))
     have he':(ps.map fun p=>s.ev p.2)=V.bn vs:=by rw[<- he]; simp
     simp only[Bool.and_eq_true] at g
     obtain⟨⟨⟨⟨⟨g1,g2⟩,g3⟩,g4⟩,g5⟩,g6⟩:=g
     obtain⟨i1,i2⟩:=U7 hl he' g3
     have e:V.bn (List.replicate nn (BD z))=List.replicate nn z:=by rw[jk,List.map_replicate,wR]
     rw[e] at i2
     simp only[jQ]
     rw[i1,i2,he',hh,FQ g4,g1,g2,g5,g6]
     refine⟨rfl,?_⟩
     have:=fin hk
     rw[bQ] at this
     simp only[Option.map_some,OV.aF,Rw.bn,List.nil_append] at this
     exact this
   ·exact q.elim
  ·exact q.elim
 ·rename_i x
  split at q
  ·rename_i k' f r e
   obtain⟨q1,q2⟩:=q
   simp only[jQ]
   rw[R.ev e]
   have f1:=fun hz=>fin (q1 hz)
   have f2:=fin q2
   rw[<- hh] at f1 f2
   refine⟨fun hl=>?_,?_⟩
   ·have:=f1 (by rw[<- Rw.dR]; exact congrArg List.length hl)
    rw[show({(s.put d (V.bool true).aG) with hp:=s.hp}:AS)=s.put d (.lit (.bool true)) by cases d<;>rfl] at this
    exact this
   ·rw[show({(s.put d (V.bool false).aG) with hp:=s.hp}:AS)=s.put d (.lit (.bool false)) by cases d<;>rfl] at f2
    exact f2
  ·rename_i i e
   split at q
   ·rename_i ty ko r eo
    cases hb:Nat.beq ko dI with
    |true=>rw[hb] at q; exact q.elim
    |false =>
     rw[hb] at q
     obtain⟨q1,q2⟩:=q
     simp only[jQ]
     rw[R.ev e]
     have f1:=fun hz=>fin (q1 hz)
     have f2:=fin q2
     rw[<- hh] at f1 f2
     simp only[V.aG,hh,aV eo,OV.aF]
     refine⟨fun hl=>?_,?_,Nat.ne_of_beq_eq_false hb⟩
     ·have:=f1 (by rw[<- Rw.dR]; simpa [V.bn] using congrArg List.length hl)
      rw[show({(s.put d (V.bool true).aG) with hp:=s.hp}:AS)=s.put d (.lit (.bool true)) by cases d<;>rfl] at this
      exact this
     ·rw[show({(s.put d (V.bool false).aG) with hp:=s.hp}:AS)=s.put d (.lit (.bool false)) by cases d<;>rfl] at f2
      exact f2
   ·exact q.elim
  ·exact q.elim
 ·rename_i ty
  simp only[jQ]
  have:=fin q
  rw[bQ] at this
  rw[hh]
  exact this
 ·rename_i z x i
  split at q
  ·rename_i o k e1 e2
   split at q
   ·rename_i ty es eo
    obtain⟨q1,q2⟩:=q
    rw[bK rfl]
    simp only[qc,qt]
    rw[R.ev e1,R.ev e2]
    simp only[V.aG,T.int,hh,aV eo,OV.aF,List.map_nil,List.append_nil,aez]
    refine⟨trivial,?_⟩
    cases hg:Gt k es with
    |some l =>
     have f1:=fin (q1 l hg)
     rw[<- hh] at f1
     rw[show({(s.put d (V.fJ [.row 0 false (.bools l),.bool true]).aG) with hp:=s.hp}:AS)=s.put d (.fJ [.sl 0 false (l.map T.bool),.lit (.bool true)]) by cases d<;>rfl] at f1
     exact f1
    |none =>
     have f2:=fin (q2 hg)
     rw[<- hh] at f2
     rw[show({(s.put d (V.fJ [BD z,.bool false]).aG) with hp:=s.hp}:AS)=s.put d (.fJ [(BD z).aG,.lit (.bool false)]) by cases d<;>rfl,wR] at f2
     exact f2
   ·exact q.elim
  ·exact q.elim
 ·rename_i x i v
  split at q
  ·rename_i o k w e1 e2 e3
   split at q
   rename_i v' s' hb
   split at q
   ·rename_i ty es eo
    cases g:F9 0 [v']&&v'.iY h with
    |false=>rw[g] at q; exact q.elim
    |true =>
     rw[g] at q
     simp only[Bool.and_eq_true] at g
     simp only[cond_true] at q
     obtain⟨hs,c,hk⟩:=kJ q
     have ev:s.ev v=v'.aG:=by rw[R.ev e3]; exact dW hb (hs (.inl rfl))
     have hkd:=Om g.1
     have hst:=V.qU g.2
     simp only[jQ]
     rw[R.ev e1,R.ev e2,ev]
     simp only[V.aG,T.int,hh,aV eo,OV.aF,List.map_nil,List.append_nil]
     refine⟨trivial,?_,?_⟩
     ·rw[hkd]
      have:v'.aG.wC h.ay=true:=by
       revert hst hkd
       cases v'.aG<;>simp[T.iY,T.kd]
      rw[this]; rfl
     ·have hK:Kz N pn nx K {s with hp:=Hz.ay ((o,some (.map ty es [(k,v')]))::h)}:=⟨m,_,hl,R,rfl,hp,hn,hk⟩
      rw[bQ] at hK
      have:=afK (v:=v'.aG) c
      simp only[T.int] at this
      rw[this]
      exact hK
   ·exact q.elim
  ·exact q.elim
 ·exact q.elim
end
section
variable {P:Program} {m:Fm} {h:Hz}
theorem Kz.put{N pn nx:Nat}{K:Fm->Hz->Prop}{s:AS}{d:Option Nat}{v:V}{t:T}{h':Hz}(hl:s.fr.length=N)(hd: ∀ i,d=some i->i<N)(R:Rp m s.fr)(hp:s.pin=pn)(hn:s.nx=nx)(ht:t=v.aG)(hk:K (iT d v m) h') :
  Kz N pn nx K {(s.put d t) with hp:=h'.ay}:=by
 subst ht
 exact⟨_,h',by show(s.put d v.aG).fr.length=N; rw[U9,hl],R.put (v:=v) (fun i e=>by rw[hl]; exact hd i e) rfl,rfl,by show(s.put d v.aG).pin=pn; cases d<;>exact hp,by show(s.put d v.aG).nx=nx; cases d<;>exact hn,hk⟩
theorem JG{N pn nx n:Nat}{K:Fm->Hz->Prop}{KW:Nat->Fm->Hz->Prop}{s:AS}{d:Option Nat}{dr:Bool}{g:Option Bool}{f:FuncId}{l:List V}(hl:s.fr.length=N)(hd: ∀ i,d=some i->i<N)(R:Rp m s.fr)(hh:s.hp=h.ay)(hp:s.pin=pn)(hn:s.nx=nx)
  (hg:g=none\/g=some true) (q:ah P dr g f l h n (fun v h'=>v.seq fun v=>K (iT d (qZ g v) m) h') (fun k v h'=>v.seq fun v=>KW k (iT d v m) h')) (hq:dr=true-> ∀ (v:V) (h':Hz),¬ (v.seq fun v=>KW 0 (iT d v m) h')) :
  kU P dr n d f (V.bn l) (Kz N pn nx K) s\/(dr=false/\ ∃ k,y7 P f (V.bn l) s.hp n k fun t hp=>Kz N pn (nx+k) (KW k) {(s.put d t) with hp:=hp,nx:=s.nx+k}):=by
 unfold kU
 rw[hh]
 rcases q.ok with q|⟨rfl,rfl,k,q⟩|⟨_,hdr,_,⟨_,_,v,o,_,_,hk⟩,_⟩
 rotate_left
 rotate_left
 ·exact absurd hk (hq hdr _ _)
 rotate_left
 ·refine .inr ⟨rfl,k,q.mono ?_⟩
  rintro t hp' ⟨v,h',rfl,rfl,hk⟩
  rw[V.seq_eq] at hk
  obtain⟨m',h'',a1,a2,a3,a4,_,a6⟩:=Kz.put (K:=KW k) hl hd R hp hn rfl hk
  exact⟨m',h'',a1,a2,a3,a4,by show s.nx+k=nx+k; rw[hn],a6⟩
 left
 rcases hg with rfl|rfl
 ·refine aO.mono q ?_
  rintro t hp' ⟨v,h',e1,e2,e3,hk⟩
  rw[V.seq_eq] at hk
  subst e2
  refine⟨fun e=>⟨by rw[(e3 e).1],(e3 e).2⟩,Kz.put (v:=v) hl hd R hp hn e1 hk⟩
 ·rcases q with ⟨v,c,hf,hk⟩|⟨hdr,c,_⟩
  rotate_left
  ·refine aO.mono (c rfl) ?_
   rintro t hp' ⟨v,h',e1,e2,hk⟩
   rw[V.seq_eq] at hk
   subst e2
   exact⟨fun e=>(by rw[hdr] at e; cases e),Kz.put (v:=qZ (some true) v) hl hd R hp hn (e1.trans (FU v).symm) hk⟩
  rw[V.seq_eq] at hk
  refine aO.mono (c rfl) ?_
  rintro t hp' ⟨e1,e2⟩
  subst e2
  refine⟨fun _=>⟨rfl,by rw[e1]; exact V.qK v hf⟩,Kz.put (v:=qZ (some true) v) hl hd R hp hn (by rw[e1]; exact(FU v).symm) hk⟩
theorem wU{N pn nx n:Nat}{K:Fm->Hz->Prop}{s:AS}{d:Option Nat}{dr:Bool}{g:Option Bool}{f:FuncId}{l:List V}(hl:s.fr.length=N)(hd: ∀ i,d=some i->i<N)(R:Rp m s.fr)(hh:s.hp=h.ay)(hp:s.pin=pn)(hn:s.nx=nx)
  (hg:g=none\/g=some true) (q:ah P dr g f l h n (fun v h'=>v.seq fun v=>K (iT d (qZ g v) m) h') (fun _ _ _=>False)):kU P dr n d f (V.bn l) (Kz N pn nx K) s:=by
 rcases JG (KW:=fun _ _ _=>False) hl hd R hh hp hn hg ⟨q.ok.imp id fun h=>h.imp (fun⟨a,b,k,c⟩=>⟨a,b,k,c.mono fun _ _ ⟨_,_,_,_,h⟩=>h.elim⟩) (fun⟨a,b,d,c⟩=>⟨a,b,d,c.mono fun _ _ ⟨_,_,_,_,h⟩=>h.elim⟩)⟩ (fun _ v h' hk=>by rw[V.seq_eq] at hk; exact hk) with h|⟨_,k,⟨t,hp',hk⟩,_⟩
 ·exact h
 ·obtain⟨_,_,_,_,_,_,_,hk⟩:=hk; exact hk.elim
theorem ah.guard{dr:Bool}{f:FuncId}{args:List V}{n:Nat}{K:V->Hz->Prop}{KW:Nat->V->Hz->Prop}(q:ah P dr (some false) f args h n K KW): ∃ v,K v h:=by
 rcases q.ok with (⟨v,_,_,k⟩|⟨_,_,k⟩)|⟨h1,_⟩|⟨h1,_⟩
 ·exact⟨v,k⟩
 ·exact⟨_,k rfl⟩
 ·cases h1
 ·cases h1
theorem WY{dr fl:Bool}{a b c:Prop}:Dl dr fl a b c↔(dr=false/\a)\/(dr=true/\bif fl then c else b):=by
 cases dr<;>cases fl<;>simp[Dl]
theorem sO{dr fl:Bool}{C:Bool->Prop}(q:Dl dr fl (C false) (C true) (C false)):C (dr&& !fl):=by
 cases dr<;>cases fl<;>exact q
theorem TR{N pn nx n:Nat}{KK:Nat->Fm->Hz->Prop}{s:AS}{o:aC}{dr:Bool}(hl:s.fr.length=N)(hd: ∀ i,o.d=some i->i<N)(R:Rp m s.fr)(hh:s.hp=h.ay)(hp:s.pin=pn)(hn:s.nx=nx)
  (q:aex P dr nx n o KK m h):(gv o.g s=some true/\jf o s/\(jQ P (o.dr dr) n o.d o.op (Kz N pn nx (KK 0)) s\/opW P dr n o.d o.op (fun s'=> ∃ k,Kz N pn (nx+k) (KK k) s') s))\/(gv o.g s=some false/\Kz N pn nx (KK 0) (s.put o.d T.un)):=by
 unfold aex at q
 split at q
 ·exact q.elim
 ·rename_i g hg
  cases hf:Gv nx o m with
  |false=>rw[hf] at q; exact q.elim
  |true =>
   rw[hf] at q
   simp only[cond_true] at q
   have hfl:jf o s:=JF R (by rw[hn]; exact hf)
   have un: ∀ {v:V} {h':Hz},h'=h->KK 0 (iT o.d (qZ (some false) v) m) h'->Kz N pn nx (KK 0) (s.put o.d T.un):=fun {v h'} e hk=>by
    subst e
    have:=Kz.put (s:=s) (v:=qZ (some false) v) (t:=T.un) hl hd R hp hn (TP v).symm hk
    rw[<- hh] at this
    have e2:({(s.put o.d T.un) with hp:=s.hp}:AS)=s.put o.d T.un:=by
     cases o.d<;>rfl
    rw[e2] at this
    exact this
   rcases WX R hg with ⟨h1,h2⟩|⟨h1,rfl⟩
   ·refine .inl ⟨h1,hfl,?_⟩
    split at q
    ·rename_i f xs eo
     split at q
     ·rename_i l sd hb
      obtain⟨hs,q⟩:=kJ q
      have ed:o.dr dr=(dr&& !o.fl):=by unfold aC.dr; rw[eo]
      rw[ed,eo]
      show kU P (dr&& !o.fl) n o.d f (xs.map s.ev) _ s\/(dr=false/\ ∃ k,y7 P f (xs.map s.ev) s.hp n k _)
      rw[tX R hb (hs h2)]
      split at q
      ·rw[WY] at q
       rcases q with ⟨e,q⟩|q
       ·rw[e]
        exact(JG (g:=none) hl hd R hh hp hn h2 q (fun e=>by cases e)).imp id fun⟨a,k,b⟩=>⟨a,k,b.mono fun _ _ hk=>⟨k,hk⟩⟩
       ·obtain⟨hdt,q⟩:=q
        refine .inl (wU (g:=none) hl hd R hh hp hn h2 ?_)
        rw[hdt]
        cases hf2:o.fl<;>rw[hf2] at q<;>exact q
      ·rename_i bb _
       exact .inl (wU hl hd R hh hp hn h2 (sO (C:=fun dr=>ah P dr (some bb) f l h n (fun v h'=>v.seq fun v=>KK 0 (iT o.d (qZ (some bb) v) m) h') (fun _ _ _=>False)) q))
     ·exact q.elim
    ·rename_i x xs eo
     split at q
     ·rename_i v0 l sd e1 hb
      split at q
      ·rename_i f cap s0 hb0
       obtain⟨hs,q⟩:=kJ q
       have hs2:=Sd.lI.1 (hs h2)
       have ed:o.dr dr=(dr&& !o.fl):=by unfold aC.dr; rw[eo]
       rw[ed,eo]
       left
       simp only[jQ]
       rw[R.ev e1,dW hb0 hs2.1]
       simp only[V.aG]
       rw[tX R hb hs2.2,<- wo]
       cases hbl:Nat.blt f 4096 with
       |true=>rw[hbl] at q; exact wU hl hd R hh hp hn h2 (sO (C:=fun dr=>ah P dr g f (l++cap) h n (fun v h'=>v.seq fun v=>KK 0 (iT o.d (qZ g v) m) h') (fun _ _ _=>False)) q)
       |false=>rw[hbl] at q; exact wU (l:=.agg cap::l) hl hd R hh hp hn h2 (sO (C:=fun dr=>ah P dr g (f % 4096) (.agg cap::l) h n (fun v h'=>v.seq fun v=>KK 0 (iT o.d (qZ g v) m) h') (fun _ _ _=>False)) q)
      ·exact q.elim
     ·exact q.elim
    ·rename_i hn1 hn2
     have ed:o.dr dr=dr:=by
      unfold aC.dr
      split
      ·rename_i e; exact absurd e (hn1 _ _)
      ·rename_i e; exact absurd e (hn2 _ _)
      ·rfl
     rw[ed]
     left
     split at q
     ·rename_i v sd hq
      obtain⟨hs,hk⟩:=kJ q
      rw[V.seq_eq] at hk
      obtain⟨hqu,hc,ht⟩:=ZB R hh hq (hs h2)
      rw[bK hqu]
      refine⟨hc,?_⟩
      have:=Kz.put (s:=s) (v:=qZ g v) (t:=qt s o.op) hl hd R hp hn (by rw[ht]; rcases h2 with rfl|rfl; rfl; exact(FU v).symm) hk
      rw[<- hh] at this
      have e2:({(s.put o.d (qt s o.op)) with hp:=s.hp}:AS)=s.put o.d (qt s o.op):=by cases o.d<;>rfl
      rw[e2] at this
      exact this
     ·split at q
      ·exact Md hl hd R hh hp hn q
      ·rename_i b _
       rcases h2 with h2|h2
       ·cases h2
       ·cases h2
        obtain⟨qa,_⟩:=q
        exact Md hl hd R hh hp hn (qa rfl)
   ·refine .inr ⟨h1,?_⟩
    split at q
    ·split at q
     ·obtain⟨hs,q⟩:=kJ q
      obtain⟨v,hk⟩:=ah.guard (sO (C:=fun dr=>ah P dr (some false) _ _ h n (fun v h'=>v.seq fun v=>KK 0 (iT o.d (qZ (some false) v) m) h') (fun _ _ _=>False)) q)
      rw[V.seq_eq] at hk
      exact un rfl hk
     ·exact q.elim
    ·split at q
     ·rename_i v0 l sd e1 hb
      split at q
      ·rename_i f cap s0 hb0
       obtain⟨hs,q⟩:=kJ q
       cases hbl:Nat.blt f 4096 with
       |true =>
        rw[hbl] at q
        obtain⟨v,hk⟩:=ah.guard (sO (C:=fun dr=>ah P dr (some false) f (l++cap) h n (fun v h'=>v.seq fun v=>KK 0 (iT o.d (qZ (some false) v) m) h') (fun _ _ _=>False)) q)
        rw[V.seq_eq] at hk
        exact un rfl hk
       |false =>
        rw[hbl] at q
        obtain⟨v,hk⟩:=ah.guard (sO (C:=fun dr=>ah P dr (some false) (f % 4096) (.agg cap::l) h n (fun v h'=>v.seq fun v=>KK 0 (iT o.d (qZ (some false) v) m) h') (fun _ _ _=>False)) q)
        rw[V.seq_eq] at hk
        exact un rfl hk
      ·exact q.elim
     ·exact q.elim
    ·split at q
     ·obtain⟨hs,hk⟩:=kJ q
      rw[V.seq_eq] at hk
      exact un rfl hk
     ·obtain⟨_,qb⟩:=q
      exact un (v:=.int 0) rfl (qb rfl)
theorem WZ{N pn nx n:Nat}{KK:Nat->Fm->Hz->Prop}{s:AS}{o:aC}{dr:Bool}(hl:s.fr.length=N)(hd: ∀ i,o.d=some i->i<N)(R:Rp m s.fr)(hh:s.hp=h.ay)(hp:s.pin=pn)(hn:s.nx=nx)
  (q:opZ P dr nx n o KK m h):(gv o.g s=some true/\jf o s/\(opR P dr n o (Kz N pn nx (KK 0)) s\/opW P dr n o.d o.op (fun s'=> ∃ k,Kz N pn (nx+k) (KK k) s') s))\/(gv o.g s=some false/\Kz N pn nx (KK 0) (s.put o.d T.un)):=by
 unfold opZ at q
 cases har:o.ar with
 |true =>
  rw[har] at q
  simp only at q
  unfold arZ at q
  split at q
  ·rename_i f xs eo eg
   cases hf:(o.fl&&Gv nx o m) with
   |false=>rw[hf] at q; exact q.elim
   |true =>
    rw[hf] at q
    simp only[cond_true] at q
    rw[Bool.and_eq_true] at hf
    have hfl:jf o s:=JF R (by rw[hn]; exact hf.2)
    refine .inl ⟨by rw[eg]; rfl,hfl,.inl (.inr ⟨har,hf.1,?_⟩)⟩
    split at q
    ·rename_i l sd hb
     obtain⟨hs,q⟩:=kJ q
     obtain⟨v,ob,c1,c2,c3,hk⟩:=q.ok
     rw[eo]
     refine⟨v.aG,ob.map OV.aF,c1,?_,?_,?_⟩
     ·intro o' ho'
      cases ob with
      |none=>cases ho'
      |some ob=>cases ho'; exact c2 _ rfl
     ·intro hp' he _
      rw[tX R hb (hs (.inl rfl))]
      exact c3 hp' (by rw[<- hh]; exact he)
     ·rw[V.seq_eq] at hk
      cases ob with
      |none =>
       show Kz N pn nx (KK 0) {(s.put o.d v.aG) with hp:=s.hp}
       rw[hh]
       exact Kz.put (v:=v) hl hd R hp hn rfl hk
      |some ob =>
       have e:fU s.hp n (some ob.aF)=Hz.ay ((n,some ob)::h):=by rw[bQ,hh]; rfl
       show Kz N pn nx (KK 0) {(s.put o.d v.aG) with hp:=fU s.hp n (some ob.aF)}
       rw[e]
       exact Kz.put (v:=v) hl hd R hp hn rfl hk
    ·exact q.elim
  ·exact q.elim
 |false =>
 rw[har] at q
 simp only at q
 cases had:o.ad with
 |false =>
  rw[had] at q
  rcases TR hl hd R hh hp hn q with ⟨h1,h2,h3⟩|h1
  ·exact .inl ⟨h1,h2,h3.imp (fun h=>.inl ⟨har,jP (fun s' _ _ h=>⟨fun e=>(by rw[had] at e; cases e),h⟩) h⟩) id⟩
  ·exact .inr h1
 |true =>
  rw[had] at q
  simp only at q
  unfold adZ at q
  split at q
  ·rename_i f xs eo eg
   cases hf:(o.fl&&Gv nx o m) with
   |false=>rw[hf] at q; exact q.elim
   |true =>
    rw[hf] at q
    simp only[cond_true] at q
    rw[Bool.and_eq_true] at hf
    have hfl:jf o s:=JF R (by rw[hn]; exact hf.2)
    refine .inl ⟨by rw[eg]; rfl,hfl,.inl (.inl ⟨har,?_⟩)⟩
    split at q
    ·rename_i l sd hb
     obtain⟨hs,q⟩:=kJ q
     have ed:o.dr dr=false:=by unfold aC.dr; rw[eo,hf.1]; cases dr<;>rfl
     rw[ed,eo]
     show aO P f (xs.map s.ev) s.hp n _
     rw[tX R hb (hs (.inl rfl)),hh]
     have hx: ∀ {h':Hz} {s':AS},s'.hp=h'.ay->(h'=h\/ ∃ o,h'=(n,some o)::h/\h.get n=none)-> ∀ i ob,s.hp i=some ob->s'.hp i=some ob:=by
      intro h' s' e1 e2 i ob hi
      rw[e1]
      rw[hh] at hi
      rcases e2 with rfl|⟨o',rfl,hn0⟩
      ·exact hi
      ·rw[bQ]
       have hne:i≠n:=by
        rintro rfl
        simp only[Hz.ay,hn0] at hi; cases hi
       simp only[upd,if_neg hne]; exact hi
     rcases q.ok with q|⟨_,e,_⟩|⟨_,_,hn0,q⟩
     ·refine aO.mono q ?_
      rintro t hp' ⟨v,h',e1,e2,e3,hk⟩
      rw[V.seq_eq] at hk
      subst e2
      exact⟨(fun e=>by cases e),fun _=>hx rfl (.inl (e3 rfl).1),Kz.put (v:=v) hl hd R hp hn e1 hk⟩
     ·cases e
     ·refine aO.mono q ?_
      rintro t hp' ⟨v,o',e1,e2,hk⟩
      rw[V.seq_eq] at hk
      subst e2
      exact⟨(fun e=>by cases e),fun _=>hx rfl (.inr ⟨o',rfl,hn0⟩),Kz.put (v:=v) hl hd R hp hn e1 hk⟩
    ·exact q.elim
  ·exact q.elim
theorem QH{N pn ml:Nat}{K:Fm->Hz->Nat->Prop}{dr:Bool}: ∀ {nx:Nat} {ops:List aC} {i:Nat} {m:Fm} {h:Hz} {s:AS},Ol N ops=true->s.fr.length=N->Rp m s.fr->s.hp=h.ay->s.pin=pn->s.nx=nx ->
  QG P dr ml nx K ops i m h->oH P dr ml (fun s=> ∃ m h,s.fr.length=N/\Rp m s.fr/\s.hp=h.ay/\s.pin=pn/\K m h s.nx) ops i s:=by
 intro nx ops
 induction ops generalizing nx with
 |nil =>
  intro i m h s _ hl R hh hp hn q
  exact⟨m,h,hl,R,hh,hp,by show K m h (s.nx+ml); rw[hn]; exact q⟩
 |cons o r ih =>
  intro i m h s hd hl R hh hp hn q
  simp only[Ol,Bool.and_eq_true] at hd
  have hd1: ∀ j,o.d=some j->j<N:=fun j e=>by
   have:=hd.1
   rw[e] at this
   simpa using this
  simp only[oH]
  rw[zh]
  have next: ∀ s',s'.nx=s.nx->s'.pin=s.pin->Kz N pn nx (QG P dr ml nx K r (i+1)) s'->oH P dr ml (fun s=> ∃ m h,s.fr.length=N/\Rp m s.fr/\s.hp=h.ay/\s.pin=pn/\K m h s.nx) r (i+1) s':=by
   rintro s' _ _ ⟨m',h',a1,a2,a3,a4,a5,a6⟩
   exact ih hd.2 a1 a2 a3 a4 a5 a6
  have afL: ∀ s',(∃ k,Kz N pn (nx+k) (QG P dr ml (nx+k) K r (i+1)) s')->oH P dr ml (fun s=> ∃ m h,s.fr.length=N/\Rp m s.fr/\s.hp=h.ay/\s.pin=pn/\K m h s.nx) r (i+1) s':=by
   rintro s' ⟨k,m',h',a1,a2,a3,a4,a5,a6⟩
   exact ih hd.2 a1 a2 a3 a4 a5 a6
  rcases WZ hl hd1 R hh hp hn q with ⟨h1,h2,h3⟩|⟨h1,h2⟩
  ·refine .inl ⟨h1,h2,?_⟩
   rw[hn]
   exact h3.imp (fun h=>h.imp (fun h=>⟨h.1,jP (fun s' a b c=>⟨c.1,next s' a b c.2⟩) h.2⟩) fun h=>⟨h.1,h.2.1,Ji (fun s' a b c=>next s' a b c) h.2.2⟩) (Qp afL)
  ·exact .inr ⟨h1,next _ (fC _ _ _) (iD _ _ _) h2⟩
theorem wu{N pn:Nat}: ∀ {c:eG} {Q:Qz} {m:Fm} {h:Hz} {s:AS},rD N c=true->s.fr.length=N->Rp m s.fr->s.hp=h.ay->s.pin=pn->az P N pn c Q m h s.nx->aw P c (Lift N pn Q) s:=by
 intro c
 induction c with
 |skip=>intro Q m h s _ hl R hh hp q; exact⟨m,h,hl,R,hh,hp,q⟩
 |reg dr ops =>
  intro Q m h s hd hl R hh hp q
  exact QH hd hl R hh hp rfl q
 |seq a b ia ib =>
  intro Q m h s hd hl R hh hp q
  simp only[rD,Bool.and_eq_true] at hd
  simp only[aw]
  refine oW ?_ (ia hd.1 hl R hh hp q)
  rintro e s' ⟨m',h',b1,b2,b3,b4,b5⟩
  cases e with
  |normal=>exact ib hd.2 b1 b2 b3 b4 b5
  |exit j=>exact⟨m',h',b1,b2,b3,b4,b5⟩
  |ret=>exact⟨m',h',b1,b2,b3,b4,b5⟩
 |cond c a b ia ib =>
  intro Q m h s hd hl R hh hp q
  simp only[rD,Bool.and_eq_true] at hd
  simp only[az] at q
  simp only[aw]
  split at q
  ·rename_i t e
   rw[R.ev e]
   obtain⟨q1,q2⟩:=q
   exact⟨fun e=>ia hd.1 hl R hh hp (q1 e),fun e=>ib hd.2 hl R hh hp (q2 e)⟩
  ·exact q.elim
 |blk id b ib =>
  intro Q m h s hd hl R hh hp q
  simp only[aw]
  refine oW ?_ (ib hd hl R hh hp q)
  rintro e s' ⟨m',h',b1,b2,b3,b4,b5⟩
  cases e with
  |normal=>exact⟨m',h',b1,b2,b3,b4,b5⟩
  |ret=>exact⟨m',h',b1,b2,b3,b4,b5⟩
  |exit j =>
   simp only at b5 ⊢
   by_cases e:j=id
   ·subst e; simp at b5 ⊢; exact⟨m',h',b1,b2,b3,b4,b5⟩
   ·have e1:Nat.beq j id=false:=by
     cases hb:Nat.beq j id with
     |false=>rfl
     |true=>exact absurd (iQ hb) e
    have e2:(j==id)=false:=by simpa using e
    rw[e1] at b5; rw[e2]
    exact⟨m',h',b1,b2,b3,b4,b5⟩
 |exit i=>intro Q m h s _ hl R hh hp q; exact⟨m,h,hl,R,hh,hp,q⟩
 |ret=>intro Q m h s _ hl R hh hp q; exact⟨m,h,hl,R,hh,hp,q⟩
 |loop b ib =>
  intro Q m h s _ hl R hh hp q
  have:=q.ok s.fr hl R
  rw[<- hh,<- hp] at this
  simp only[aw]
  rw[hp] at this
  have e:(⟨s.fr,s.hp,s.nx,pn⟩:AS)=s:=by rw[<- hp]
  rw[e] at this
  exact this
end
end Go.Ab
