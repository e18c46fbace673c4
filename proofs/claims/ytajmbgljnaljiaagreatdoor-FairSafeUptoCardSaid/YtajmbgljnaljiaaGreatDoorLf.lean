/-
 The typed layer, part 1: typed values, rows, objects. Definitions alone.
-/
import Derived.Test.YtajmbgljnaljiaaGreatDoorLd
import Derived.Test.YtajmbgljnaljiaaGreatDoorLc
namespace Go.Ab
inductive Dat where
 |lin (x:Lin)
 |Rn (x:zG)
 |rule (x:Rule)
 |kS (x:aO)
 |cnt (x:Cnt)
 |prop (x:Prop')
 |clause (x:Clause)
 |elem (x:Elem)
@[reducible] def aef(l:List Bool):T:=.sl 0 false (l.map T.bool)
@[reducible] def aeg(l:List (List Int)):T:=.sl 0 false (l.map Go.Ab.ints)
inductive Rw where
 |ints (l:List Int)
 |bools (l:List Bool)
 |strs (l:List Str)
 |jm (l:List (List Int))
 |mP (l:List (List Bool))
 |mQ (l:List (List (List Int)))
 |Am (l:List Lin)
 |qE (l:List zG)
 |rules (l:List Rule)
 |cnts (l:List Cnt)
 |clauses (l:List Clause)
 |elems (l:List Elem)
 |nil
inductive V where
 |int (n:Int)
 |bool (b:Bool)
 |u8 (n:Int)
 |str (s:Str)
 |dat (d:Dat)
 |agg (l:List V)
 |row (k:Nat) (full:Bool) (r:Rw)
 |JD (k:Nat) (full:Bool) (l:List V)
 |ref (k:Nat) (v:V)
 |own (i:Nat)
 |inn (i:Nat)
 |pin (i j off:Nat)
 |ptr (i j off:Nat)
 |kR (i lo hi:Nat)
 |fn (f:FuncId) (cap:List V)
 |fP (l:List V)
 |cnd (b:Bool) (v:V)
 |raw (t:T)
def Dat.aG:Dat->T
 | .lin x=>Td x
 | .Rn x=>Ql x
 | .rule x=>LY x
 | .kS x=>acZ x
 | .cnt x=>Tf x
 | .prop x=>ac0 x
 | .clause x=>Hr x
 | .elem x=>eG x
def Dat.kd:Dat->Nat
 | .lin _=>5
 | .Rn _=>7
 | .rule _=>19
 | .kS _=>11
 | .cnt _=>3
 | .prop _=>7
 | .clause _=>4
 | .elem _=>3
def Rw.bn:Rw->List T
 | .ints l=>l.map T.int
 | .bools l=>l.map T.bool
 | .strs l=>l.map eS
 | .jm l=>l.map Go.Ab.ints
 | .mP l=>l.map aef
 | .mQ l=>l.map aeg
 | .Am l=>l.map Td
 | .qE l=>l.map Ql
 | .rules l=>l.map LY
 | .cnts l=>l.map Tf
 | .clauses l=>l.map Hr
 | .elems l=>l.map eG
 | .nil=>[]
mutual
def V.aG:V->T
 | .int n=>.int n
 | .bool b=>.bool b
 | .u8 n=>.lit (.int .u8 n)
 | .str s=>eS s
 | .dat d=>d.aG
 | .agg l=>.agg (V.bn l)
 | .row k f r=>.sl k f r.bn
 | .JD k f l=>.sl k f (V.bn l)
 | .ref k v=>.ref k v.aG
 | .own i=>.own i
 | .inn i=>.own i
 | .pin i j off=>.ptr i j off
 | .ptr i j off=>.ptr i j off
 | .kR i lo hi=>.kR i lo hi
 | .fn f cap=>.fn f (V.bn cap)
 | .fP l=>.fP (V.bn l)
 | .cnd b v=>bif b then v.aG else T.un
 | .raw t=>t
def V.bn:List V->List T
 |[]=>[]
 |v::r=>v.aG::V.bn r
end
def Dat.cells:Dat->List V
 | .lin x=>[.int x.c,.int x.n,.int x.t,.int x.f]
 | .Rn x=>[.int x.message,.int x.Ep,.int x.bound.c,.int x.bound.n,.int x.bound.t,.int x.bound.f]
 | .rule x=>[.str x.name,.int x.kind,.int x.fr,.int x.to,.int x.gB,.int x.AB,.row 0 false (.ints x.response),.row 7 false (.qE x.guards),.row 0 false (.ints x.ex),.row 0 false (.ints x.all),.int x.read,.int x.write,.row 0 false (.ints x.send),.int x.pos,.row 0 false (.ints x.left),.row 0 false (.ints x.right),.row 0 false (.ints x.parent),.int x.direction]
 | .kS x=>[.str x.name,.int x.topology,.row 0 false (.strs x.states),.row 0 false (.strs x.messages),.row 0 false (.strs x.values),.int x.fault,.row 5 false (.Am x.dD),.row 0 false (.ints x.initial),.row 0 false (.ints x.leader),.row 19 false (.rules x.rules)]
 | .cnt x=>[.row 0 false (.ints x.states),.int x.least]
 | .prop x=>[.str x.name,.int x.kind,.row 0 false (.ints x.start),.row 3 false (.cnts x.bad),.row 0 false (.ints x.adjacent),.row 0 false (.ints x.goal)]
 | .clause x=>[.row 0 false (.jm x.each),.row 0 false (.ints x.values),.row 0 false (.ints x.some)]
 | .elem x=>[.int x.value,.row 0 false (.ints x.counts)]
theorem Dat.FP(d:Dat):d.aG= .agg (V.bn d.cells):=by cases d<;>rfl
theorem Dat.aeh(d:Dat):d.aG.kd=d.kd:=by cases d<;>rfl
def Rw.len:Rw->Nat
 | .ints l=>l.length
 | .bools l=>l.length
 | .strs l=>l.length
 | .jm l=>l.length
 | .mP l=>l.length
 | .mQ l=>l.length
 | .Am l=>l.length
 | .qE l=>l.length
 | .rules l=>l.length
 | .cnts l=>l.length
 | .clauses l=>l.length
 | .elems l=>l.length
 | .nil=>0
def Rw.lenV:Rw->V
 | .ints l=>.int l.length
 | .bools l=>.int l.length
 | .strs l=>.int l.length
 | .jm l=>.int l.length
 | .mP l=>.int l.length
 | .mQ l=>.int l.length
 | .Am l=>.int l.length
 | .qE l=>.int l.length
 | .rules l=>.int l.length
 | .cnts l=>.int l.length
 | .clauses l=>.int l.length
 | .elems l=>.int l.length
 | .nil=>.int 0
def Rw.rng(n:Int):Rw->Prop
 | .ints l=>0<=n/\n<l.length
 | .bools l=>0<=n/\n<l.length
 | .strs l=>0<=n/\n<l.length
 | .jm l=>0<=n/\n<l.length
 | .mP l=>0<=n/\n<l.length
 | .mQ l=>0<=n/\n<l.length
 | .Am l=>0<=n/\n<l.length
 | .qE l=>0<=n/\n<l.length
 | .rules l=>0<=n/\n<l.length
 | .cnts l=>0<=n/\n<l.length
 | .clauses l=>0<=n/\n<l.length
 | .elems l=>0<=n/\n<l.length
 | .nil=>False
def Rw.qp(n:Int):Rw->Prop
 | .ints l=>0<=n/\n<=l.length
 | .bools l=>0<=n/\n<=l.length
 | .strs l=>0<=n/\n<=l.length
 | .jm l=>0<=n/\n<=l.length
 | .mP l=>0<=n/\n<=l.length
 | .mQ l=>0<=n/\n<=l.length
 | .Am l=>0<=n/\n<=l.length
 | .qE l=>0<=n/\n<=l.length
 | .rules l=>0<=n/\n<=l.length
 | .cnts l=>0<=n/\n<=l.length
 | .clauses l=>0<=n/\n<=l.length
 | .elems l=>0<=n/\n<=l.length
 | .nil=>n=0
def Rw.get(i:Nat):Rw->V
 | .ints l=>.int (l.getD i 0)
 | .bools l=>.bool (l.getD i false)
 | .strs l=>.str (l.getD i [])
 | .jm l=>.row 0 false (.ints (l.getD i []))
 | .mP l=>.row 0 false (.bools (l.getD i []))
 | .mQ l=>.row 0 false (.jm (l.getD i []))
 | .Am l=>.dat (.lin (l.getD i default))
 | .qE l=>.dat (.Rn (l.getD i default))
 | .rules l=>.dat (.rule (l.getD i default))
 | .cnts l=>.dat (.cnt (l.getD i default))
 | .clauses l=>.dat (.clause (l.getD i default))
 | .elems l=>.dat (.elem (l.getD i default))
 | .nil=>.raw .any
def Rw.take(i:Nat):Rw->Rw
 | .ints l=>.ints (l.take i)
 | .bools l=>.bools (l.take i)
 | .strs l=>.strs (l.take i)
 | .jm l=>.jm (l.take i)
 | .mP l=>.mP (l.take i)
 | .mQ l=>.mQ (l.take i)
 | .Am l=>.Am (l.take i)
 | .qE l=>.qE (l.take i)
 | .rules l=>.rules (l.take i)
 | .cnts l=>.cnts (l.take i)
 | .clauses l=>.clauses (l.take i)
 | .elems l=>.elems (l.take i)
 | .nil=>.nil
def Rw.drop(i:Nat):Rw->Rw
 | .ints l=>.ints (l.drop i)
 | .bools l=>.bools (l.drop i)
 | .strs l=>.strs (l.drop i)
 | .jm l=>.jm (l.drop i)
 | .mP l=>.mP (l.drop i)
 | .mQ l=>.mQ (l.drop i)
 | .Am l=>.Am (l.drop i)
 | .qE l=>.qE (l.drop i)
 | .rules l=>.rules (l.drop i)
 | .cnts l=>.cnts (l.drop i)
 | .clauses l=>.clauses (l.drop i)
 | .elems l=>.elems (l.drop i)
 | .nil=>.nil
def Rw.app:Rw->Rw->Option Rw
 |r,.nil=>some r
 | .nil,r=>some r
 | .ints a,.ints b=>some (.ints (a++b))
 | .bools a,.bools b=>some (.bools (a++b))
 | .strs a,.strs b=>some (.strs (a++b))
 | .jm a,.jm b=>some (.jm (a++b))
 | .mP a,.mP b=>some (.mP (a++b))
 | .mQ a,.mQ b=>some (.mQ (a++b))
 | .Am a,.Am b=>some (.Am (a++b))
 | .qE a,.qE b=>some (.qE (a++b))
 | .rules a,.rules b=>some (.rules (a++b))
 | .cnts a,.cnts b=>some (.cnts (a++b))
 | .clauses a,.clauses b=>some (.clauses (a++b))
 | .elems a,.elems b=>some (.elems (a++b))
 |_,_=>none
def Rw.kd:Rw->Nat
 | .ints _=>0
 | .bools _=>0
 | .strs _=>0
 | .jm _=>0
 | .mP _=>0
 | .mQ _=>0
 | .Am _=>5
 | .qE _=>7
 | .rules _=>19
 | .cnts _=>3
 | .clauses _=>4
 | .elems _=>3
 | .nil=>0
def V.one:V->Option Rw
 | .int n=>some (.ints [n])
 | .bool b=>some (.bools [b])
 | .str s=>some (.strs [s])
 | .row 0 false (.ints l)=>some (.jm [l])
 | .row 0 false (.bools l)=>some (.mP [l])
 | .row 0 false (.jm l)=>some (.mQ [l])
 | .dat (.lin x)=>some (.Am [x])
 | .dat (.Rn x)=>some (.qE [x])
 | .dat (.rule x)=>some (.rules [x])
 | .dat (.cnt x)=>some (.cnts [x])
 | .dat (.clause x)=>some (.clauses [x])
 | .dat (.elem x)=>some (.elems [x])
 | .agg [.int a,.row 0 false (.ints c)]=>some (.elems [⟨a,c⟩])
 | .agg [.row 0 false (.ints c),.int a]=>some (.cnts [⟨c,a⟩])
 | .agg [.row 0 false (.jm e),.row 0 false (.ints v),.row 0 false (.ints s)]=>some (.clauses [⟨e,v,s⟩])
 |_=>none
def Rw.V4:List V->Option Rw
 |[]=>some .nil
 |v::r=>match v.one,Rw.V4 r with
  |some a,some b=>a.app b
  |_,_=>none
def Rw.vs:Rw->List V
 | .ints l=>l.map .int
 | .bools l=>l.map .bool
 | .strs l=>l.map .str
 | .jm l=>l.map fun c=>.row 0 false (.ints c)
 | .mP l=>l.map fun c=>.row 0 false (.bools c)
 | .mQ l=>l.map fun c=>.row 0 false (.jm c)
 | .Am l=>l.map fun c=>.dat (.lin c)
 | .qE l=>l.map fun c=>.dat (.Rn c)
 | .rules l=>l.map fun c=>.dat (.rule c)
 | .cnts l=>l.map fun c=>.dat (.cnt c)
 | .clauses l=>l.map fun c=>.dat (.clause c)
 | .elems l=>l.map fun c=>.dat (.elem c)
 | .nil=>[]
inductive OV where
 |row (ty k:Nat) (r:Rw) (x:List V)
 |box (ty k:Nat) (v:V)
 |map (ty:Nat) (es:List (Int×List Bool)) (x:List (Int×V))
 |gen (ty k:Nat) (x:List V)
def N9(e:Int×List Bool):T:=.fP [.int e.1,.sl 0 false (e.2.map T.bool)]
def abV(e:Int×V):T:=.fP [.int e.1,e.2.aG]
def OV.aF:OV->Ob
 | .row ty k r x=>⟨ty,k,r.bn++V.bn x⟩
 | .box ty k v=>⟨ty,k,[v.aG]⟩
 | .map ty es x=>⟨ty,dI,es.map N9++x.map abV⟩
 | .gen ty k x=>⟨ty,k,V.bn x⟩
abbrev Fm:=List (Nat×V)
def Fm.get(i:Nat):Fm->Option V
 |[]=>none
 |(j,v)::r=>bif Nat.beq j i then some v else Fm.get i r
abbrev Hz:=List (Nat×Option OV)
def Hz.get(i:Nat):Hz->Option OV
 |[]=>none
 |(j,o)::r=>bif Nat.beq j i then o else Hz.get i r
def Hz.ay(h:Hz):Hp:=fun i=>(h.get i).map OV.aF
mutual
def BA:T->V
 | .lit (.int .i64 n)=>.int n
 | .lit (.int .u8 n)=>.u8 n
 | .lit (.bool b)=>.bool b
 | .lit (.string b)=>.str b.data.toList
 | .sl k f []=>.row k f .nil
 | .agg l=>.agg (V4 l)
 | .fn f l=>.fn f (V4 l)
 |t=>.raw t
def V4:List T->List V
 |[]=>[]
 |t::r=>BA t::V4 r
end
def V.kd:V->Option Nat
 | .dat d=>some d.kd
 | .agg l=>some (l.length+1)
 | .cnd _ _=>none
 | .raw _=>none
 |_=>some 0
def V.cells:V->Option (List V)
 | .dat d=>some d.cells
 | .agg l=>some l
 | .cnd _ _=>none
 | .raw _=>none
 |v=>some [v]
def V.iT(h:Hz):V->Bool
 | .own i=>(h.get i).isSome
 | .ptr i _ _=>(h.get i).isSome
 | .kR i _ _=>(h.get i).isSome
 | .cnd _ _=>false
 | .raw _=>false
 | .fP _=>false
 | .inn _=>false
 | .pin _ _ _=>false
 |_=>true
def V.part(off:Nat):Nat->V->Option V
 |0,.dat d=>d.cells[off]?
 |0,.agg l=>l[off]?
 |k+1,.dat (.Rn x)=>bif (Nat.beq off 2)&&(Nat.beq k 4) then some (.dat (.lin x.bound)) else none
 |k+1,.agg l=>some (.agg ((l.drop off).take k))
 |_,_=>none
inductive VC(p k:Prop):Prop where
 |mk:p->k->VC p k
inductive Fork(b:Bool)(x y:Prop):Prop where
 |mk:(b=true->x)->(b=false->y)->Fork b x y
inductive Sd where
 |no
 |yes (p:Prop)
def Sd.holds:Sd->Prop
 | .no=>True
 | .yes p=>p
def Sd.and:Sd->Sd->Sd
 | .no,b=>b
 |a,.no=>a
 | .yes p,.yes q=>.yes (p/\q)
def Sd.imp(t:Bool)(b:Bool):Sd->Sd
 | .no=>.no
 | .yes p=>.yes (t=b->p)
def Sd.vc(g:Option Bool)(k:Prop):Sd->Prop
 | .no=>k
 | .yes p=>match g with
  |none=>VC p k
  |some b=>VC (b=true->p) k
def V.bare:V->V×Sd
 | .cnd c v=>(v,.yes (c=true))
 |v=>(v,.no)
mutual
def V.free:V->Bool
 | .own _=>false
 | .ptr _ _ _=>false
 | .kR _ _ _=>false
 | .inn _=>false
 | .pin _ _ _=>false
 | .cnd _ _=>false
 | .raw t=>t.free
 | .agg l=>V.bC l
 | .fn _ l=>V.bC l
 | .fP l=>V.bC l
 |_=>true
def V.bC:List V->Bool
 |[]=>true
 |v::r=>V.free v&&V.bC r
end
def zH(m:Fm):X->Option V
 | .t n=>m.get n
 | .c t=>some (BA t)
def evL(m:Fm):List X->Option (List V)
 |[]=>some []
 |x::r=>match zH m x,evL m r with
  |some v,some l=>some (v::l)
  |_,_=>none
abbrev zI:=Option (V×Sd)
def Mc(m:Fm)(x:X)(f:V->zI):zI :=
 match zH m x with
 |some v=>match v.bare with
  |(u,s)=>match f u with
   |some (r,s')=>some (r,s.and s')
   |none=>none
 |none=>none
def qz2(m:Fm)(x y:X)(f:V->V->zI):zI:=Mc m x fun u=>Mc m y fun v=>f u v
def okI(n:Int):Prop:= -9223372036854775808<=n/\n<9223372036854775808
def agQ(a b:Int):Int:=a.fdiv (2 ^ min b.toNat 64)
def aei(op:BinOp):V->V->zI
 | .int a,.int b=>match op with
  | .add=>some (.int (a+b),.yes (okI (a+b)))
  | .sub=>some (.int (a-b),.yes (okI (a-b)))
  | .mul=>some (.int (a*b),.yes (okI (a*b)))
  | .eql=>some (.bool (a==b),.no)
  | .neq=>some (.bool (a !=b),.no)
  | .lss=>some (.bool (decide (a<b)),.no)
  | .leq=>some (.bool (decide (a<=b)),.no)
  | .gtr=>some (.bool (decide (b<a)),.no)
  | .geq=>some (.bool (decide (b<=a)),.no)
  |_=>none
 | .u8 a,.u8 b=>match op with
  | .eql=>some (.bool (a==b),.no)
  | .neq=>some (.bool (a !=b),.no)
  | .lss=>some (.bool (decide (a<b)),.no)
  | .leq=>some (.bool (decide (a<=b)),.no)
  | .gtr=>some (.bool (decide (b<a)),.no)
  | .geq=>some (.bool (decide (b<=a)),.no)
  |_=>none
 | .str a,.str b=>match op with
  | .eql=>some (.bool (a==b),.no)
  | .neq=>some (.bool (!(a==b)),.no)
  | .add=>some (.str (a++b),.yes (a.length+b.length<=9223372036854775807))
  |_=>none
 | .raw (.lit (.int .u64 a)),.raw (.lit (.int .u64 b))=>match op with
  | .shr=>some (.raw (.lit (.int .u64 (agQ a b))),.yes (0<=b))
  | .and=>some (.raw (.lit (.int .u64 (adC .u64 a b))),.no)
  | .eql=>some (.bool (a==b),.no)
  | .geq=>some (.bool (decide (b<=a)),.no)
  |_=>none
 |_,_=>none
def Bo:X->Bool
 | .c (.lit (.bool true))=>true
 |_=>false
def yC:X->Bool
 | .c (.lit (.bool false))=>true
 |_=>false
def ac8(t:Bool)(xa xb:X):V->V->Option V
 | .bool x,.bool y=>bif Bo xa then some (.bool (t||y)) else bif yC xb then some (.bool (t&&x)) else some (.bool (bif t then x else y))
 | .int x,.int y=>some (.int (bif t then x else y))
 | .str x,.str y=>some (.str (bif t then x else y))
 |_,_=>none
def Zy(t:Bool)(xa xb:X)(a b:V×Sd):zI :=
 match a,b with
 |(a,sa),(b,sb)=>match ac8 t xa xb a b with
  |some v=>some (v,(sa.imp t true).and (sb.imp t false))
  |none=>none
def dL{α:Type}(b:Bool)(x:Option α):Option α:=bif b then x else none
def V.TB(k:Nat):Option V->zI
 |some u=>some (.ref k u,.no)
 |none=>none
def V.Hw:Option V->zI
 |some u=>some (u,.no)
 |none=>none
def faZ(h:Hz)(off k:Nat):V->zI
 | .ref kt v=>dL (!(Nat.beq kt 0)&&jB (bG kt) off k) (V.TB k (v.part off k))
 | .ptr i j o=>dL (h.get i).isSome (some (.ptr i j (o+off),.no))
 |_=>none
def fvZ(off k:Nat)(v:V):zI :=
 match v.kd with
 |some kt=>dL (!(Nat.beq kt 0)&&jB (bG kt) off k) (V.Hw (v.part off k))
 |none=>none
def aej:List V->Nat->Option V
 |[],_=>none
 |v::_,0=>some v
 |_::r,n+1=>aej r n
def iaZ(h:Hz)(k:Nat):V->V->zI
 | .JD k' _ l,.int n=>match aej l n.toNat with
  |some v=>dL (Nat.beq k' k) (some (.ref k v,.yes (0<=n)))
  |none=>none
 | .row k' _ r,.int n=>dL (Nat.beq k' k) (some (.ref k (r.get n.toNat),.yes (r.rng n)))
 | .own o,.int n=>match h.get o with
  |some (.row _ k' r [])=>dL (Nat.beq k' k) (some (.ptr o n.toNat 0,.yes (r.rng n)))
  |some (.gen _ k' x)=>dL (Nat.beq k' k) (some (.ptr o n.toNat 0,.yes (0<=n/\n<x.length)))
  |_=>none
 | .kR o lo hi,.int n=>match h.get o with
  |some (.row _ k' _ [])=>dL (Nat.beq k' k) (some (.ptr o (lo+n.toNat) 0,.yes (0<=n/\n<(hi-lo:Nat))))
  |_=>none
 |_,_=>none
def chZ:V->V->zI
 | .str s,.int n=>some (.u8 (s.getD n.toNat 0).toNat,.yes (0<=n/\n<s.length))
 | .str s,.u8 n=>some (.u8 (s.getD n.toNat 0).toNat,.yes (0<=n/\n<s.length))
 |_,_=>none
def ldB(k j off ko:Nat)(v:V):zI :=
 bif Nat.beq j 0 then(bif Nat.beq off 0&&Nat.beq ko k then some (v,.no) else dL (!(Nat.beq ko 0)&&jB (bG ko) off k) (V.Hw (v.part off k))) else none
def ldR(k j off ko:Nat)(r:Rw):zI :=
 bif Nat.beq off 0&&Nat.beq ko k then some (r.get j,.yes (r.rng j)) else
  match (r.get j).part off k with
  |some u=>dL (!(Nat.beq ko 0)&&jB (bG ko) off k) (some (u,.yes (r.rng j)))
  |none=>none
def ldZ(h:Hz)(k:Nat):V->zI
 | .ref k' v=>dL (Nat.beq k' k&&Nat.blt 0 (bG k)) (some (v,.no))
 | .ptr i j off=>match h.get i with
  |some (.box _ ko v)=>ldB k j off ko v
  |some (.row _ ko r [])=>ldR k j off ko r
  |_=>none
 |_=>none
def ncZ(h:Hz):V->zI
 | .ref k v=>some (.ref k v,.no)
 | .ptr i j o=>dL (h.get i).isSome (some (.ptr i j o,.no))
 | .fn f l=>some (.fn f l,.no)
 |_=>none
def abW(h:Hz)(str:Bool):V->zI
 | .row _ _ r=>dL (!str) (some (r.lenV,.no))
 | .JD _ _ l=>dL (!str) (some (.int l.length,.no))
 | .str s=>dL str (some (.int s.length,.no))
 | .own o=>match h.get o with
  |some (.row _ k r x)=>dL (!str&& !(Nat.beq k dI)) (match x with|[]=>some (r.lenV,.no)|x=>some (.int (r.len+x.length),.no))
  |some (.gen _ k x)=>dL (!str&& !(Nat.beq k dI)) (some (.int x.length,.no))
  |_=>none
 | .kR o lo hi=>dL (!str&&(h.get o).isSome) (some (.int (hi-lo:Nat),.no))
 |_=>none
def mxZ:V->V->zI
 | .int a,.int b=>some (.int (max a b),.no)
 |_,_=>none
def mnZ:V->V->zI
 | .int a,.int b=>some (.int (min a b),.no)
 |_,_=>none
def Ap(m:Fm):List X->Option (List V×Sd)
 |[]=>some ([],.no)
 |x::r=>match zH m x,Ap m r with
  |some v,some (l,s)=>match v.bare with|(u,s')=>some (u::l,s'.and s)
  |_,_=>none
def U0:List (Nat×Nat×X)->List V->List V->Option (List V)
 |[],[],z=>some z
 |(off,n,_)::ps,v::vs,z=>match v.cells with
  |some c=>dL (Nat.beq c.length n&&Nat.ble (off+n) z.length) (U0 ps vs (z.take off++c++z.drop (off+n)))
  |none=>none
 |_,_,_=>none
def Cb(h:Hz):List V->Bool
 |[]=>true
 |v::r=>v.iT h&&Cb h r
def mkZ(m:Fm)(h:Hz)(z:List T)(ps:List (Nat×Nat×X)):zI :=
 match Ap m (ps.map fun p=>p.2.2) with
 |some (vs,s)=>match U0 ps vs (V4 z) with
  |some l=>dL (Cb h vs) (some (.agg l,s))
  |none=>none
 |none=>none
def Gf(k:Nat):List V->Bool
 |[]=>true
 |v::r=>(match v.kd with|some k'=>Nat.beq k' k|none=>false)&&Gf k r
def Zz(n:Nat):List (Nat×X)->List V->List V->Option (List V)
 |[],[],z=>some z
 |(i,_)::ps,v::vs,z=>dL (Nat.blt i n) (Zz n ps vs (z.set i v))
 |_,_,_=>none
def msZ(m:Fm)(h:Hz)(k:Nat)(z:T)(n:Nat)(ps:List (Nat×X)):zI :=
 match Ap m (ps.map fun p=>p.2) with
 |some (vs,s)=>match Zz n ps vs (List.replicate n (BA z)) with
  |some l=>dL ((z.kd==k)&&z.free&&Gf k vs&&Cb h vs&&V.bC vs&&Nat.ble (n*bG k) 16777216&&Nat.blt 0 (bG k))
    (match Rw.V4 l with
    |some r=>some (.row k true r,s)
    |none=>some (.JD k true l,s))
  |none=>none
 |none=>none
def kOk(k k':Nat):Rw->Bool
 | .nil=>true
 |_=>Nat.beq k' k
def JE(m:Fm):Option X->Option (Option V×Sd)
 |none=>some (none,.no)
 |some x=>match zH m x with
  |some v=>match v.bare with|(u,s)=>some (some u,s)
  |none=>none
def ZA(k k':Nat)(f:Bool)(r:Rw):Option V->Option V->Option V->zI
 |none,none,none=>dL (kOk k k' r) (some (.row k f r,.no))
 |some (.int a),none,none=>dL (kOk k k' r) (some (.row k f (r.drop a.toNat),.yes (r.qp a)))
 |none,some (.int b),none=>dL (kOk k k' r) (some (.row k (f&&decide (b=r.len)) (r.take b.toNat),.yes (r.qp b)))
 |some (.int a),some (.int b),none=>dL (kOk k k' r) (some (.row k false ((r.take b.toNat).drop a.toNat),.yes (0<=a/\a<=b/\r.qp b)))
 |none,some (.int b),some (.int c)=>dL (kOk k k' r) (some (.row k (decide (b=c)) (r.take b.toNat),.yes (0<=b/\b<=c/\r.qp c)))
 |_,_,_=>none
def ZB(k i ko:Nat)(r:Rw):Option V->Option V->Option V->zI
 |some (.int a),none,none=>dL (Nat.beq ko k) (some (.kR i a.toNat r.len,.yes (r.qp a)))
 |none,some (.int b),none=>dL (Nat.beq ko k) (some (.kR i 0 b.toNat,.yes (r.qp b)))
 |some (.int a),some (.int b),none=>dL (Nat.beq ko k) (some (.kR i a.toNat b.toNat,.yes (0<=a/\a<=b/\r.qp b)))
 |_,_,_=>none
def TD(k i ko:Nat)(r:Rw)(xs:List V):Option V->Option V->Option V->zI
 |none,some (.int b),none=>dL (Nat.beq ko k) (some (.kR i 0 b.toNat,.yes (r.qp b)))
 |lo,hi,mx=>match xs with|[]=>ZB k i ko r lo hi mx|_=>none
def slZ(h:Hz)(x:Bool)(k:Nat)(v:V)(lo hi mx:Option V):zI :=
 match v with
 | .row k' f r=>ZA k k' f r lo hi mx
 | .own i=>bif x then(match h.get i with
  |some (.row _ ko r xs)=>TD k i ko r xs lo hi mx
  |_=>none) else none
 |_=>none
def slX(m:Fm)(h:Hz)(b:Bool)(k:Nat)(x:X)(lo hi mx:Option X):zI :=
 Mc m x fun v=>match JE m lo,JE m hi,JE m mx with
  |some (lo,s1),some (hi,s2),some (mx,s3)=>match slZ h b k v lo hi mx with
   |some (u,s)=>some (u,s1.and (s2.and (s3.and s)))
   |none=>none
  |_,_,_=>none
def ssZ(s:Str):Option V->Option V->zI
 |some (.int a),none=>some (.str (s.drop a.toNat),.yes (0<=a/\a<=s.length))
 |none,some (.int b)=>some (.str (s.take b.toNat),.yes (0<=b/\b<=s.length))
 |some (.int a),some (.int b)=>some (.str ((s.take b.toNat).drop a.toNat),.yes (0<=a/\a<=b/\b<=s.length))
 |_,_=>none
def ssX(m:Fm)(x:X)(lo hi:Option X):zI :=
 Mc m x fun v=>match v,JE m lo,JE m hi with
  | .str s,some (lo,s1),some (hi,s2)=>match ssZ s lo hi with
   |some (u,s)=>some (u,s1.and (s2.and s))
   |none=>none
  |_,_,_=>none
def exZ(i:Nat):V->zI
 | .fP l=>match l[i]? with|some v=>some (v,.no)|none=>none
 |_=>none
def aek(ne:Bool)(n:Nat):V->V->zI
 | .dat (.lin x),.dat (.lin y)=>dL (Nat.beq n 4) (some (.bool (bif ne then !(x==y) else x==y),.no))
 | .dat (.Rn x),.dat (.Rn y)=>dL (Nat.beq n 6) (some (.bool (bif ne then !(x==y) else x==y),.no))
 |_,_=>none
def Gu(n:Int):List (Int×List Bool)->Option (List Bool)
 |[]=>none
 |(m,v)::r=>bif n==m then some v else Gu n r
def mfZ(m:Fm)(h:Hz)(f:FuncId)(cap:List X):zI :=
 match Ap m cap with
 |some (l,s)=>dL (Cb h l&&Gf 0 l&&Nat.blt f 4096) (some (.fn f l,s))
 |none=>none
def mbZ(f:FuncId):V->zI
 | .agg l=>dL (Nat.blt f 4096) (some (.fn (f+4096) l,.no))
 | .dat d=>dL (Nat.blt f 4096) (some (.fn (f+4096) d.cells,.no))
 |_=>none
def ael:V->zI
 | .row _ true r=>some (r.lenV,.no)
 |_=>none
def saZ(n:Nat):V->zI
 | .ref k (.agg l)=>match Rw.V4 l with
  |some r=>dL (Nat.beq k (n+1)&&Nat.beq l.length n&&Nat.blt 0 n) (some (.row 0 true r,.no))
  |none=>none
 |_=>none
def qz(m:Fm)(h:Hz):lg->zI
 | .mv x=>match zH m x with|some v=>some (v,.no)|none=>none
 | .pick c a b=>Mc m c fun c=>match c,zH m a,zH m b with
  | .bool t,some va,some vb=>Zy t a b va.bare vb.bare
  |_,_,_=>none
 | .bin op x y=>qz2 m x y (aei op)
 | .bb ne x y=>qz2 m x y fun x y=>match x,y with
  | .bool a,.bool b=>some (.bool (bif ne then !(a==b) else a==b),.no)
  |_,_=>none
 | .not x=>Mc m x fun v=>match v with| .bool b=>some (.bool !b,.no)|_=>none
 | .conv .i64 x=>Mc m x fun v=>match v with
  | .int n=>some (.int n,.yes (okI n))
  | .u8 n=>some (.int n,.yes (okI n))
  | .raw (.lit (.int .u64 n))=>some (.int n,.yes (okI n))
  |_=>none
 | .conv .u64 x=>Mc m x fun v=>match v with
  | .int n=>some (.raw (.lit (.int .u64 n)),.yes (0<=n/\n<18446744073709551616))
  |_=>none
 | .conv .u8 x=>Mc m x fun v=>match v with
  | .raw (.lit (.int .u64 n))=>some (.u8 n,.yes (0<=n/\n<256))
  |_=>none
 | .fa off k x=>Mc m x (faZ h off k)
 | .fv off k x=>Mc m x (fvZ off k)
 | .ia k x i=>qz2 m x i (iaZ h k)
 | .ch x i=>qz2 m x i chZ
 | .ld k x=>Mc m x (ldZ h k)
 | .nc x=>Mc m x (ncZ h)
 | .len s x=>Mc m x (abW h s)
 | .mx x y=>qz2 m x y mxZ
 | .mn x y=>qz2 m x y mnZ
 | .mk z ps=>mkZ m h z ps
 | .ms _ k z n ps=>msZ m h k z n ps
 | .sl k x lo hi mx=>slX m h false k x lo hi mx
 | .Rl k x lo hi mx=>slX m h true k x lo hi mx
 | .ss x lo hi=>ssX m x lo hi
 | .ex x i=>Mc m x (exZ i)
 | .mf f cap=>mfZ m h f cap
 | .eqs ne n x y=>qz2 m x y (aek ne n)
 | .IU x=>Mc m x ael
 | .mb f x=>Mc m x (mbZ f)
 | .sa n x=>Mc m x (saZ n)
 |_=>none
theorem ac9(b:ByteArray):eS b.data.toList= .lit (.string b):=by
 unfold eS bs; simp
mutual
theorem wL:(t:T)->(BA t).aG=t
 | .lit v=>by
  cases v with
  |int k n=>cases k<;>simp[BA,V.aG]
  |bool b=>simp[BA,V.aG]
  |string b=>simp only[BA,V.aG]; exact ac9 b
  |_=>simp[BA,V.aG]
 | .agg l=>by simp only[BA,V.aG]; rw[zn l]
 | .sl k f l=>by cases l<;>simp[BA,V.aG,Rw.bn]
 | .ref k t=>by simp[BA,V.aG]
 | .own i=>by simp[BA,V.aG]
 | .ptr i j k=>by simp[BA,V.aG]
 | .kR i j k=>by simp[BA,V.aG]
 | .fn f l=>by simp only[BA,V.aG]; rw[zn l]
 | .fP l=>by simp[BA,V.aG]
 | .any=>by simp[BA,V.aG]
theorem zn:(l:List T)->V.bn (V4 l)=l
 |[]=>rfl
 |t::r=>by simp only[V4,V.bn]; rw[wL t,zn r]
end
theorem je(l:List V):V.bn l=l.map V.aG:=by
 induction l with
 |nil=>rfl
 |cons v r ih=>simp[V.bn,ih]
theorem fB(l:List V):(V.bn l).length=l.length:=by rw[je]; simp
theorem vV(a b:List V):V.bn (a++b)=V.bn a++V.bn b:=by simp[je]
theorem JF(a:List V)(n:Nat):V.bn (a.take n)=(V.bn a).take n:=by simp[je]
theorem JG(a:List V)(n:Nat):V.bn (a.drop n)=(V.bn a).drop n:=by simp[je]
def Rp(m:Fm)(fr:List T):Prop:= ∀ i v,m.get i=some v->fr[i]? =some v.aG
theorem Rp.getD{m:Fm}{fr:List T}(R:Rp m fr){i:Nat}{v:V}{d:T}(h:m.get i=some v):fr.getD i d=v.aG:=by
 rw[List.getD_eq_getElem?_getD,R i v h]; rfl
theorem Rp.ev{m:Fm}{s:AS}(R:Rp m s.fr){x:X}{v:V}(h:zH m x=some v):s.ev x=v.aG:=by
 cases x with
 |t n=>exact R.getD h
 |c t=>simp only[zH,Option.some.injEq] at h; subst h; exact(wL t).symm
theorem dV{v u:V}{s:Sd}(h:v.bare=(u,s))(hs:s.holds):v.aG=u.aG:=by
 unfold V.bare at h
 split at h
 ·cases h; simp only[Sd.holds] at hs; simp[V.aG,hs]
 ·cases h; rfl
theorem Sd.lC{a b:Sd}:(a.and b).holds↔a.holds/\b.holds:=by cases a<;>cases b<;>simp[Sd.and,Sd.holds]
theorem Sd.Md{t b:Bool}{s:Sd}:(s.imp t b).holds↔(t=b->s.holds):=by cases s<;>simp[Sd.imp,Sd.holds]
theorem jW{m:Fm}{s:AS}(R:Rp m s.fr){x:X}{f:V->zI}{r:V}{sd:Sd}(h:Mc m x f=some (r,sd))(hs:sd.holds): ∃ u s',f u=some (r,s')/\s'.holds/\s.ev x=u.aG:=by
 unfold Mc at h
 split at h
 ·rename_i v hv
  split at h
  rename_i u s0 hb
  split at h
  ·rename_i r' s' hf
   cases h
   rw[Sd.lC] at hs
   exact⟨u,s',hf,hs.2,by rw[R.ev hv,dV hb hs.1]⟩
  ·cases h
 ·cases h
theorem zo{m:Fm}{s:AS}(R:Rp m s.fr){x y:X}{f:V->V->zI}{r:V}{sd:Sd}(h:qz2 m x y f=some (r,sd))(hs:sd.holds): ∃ u v s',f u v=some (r,s')/\s'.holds/\s.ev x=u.aG/\s.ev y=v.aG:=by
 obtain⟨u,s',h1,h2,h3⟩:=jW R h hs
 obtain⟨v,s'',h4,h5,h6⟩:=jW R h1 h2
 exact⟨u,v,s'',h4,h5,h3,h6⟩
theorem aP{α:Type}{b:Bool}{x:Option α}{y:α}(h:dL b x=some y):b=true/\x=some y:=by
 cases b<;>simp[dL] at h; exact⟨rfl,h⟩
theorem afM{n:Int}(h1:0<=n)(h2:n<18446744073709551616):IntKind.u64.wrap n=n:=by
 have e:IntKind.u64.wrap n=(if(false&&decide (n % 18446744073709551616>=9223372036854775808))=true then n % 18446744073709551616-18446744073709551616 else n % 18446744073709551616):=rfl
 rw[e]
 simp only[Bool.false_and,Bool.false_eq_true,if_false]
 omega
theorem aem{n:Int}(h1:0<=n)(h2:n<256):IntKind.u8.wrap n=n:=by
 have e:IntKind.u8.wrap n=(if(false&&decide (n % 256>=128))=true then n % 256-256 else n % 256):=rfl
 rw[e]
 simp only[Bool.false_and,Bool.false_eq_true,if_false]
 omega
theorem U1{n:Int}(h:okI n):IntKind.i64.wrap n=n:=wrap64 h.1 h.2
theorem Rw.dR(r:Rw):r.bn.length=r.len:=by cases r<;>simp[Rw.bn,Rw.len]
theorem Rw.Oa(r:Rw):r.lenV= .int r.len:=by cases r<;>rfl
theorem Rw.zq{n:Int}{r:Rw}:r.rng n↔(0<=n/\n<r.len):=by cases r<;>simp[Rw.rng,Rw.len]<;>omega
theorem Rw.tK{n:Int}{r:Rw}:r.qp n↔(0<=n/\n<=r.len):=by cases r<;>simp[Rw.qp,Rw.len]<;>omega
theorem getD_map'{α:Type}{f:α->T}{l:List α}{i:Nat}{d:α}(h:i<l.length):(l.map f).getD i .any=f (l.getD i d):=by
 simp[List.getD_eq_getElem?_getD,h]
theorem Rw.Oc{r:Rw}{i:Nat}(h:i<r.len):r.bn.getD i .any=(r.get i).aG:=by
 cases r<;>simp only[Rw.len] at h<;>simp only[Rw.bn,Rw.get,V.aG,Dat.aG,Rw.bn]<;>first|exact getD_map' h|omega
theorem Rw.Aq(r:Rw)(n:Nat):(r.take n).bn=r.bn.take n:=by cases r<;>simp[Rw.take,Rw.bn]
theorem Rw.Qx(r:Rw)(n:Nat):(r.drop n).bn=r.bn.drop n:=by cases r<;>simp[Rw.drop,Rw.bn]
theorem Rw.RD(r:Rw):V.bn r.vs=r.bn:=by
 rw[je]
 cases r<;>simp[Rw.vs,Rw.bn,V.aG,Dat.aG]
theorem Rw.X0(r:Rw):r.vs.length=r.len:=by cases r<;>simp[Rw.vs,Rw.len]
theorem Rw.Hy{a b c:Rw}(h:a.app b=some c):c.bn=a.bn++b.bn:=by
 unfold Rw.app at h
 split at h<;>first|(cases h; done)|(cases h; simp[Rw.bn])
theorem Rw.XQ(r:Rw)(n:Nat):(r.take n).len=min n r.len:=by rw[<- Rw.dR,Rw.Aq,List.length_take,Rw.dR]
theorem V.abX{v:V}{r:Rw}(h:v.one=some r):r.bn=[v.aG]:=by
 unfold V.one at h
 split at h<;>first|(cases h; done)|(cases h; simp[Rw.bn,V.aG,V.bn,Dat.aG,eG,Tf,Hr])
theorem Rw.zn: ∀ {l:List V} {r:Rw},Rw.V4 l=some r->r.bn=V.bn l:=by
 intro l
 induction l with
 |nil=>intro r h; cases h; rfl
 |cons v l ih =>
  intro r h
  simp only[Rw.V4] at h
  split at h
  ·rename_i a b h1 h2
   rw[Rw.Hy h,V.abX h1,ih h2]; rfl
  ·cases h
theorem V.Oe{v:V}{k:Nat}(h:v.kd=some k):v.aG.kd=k:=by
 cases v with
 |dat d=>cases h; exact Dat.aeh d
 |_=>simp only[V.kd,Option.some.injEq,reduceCtorEq] at h<;>subst h<;>simp[V.aG,T.kd,eS,fB]
theorem V.FQ{v:V}{l:List V}(h:v.cells=some l):v.aG.cells=V.bn l:=by
 cases v<;>simp only[V.cells,Option.some.injEq,reduceCtorEq] at h<;>subst h<;>simp[V.aG,Dat.FP,T.cells,eS,V.bn]
theorem Hz.yD{h:Hz}{i:Nat}:(h.ay i).isSome=(h.get i).isSome:=by simp[Hz.ay]
theorem V.qU{h:Hz}{v:V}(hv:v.iT h=true):v.aG.iT h.ay=true:=by
 cases v<;>simp only[V.iT,Bool.false_eq_true] at hv<;>simp[V.aG,T.iT,T.wo,eS,Value.oneCell',Hz.yD,hv]
 rename_i d
 cases d<;>rfl
theorem V.ZC{h:Hz}{v:V}(hv:v.iT h=true)(hk:v.kd=some 0):v.aG.wo h.ay=true:=by
 cases v<;>simp only[V.iT,Bool.false_eq_true] at hv<;>simp only[V.kd,Option.some.injEq,Nat.succ_ne_zero] at hk<;>simp[V.aG,T.wo,eS,Value.oneCell',Hz.yD,hv]
 rename_i d
 cases d<;>cases hk
theorem Dat.free(d:Dat):d.aG.free=true:=by cases d<;>rfl
mutual
theorem V.qK:(v:V)->v.free=true->v.aG.free=true
 | .int _,_=>by simp[V.aG,T.free]
 | .bool _,_=>by simp[V.aG,T.free]
 | .u8 _,_=>by simp[V.aG,T.free]
 | .str _,_=>by simp[V.aG,T.free,eS]
 | .dat d,_=>by simp only[V.aG]; exact d.free
 | .agg l,h=>by simp only[V.aG,T.free]; simp only[V.free] at h; exact V.kZ l h
 | .row _ _ _,_=>by simp[V.aG,T.free]
 | .JD _ _ _,_=>by simp[V.aG,T.free]
 | .ref _ _,_=>by simp[V.aG,T.free]
 | .own _,h=>by simp[V.free] at h
 | .inn _,h=>by simp[V.free] at h
 | .pin _ _ _,h=>by simp[V.free] at h
 | .ptr _ _ _,h=>by simp[V.free] at h
 | .kR _ _ _,h=>by simp[V.free] at h
 | .fn _ l,h=>by simp only[V.aG,T.free]; simp only[V.free] at h; exact V.kZ l h
 | .fP l,h=>by simp only[V.aG,T.free]; simp only[V.free] at h; exact V.kZ l h
 | .cnd _ _,h=>by simp[V.free] at h
 | .raw t,h=>by simp only[V.aG]; simpa only[V.free] using h
theorem V.kZ:(l:List V)->V.bC l=true->T.bC (V.bn l)=true
 |[],_=>by simp[V.bn,T.bC]
 |v::r,h=>by
  simp only[V.bC,Bool.and_eq_true] at h
  simp only[V.bn,T.bC,Bool.and_eq_true]
  exact⟨V.qK v h.1,V.kZ r h.2⟩
end
theorem wM{l:List V}{i:Nat}{u:V}(h:l[i]? =some u):(V.bn l).getD i .any=u.aG:=by
 rw[je,List.getD_eq_getElem?_getD,List.getElem?_map,h]; rfl
theorem V.Ez{off k:Nat}{v u:V}(h:v.part off k=some u):v.aG.part off k=u.aG:=by
 unfold V.part at h
 split at h
 ·simp only[V.aG,Dat.FP,T.part,T.cells]; exact wM h
 ·simp only[V.aG,T.part,T.cells]; exact wM h
 ·rename_i k x
  cases hb:(Nat.beq off 2)&&(Nat.beq k 4) with
  |false=>rw[hb] at h; cases h
  |true =>
   rw[hb] at h
   simp only[Bool.and_eq_true,Nat.beq_eq] at hb
   obtain⟨rfl,rfl⟩:=hb
   cases h; rfl
 ·cases h
  simp only[V.aG,T.part,T.cells,JF,JG]
 ·cases h
theorem iL{a b:Nat}(h:Nat.beq a b=true):a=b:=Nat.eq_of_beq_eq_true h
section
variable {m:Fm} {h:Hz} {s:AS}
def Ok(s:AS)(op:lg)(v:V):Prop:=qc s op/\qt s op=v.aG
theorem abY{op:BinOp}{x y:X}{u v r:V}{sd:Sd}(q:aei op u v=some (r,sd))(hs:sd.holds)(h1:s.ev x=u.aG)(h2:s.ev y=v.aG):Ok s (.bin op x y) r:=by
 unfold Ok; simp only[qc,qt]; rw[h1,h2]
 unfold aei at q
 split at q
 ·rename_i a b
  split at q<;>first|(cases q; done)|(cases q; simp only[Sd.holds] at hs; simp[V.aG,yS,kEq,U1,hs])
 ·split at q<;>first|(cases q; done)|(cases q; simp[V.aG,yS,kEq])
 ·split at q
  ·cases q; simp[V.aG,yS,eS,Bf]
  ·cases q; simp[V.aG,yS,eS,Bf]
  ·rename_i a b _
   cases q
   simp only[Sd.holds] at hs
   have hsz:(((bs a).size+(bs b).size:Nat):Int)<=9223372036854775807:=by
    have e1:(bs a).size=a.length:=by simp[bs,ByteArray.size]
    have e2:(bs b).size=b.length:=by simp[bs,ByteArray.size]
    rw[e1,e2]; exact Int.ofNat_le.2 hs
   have hap:bs a++bs b=bs (a++b):=by apply ByteArray.ext; simp[bs]
   have hsz2:((bs a).size:Int)+(bs b).size<=9223372036854775807:=by omega
   simp[V.aG,yS,eS,hsz2,hap]
  ·cases q
 ·split at q
  ·cases q
   simp only[Sd.holds] at hs
   refine⟨?_,?_⟩
   ·simp only[V.aG,yS,hs,decide_true,cond_true,Option.isSome]
   ·simp only[V.aG,yS,hs,decide_true,cond_true]; rfl
  ·cases q; simp[V.aG,yS,kEq]
  ·cases q; simp[V.aG,yS,kEq]
  ·cases q; simp[V.aG,yS,kEq]
  ·cases q
 ·cases q
theorem TF{x:X}(hx:Bo x=true):x= .c (.lit (.bool true)):=by
 unfold Bo at hx
 split at hx
 ·rfl
 ·cases hx
theorem Qy{x:X}(hx:yC x=true):x= .c (.lit (.bool false)):=by
 unfold yC at hx
 split at hx
 ·rfl
 ·cases hx
theorem ZE{c xa xb:X}{t:Bool}{va vb r:V}{sd:Sd}(R:Rp m s.fr)(ha:zH m xa=some va)(hb:zH m xb=some vb)(q:Zy t xa xb va.bare vb.bare=some (r,sd))(hs:sd.holds)(hc:s.ev c= .lit (.bool t)):Ok s (.pick c xa xb) r:=by
 unfold Ok; simp only[qc,qt]; rw[hc]
 refine⟨rfl,?_⟩
 unfold Zy at q
 split at q
 rename_i a sa b sb ea eb
 split at q
 ·rename_i v hp
  cases q
  rw[Sd.lC,Sd.Md,Sd.Md] at hs
  have h1:t=true->s.ev xa=a.aG:=fun e=>by rw[R.ev ha,dV ea (hs.1 e)]
  have h2:t=false->s.ev xb=b.aG:=fun e=>by rw[R.ev hb,dV eb (hs.2 e)]
  unfold ac8 at hp
  split at hp
  ·rename_i x y
   have hp':r= .bool (bif Bo xa then t||y else bif yC xb then t&&x else bif t then x else y):=by
    cases e1:Bo xa<;>cases e2:yC xb<;>simp[e1,e2] at hp ⊢ <;>exact hp.symm
   subst hp'
   have key:xP (.lit (.bool t)) (s.ev xa) (s.ev xb)= .lit (.bool (bif t then x else y)):=by
    cases t with
    |true =>
     rw[h1 rfl]; simp only[V.aG,xP]
     split<;>simp_all
    |false =>
     rw[h2 rfl]; simp only[V.aG,xP]
     split<;>simp_all
   rw[key]
   simp only[V.aG]
   congr 2
   cases e1:Bo xa with
   |true =>
    have:=TF e1; subst this
    simp only[zH,Option.some.injEq] at ha; subst ha
    simp only[BA,V.bare,Prod.mk.injEq] at ea
    have:=ea.1; cases this
    cases t<;>rfl
   |false =>
    cases e2:yC xb with
    |true =>
     have:=Qy e2; subst this
     simp only[zH,Option.some.injEq] at hb; subst hb
     simp only[BA,V.bare,Prod.mk.injEq] at eb
     have:=eb.1; cases this
     cases t<;>simp
    |false=>rfl
  ·cases hp
   cases t with
   |true=>rw[h1 rfl]; simp only[V.aG,xP,cond_true]
   |false=>rw[h2 rfl]; simp only[V.aG,xP,cond_false]; split<;>simp_all
  ·cases hp
   cases t with
   |true=>rw[h1 rfl]; simp only[V.aG,xP,cond_true,eS]
   |false=>rw[h2 rfl]; simp only[V.aG,xP,cond_false,eS]; split<;>simp_all
  ·cases hp
 ·cases q
theorem TG{k:Nat}{p:Option V}{r:V}{sd:Sd}(q:V.TB k p=some (r,sd)): ∃ u,p=some u/\r= .ref k u:=by
 unfold V.TB at q
 split at q
 ·cases q; exact⟨_,rfl,rfl⟩
 ·cases q
theorem Gv{p:Option V}{r:V}{sd:Sd}(q:V.Hw p=some (r,sd)):p=some r:=by
 unfold V.Hw at q
 split at q
 ·cases q; rfl
 ·cases q
theorem ZF{k:Nat}(h:(!(Nat.beq k 0))=true):(!(k==0))=true:=by
 cases k<;>simp_all
theorem aen(hh:s.hp=h.ay){off k:Nat}{x:X}{u r:V}{sd:Sd}(q:faZ h off k u=some (r,sd))(h1:s.ev x=u.aG):Ok s (.fa off k x) r:=by
 unfold Ok; simp only[qc,qt]; rw[h1]
 unfold faZ at q
 split at q
 ·obtain⟨g,q⟩:=aP q
  obtain⟨u,e,rfl⟩:=TG q
  simp only[Bool.and_eq_true] at g
  simp only[V.aG,V.Ez e,Bool.and_eq_true]
  exact⟨⟨ZF g.1,g.2⟩,trivial⟩
 ·obtain⟨g,q⟩:=aP q
  cases q
  simp only[V.aG,hh,Hz.yD,g,and_self]
 ·cases q
theorem aeo{off k:Nat}{x:X}{u r:V}{sd:Sd}(q:fvZ off k u=some (r,sd))(h1:s.ev x=u.aG):Ok s (.fv off k x) r:=by
 unfold Ok; simp only[qc,qt]; rw[h1]
 unfold fvZ at q
 split at q
 ·rename_i kt hk
  obtain⟨g,q⟩:=aP q
  rw[V.Oe hk,V.Ez (Gv q)]
  simp only[Bool.and_eq_true] at g ⊢
  exact⟨⟨ZF g.1,g.2⟩,trivial⟩
 ·cases q
theorem aZ{i:Nat}{o:OV}(e:h.get i=some o):h.ay i=some o.aF:=by simp[Hz.ay,e]
theorem abZ: ∀ {l:List V} {i:Nat} {v:V},aej l i=some v->i<l.length/\(V.bn l).getD i .any=v.aG:=by
 intro l
 induction l with
 |nil=>intro i v h; cases h
 |cons u r ih =>
  intro i v h
  cases i with
  |zero=>cases h; exact⟨Nat.succ_pos _,rfl⟩
  |succ i =>
   obtain⟨a,b⟩:=ih h
   exact⟨Nat.succ_lt_succ a,by simpa [V.bn] using b⟩
theorem ZG(hh:s.hp=h.ay){k:Nat}{x i:X}{u v r:V}{sd:Sd}(q:iaZ h k u v=some (r,sd))(hs:sd.holds)(h1:s.ev x=u.aG)(h2:s.ev i=v.aG):Ok s (.ia k x i) r:=by
 unfold Ok; simp only[qc,qt]; rw[h1,h2]
 unfold iaZ at q
 split at q
 ·rename_i k' f l n
  split at q
  ·rename_i v hv
   obtain⟨g,q⟩:=aP q
   cases q
   have:=iL g; subst this
   simp only[Sd.holds] at hs
   obtain⟨a,b⟩:=abZ hv
   simp only[V.aG,XB,fB]
   exact⟨⟨trivial,hs,by omega⟩,by rw[b]⟩
  ·cases q
 ·rename_i k' f w n
  obtain⟨g,q⟩:=aP q
  cases q
  have:=iL g; subst this
  simp only[Sd.holds,Rw.zq] at hs
  simp only[V.aG,XB,Rw.dR]
  refine⟨⟨trivial,hs⟩,?_⟩
  rw[Rw.Oc (by omega)]
 ·rename_i o n
  split at q
  ·rename_i ty k' w e
   obtain⟨g,q⟩:=aP q
   cases q
   have:=iL g; subst this
   simp only[Sd.holds,Rw.zq] at hs
   simp only[V.aG,hh,aZ e,OV.aF,V.bn,List.append_nil,XB,Rw.dR]
   exact⟨⟨trivial,hs⟩,trivial⟩
  ·rename_i ty k' x e
   obtain⟨g,q⟩:=aP q
   cases q
   have:=iL g; subst this
   simp only[Sd.holds] at hs
   simp only[V.aG,hh,aZ e,OV.aF,XB,fB]
   exact⟨⟨trivial,hs⟩,trivial⟩
  ·cases q
 ·rename_i o lo hi n
  split at q
  ·rename_i ty k' w e
   obtain⟨g,q⟩:=aP q
   cases q
   have:=iL g; subst this
   simp only[Sd.holds] at hs
   simp only[V.aG,hh,aZ e,OV.aF,XB]
   exact⟨⟨trivial,hs⟩,trivial⟩
  ·cases q
 ·cases q
theorem aep{x i:X}{u v r:V}{sd:Sd}(q:chZ u v=some (r,sd))(hs:sd.holds)(h1:s.ev x=u.aG)(h2:s.ev i=v.aG):Ok s (.ch x i) r:=by
 unfold Ok; simp only[qc,qt]; rw[h1,h2]
 unfold chZ at q
 split at q
 ·cases q
  simp only[Sd.holds] at hs
  simp only[V.aG,eS,XB,y8,Y3]
  exact⟨hs,trivial⟩
 ·cases q
  simp only[Sd.holds] at hs
  simp only[V.aG,eS,XB,y8,Y3]
  exact⟨hs,trivial⟩
 ·cases q
theorem TI(hh:s.hp=h.ay){k:Nat}{x:X}{u r:V}{sd:Sd}(q:ldZ h k u=some (r,sd))(hs:sd.holds)(h1:s.ev x=u.aG):Ok s (.ld k x) r:=by
 unfold Ok; simp only[qc,qt]; rw[h1]
 unfold ldZ at q
 split at q
 ·obtain⟨g,q⟩:=aP q
  cases q
  simp only[Bool.and_eq_true] at g
  have:=iL g.1; subst this
  simp[V.aG,g.2]
 ·rename_i i j off
  split at q
  ·rename_i ty ko v e
   simp only[V.aG,hh,aZ e,OV.aF]
   unfold ldB at q
   cases hj:Nat.beq j 0 with
   |false=>rw[hj] at q; cases q
   |true =>
    have:=iL hj; subst this
    rw[hj] at q
    simp only[cond_true] at q
    cases hb:(Nat.beq off 0&&Nat.beq ko k) with
    |true =>
     rw[hb] at q; cases q
     simp only[Bool.and_eq_true] at hb
     have e1:=iL hb.1; have e2:=iL hb.2; subst e1; subst e2
     simp
    |false =>
     rw[hb] at q
     simp only[cond_false] at q
     obtain⟨g,q⟩:=aP q
     have hb':(off==0&&ko==k)=false:=by
      rw[Bool.and_eq_false_iff] at hb ⊢
      rcases hb with hb|hb
      ·left; simpa using Nat.ne_of_beq_eq_false hb
      ·right; simpa using Nat.ne_of_beq_eq_false hb
     simp only[hb',cond_false,Bool.false_or,List.getD_cons_zero,V.Ez (Gv q),List.length_cons,List.length_nil]
     simp only[Bool.and_eq_true] at g ⊢
     exact⟨⟨by omega,ZF g.1,g.2⟩,trivial⟩
  ·rename_i ty ko w e
   simp only[V.aG,hh,aZ e,OV.aF,V.bn,List.append_nil]
   unfold ldR at q
   cases hb:(Nat.beq off 0&&Nat.beq ko k) with
   |true =>
    rw[hb] at q; cases q
    simp only[Bool.and_eq_true] at hb
    have e1:=iL hb.1; have e2:=iL hb.2; subst e1; subst e2
    simp only[Sd.holds,Rw.zq] at hs
    have hlt:j<w.len:=by omega
    simp only[BEq.rfl,Bool.and_self,Bool.true_or,cond_true,Rw.dR,Rw.Oc hlt]
    exact⟨⟨hlt,trivial⟩,trivial⟩
   |false =>
    rw[hb] at q
    simp only[cond_false] at q
    split at q
    ·rename_i u hu
     obtain⟨g,q⟩:=aP q
     cases q
     have hb':(off==0&&ko==k)=false:=by
      rw[Bool.and_eq_false_iff] at hb ⊢
      rcases hb with hb|hb
      ·left; simpa using Nat.ne_of_beq_eq_false hb
      ·right; simpa using Nat.ne_of_beq_eq_false hb
     simp only[Sd.holds,Rw.zq] at hs
     have hlt:j<w.len:=by omega
     simp only[hb',cond_false,Bool.false_or,Rw.dR,Rw.Oc hlt,V.Ez hu]
     simp only[Bool.and_eq_true] at g ⊢
     exact⟨⟨hlt,ZF g.1,g.2⟩,trivial⟩
    ·cases q
  ·cases q
 ·cases q
theorem aer(hh:s.hp=h.ay){x:X}{u r:V}{sd:Sd}(q:ncZ h u=some (r,sd))(h1:s.ev x=u.aG):Ok s (.nc x) r:=by
 unfold Ok; simp only[qc,qt]; rw[h1]
 unfold ncZ at q
 split at q
 ·cases q; simp[V.aG]
 ·obtain⟨g,q⟩:=aP q; cases q; simp[V.aG,hh,Hz.yD,g]
 ·cases q; simp[V.aG]
 ·cases q
theorem U2(hh:s.hp=h.ay){str:Bool}{x:X}{u r:V}{sd:Sd}(q:abW h str u=some (r,sd))(h1:s.ev x=u.aG):Ok s (.len str x) r:=by
 unfold Ok; simp only[qc,qt]; rw[h1]
 unfold abW at q
 split at q
 ·obtain⟨g,q⟩:=aP q; cases q
  simp only[Bool.not_eq_true'] at g
  simp[V.aG,Rw.Oa,Rw.dR,g]
 ·obtain⟨g,q⟩:=aP q; cases q
  simp only[Bool.not_eq_true'] at g
  simp[V.aG,fB,g]
 ·obtain⟨g,q⟩:=aP q; cases q
  simp[V.aG,eS,y8,g]
 ·rename_i o
  split at q
  ·rename_i ty k w y e
   obtain⟨g,q⟩:=aP q
   simp only[Bool.and_eq_true,Bool.not_eq_true'] at g
   have hk:k≠dI:=Nat.ne_of_beq_eq_false g.2
   split at q
   ·cases q
    simp only[V.aG,hh,aZ e,OV.aF,V.bn,List.append_nil,Rw.Oa,Rw.dR]
    exact⟨⟨g.1,hk⟩,trivial⟩
   ·cases q
    simp only[V.aG,hh,aZ e,OV.aF,List.length_append,fB,Rw.dR]
    exact⟨⟨g.1,hk⟩,by simp⟩
  ·rename_i ty k x e
   obtain⟨g,q⟩:=aP q
   cases q
   simp only[Bool.and_eq_true,Bool.not_eq_true'] at g
   simp only[V.aG,hh,aZ e,OV.aF,fB]
   exact⟨⟨g.1,Nat.ne_of_beq_eq_false g.2⟩,trivial⟩
  ·cases q
 ·rename_i o lo hi
  obtain⟨g,q⟩:=aP q; cases q
  simp only[Bool.and_eq_true,Bool.not_eq_true'] at g
  simp[V.aG,hh,Hz.yD,g]
 ·cases q
theorem aes{x y:X}{u v r:V}{sd:Sd}(q:mxZ u v=some (r,sd))(h1:s.ev x=u.aG)(h2:s.ev y=v.aG):Ok s (.mx x y) r:=by
 unfold Ok; simp only[qc,qt]; rw[h1,h2]
 unfold mxZ at q
 split at q
 ·rename_i a b
  cases q; simp only[V.aG,true_and]; congr 2; split<;>omega
 ·cases q
theorem aeu{x y:X}{u v r:V}{sd:Sd}(q:mnZ u v=some (r,sd))(h1:s.ev x=u.aG)(h2:s.ev y=v.aG):Ok s (.mn x y) r:=by
 unfold Ok; simp only[qc,qt]; rw[h1,h2]
 unfold mnZ at q
 split at q
 ·rename_i a b
  cases q; simp only[V.aG,true_and]; congr 2; split<;>omega
 ·cases q
theorem aev{i:Nat}{x:X}{u r:V}{sd:Sd}(q:exZ i u=some (r,sd))(h1:s.ev x=u.aG):Ok s (.ex x i) r:=by
 unfold Ok; simp only[qc,qt]; rw[h1]
 unfold exZ at q
 split at q
 ·split at q
  ·rename_i l _ v e
   cases q
   have hi:i<l.length:=(List.getElem?_eq_some_iff.1 e).1
   simp only[V.aG,Nat.blt_eq,fB,wM e]
   exact⟨hi,trivial⟩
  ·cases q
 ·cases q
theorem ab1{ne:Bool}{n:Nat}{x y:X}{u v r:V}{sd:Sd}(q:aek ne n u v=some (r,sd))(h1:s.ev x=u.aG)(h2:s.ev y=v.aG):Ok s (.eqs ne n x y) r:=by
 unfold Ok; simp only[qc,qt]; rw[h1,h2]
 unfold aek at q
 split at q
 ·rename_i x y
  obtain⟨g,q⟩:=aP q; cases q
  have:=iL g; subst this
  have e:pO [.int x.c,.int x.n,.int x.t,.int x.f] [.int y.c,.int y.n,.int y.t,.int y.f]=(x==y):=by
   cases x; cases y; simp[pO,BEq.beq]
  simp only[V.aG,Dat.aG,Td,e]
  exact⟨rfl,trivial⟩
 ·rename_i x y
  obtain⟨g,q⟩:=aP q; cases q
  have:=iL g; subst this
  have e:pO [.int x.message,.int x.Ep,.int x.bound.c,.int x.bound.n,.int x.bound.t,.int x.bound.f] [.int y.message,.int y.Ep,.int y.bound.c,.int y.bound.n,.int y.bound.t,.int y.bound.f]=(x==y):=by
   obtain⟨a,b,c,d,e,f⟩:=x; obtain⟨a',b',c',d',e',f'⟩:=y; simp[pO,BEq.beq]
  simp only[V.aG,Dat.aG,Ql,e]
  exact⟨rfl,trivial⟩
 ·cases q
theorem aew{n:Nat}{x:X}{u r:V}{sd:Sd}(q:saZ n u=some (r,sd))(h1:s.ev x=u.aG):Ok s (.sa n x) r:=by
 unfold Ok; simp only[qc,qt]; rw[h1]
 unfold saZ at q
 split at q
 ·rename_i k l
  split at q
  ·rename_i w hw
   obtain⟨g,q⟩:=aP q; cases q
   simp only[V.aG,fB]
   exact⟨g,by rw[Rw.zn hw]⟩
  ·cases q
 ·cases q
theorem ab2{x:X}{u r:V}{sd:Sd}(q:ael u=some (r,sd))(h1:s.ev x=u.aG):Ok s (.IU x) r:=by
 unfold Ok; simp only[qc,qt]; rw[h1]
 unfold ael at q
 split at q
 ·cases q; simp[V.aG,Rw.Oa,Rw.dR]
 ·cases q
end
section
variable {m:Fm} {h:Hz} {s:AS}
theorem tN(R:Rp m s.fr): ∀ {xs:List X} {l:List V} {sd:Sd},Ap m xs=some (l,sd)->sd.holds->xs.map s.ev=V.bn l:=by
 intro xs
 induction xs with
 |nil=>intro l sd q _; cases q; rfl
 |cons x r ih =>
  intro l sd q hs
  simp only[Ap] at q
  split at q
  ·rename_i v l' s' h1 h2
   cases q
   rw[Sd.lC] at hs
   simp only[List.map_cons,V.bn]
   rw[R.ev h1,dV (v:=v) (u:=v.bare.1) (s:=v.bare.2) rfl hs.1,ih h2 hs.2]
  ·cases q
theorem FT: ∀ {l:List V},Cb h l=true->qM h.ay (V.bn l)=true:=by
 intro l
 induction l with
 |nil=>intro _; rfl
 |cons v r ih =>
  intro q
  simp only[Cb,Bool.and_eq_true] at q
  simp only[V.bn,qM,Bool.and_eq_true]
  exact⟨V.qU q.1,ih q.2⟩
theorem HY{k:Nat}: ∀ {l:List V},Gf k l=true-> ∀ v∈l,v.kd=some k:=by
 intro l
 induction l with
 |nil=>intro _ v hv; cases hv
 |cons u r ih =>
  intro q v hv
  simp only[Gf,Bool.and_eq_true] at q
  rcases List.mem_cons.1 hv with rfl|hv
  ·have:=q.1
   split at this
   ·rename_i k' e; rw[e,iL this]
   ·cases this
  ·exact ih q.2 v hv
theorem WU: ∀ {l:List V},Cb h l=true->Gf 0 l=true->xg h.ay (V.bn l)=true:=by
 intro l
 induction l with
 |nil=>intro _ _; rfl
 |cons v r ih =>
  intro q k
  have hk:=HY k v (by simp)
  simp only[Cb,Gf,Bool.and_eq_true] at q k
  simp only[V.bn,xg,Bool.and_eq_true]
  exact⟨V.ZC q.1 hk,ih q.2 k.2⟩
theorem ZH: ∀ {ps:List (Nat×Nat×X)} {vs z l:List V},U0 ps vs z=some l->(ps.map fun p=>s.ev p.2.2)=V.bn vs ->
  CQ (V.bn z) (ps.map fun p=>(p.1,p.2.1,s.ev p.2.2))=true/\D8 (V.bn z) (ps.map fun p=>(p.1,p.2.1,s.ev p.2.2))=V.bn l:=by
 intro ps
 induction ps with
 |nil =>
  intro vs z l q he
  cases vs with
  |nil=>cases q; exact⟨rfl,rfl⟩
  |cons v vs=>simp[V.bn] at he
 |cons p ps ih =>
  intro vs z l q he
  obtain⟨off,n,x⟩:=p
  cases vs with
  |nil=>simp[V.bn] at he
  |cons v vs =>
   simp only[U0] at q
   split at q
   ·rename_i c hc
    obtain⟨g,q⟩:=aP q
    simp only[List.map_cons,V.bn,List.cons.injEq] at he
    simp only[Bool.and_eq_true] at g
    have e1:=iL g.1
    obtain⟨i1,i2⟩:=ih q he.2
    simp only[List.map_cons,CQ,D8,Bool.and_eq_true]
    have ec:(s.ev x).cells=V.bn c:=by rw[he.1]; exact V.FQ hc
    simp only[vV,JF,JG] at i1 i2
    simp only[ec,fB]
    refine⟨⟨⟨by simpa using e1,g.2⟩,i1⟩,i2⟩
   ·cases q
theorem aex(R:Rp m s.fr)(hh:s.hp=h.ay){z:List T}{ps:List (Nat×Nat×X)}{r:V}{sd:Sd}(q:mkZ m h z ps=some (r,sd))(hs:sd.holds):Ok s (.mk z ps) r:=by
 unfold mkZ at q
 split at q
 ·rename_i vs s' hb
  split at q
  ·rename_i l hl
   obtain⟨g,q⟩:=aP q
   cases q
   have he:=tN R hb hs
   have he':(ps.map fun p=>s.ev p.2.2)=V.bn vs:=by rw[<- he]; simp
   obtain⟨i1,i2⟩:=ZH hl he'
   rw[zn] at i1 i2
   unfold Ok; simp only[qc,qt]
   rw[i1,i2,he',hh,FT g]
   exact⟨rfl,rfl⟩
  ·cases q
 ·cases q
theorem U3{k n:Nat}: ∀ {ps:List (Nat×X)} {vs z l:List V},Zz n ps vs z=some l->(ps.map fun p=>s.ev p.2)=V.bn vs->Gf k vs=true ->
  BK k n (ps.map fun p=>(p.1,s.ev p.2))=true/\oD (V.bn z) (ps.map fun p=>(p.1,s.ev p.2))=V.bn l:=by
 intro ps
 induction ps with
 |nil =>
  intro vs z l q he _
  cases vs with
  |nil=>cases q; exact⟨rfl,rfl⟩
  |cons v vs=>simp[V.bn] at he
 |cons p ps ih =>
  intro vs z l q he hk
  obtain⟨i,x⟩:=p
  cases vs with
  |nil=>simp[V.bn] at he
  |cons v vs =>
   simp only[Zz] at q
   obtain⟨g,q⟩:=aP q
   simp only[List.map_cons,V.bn,List.cons.injEq] at he
   have hkv:=HY hk v (by simp)
   simp only[Gf,Bool.and_eq_true] at hk
   obtain⟨i1,i2⟩:=ih q he.2 hk.2
   have e:V.bn (z.set i v)=(V.bn z).set i (s.ev x):=by rw[he.1]; simp[je,List.map_set]
   rw[e] at i2
   simp only[List.map_cons,BK,oD,Bool.and_eq_true]
   refine⟨⟨⟨?_,g⟩,i1⟩,i2⟩
   rw[he.1,V.Oe hkv]; simp
theorem aey(R:Rp m s.fr)(hh:s.hp=h.ay){ty k:Nat}{z:T}{n:Nat}{ps:List (Nat×X)}{r:V}{sd:Sd}(q:msZ m h k z n ps=some (r,sd))(hs:sd.holds):Ok s (.ms ty k z n ps) r:=by
 unfold msZ at q
 split at q
 ·rename_i vs s' hb
  split at q
  ·rename_i l hl
   obtain⟨g,q⟩:=aP q
   have hs':s'.holds/\r.aG= .sl k true (V.bn l):=by
    split at q
    ·rename_i w hw
     cases q; exact⟨hs,by simp only[V.aG]; rw[Rw.zn hw]⟩
    ·cases q; exact⟨hs,rfl⟩
   have he:=tN R hb hs'.1
   have he':(ps.map fun p=>s.ev p.2)=V.bn vs:=by rw[<- he]; simp
   simp only[Bool.and_eq_true] at g
   obtain⟨⟨⟨⟨⟨⟨g1,g2⟩,g3⟩,g4⟩,g5⟩,g6⟩,g7⟩:=g
   obtain⟨i1,i2⟩:=U3 hl he' g3
   have e:V.bn (List.replicate n (BA z))=List.replicate n z:=by rw[je,List.map_replicate,wL]
   rw[e] at i2
   unfold Ok; simp only[qc,qt]
   rw[i1,i2,he',hh,FT g4,V.kZ _ g5,g1,g2,g6,g7,hs'.2]
   exact⟨rfl,rfl⟩
  ·cases q
 ·cases q
theorem Ar(R:Rp m s.fr){x:Option X}{v:Option V}{sd:Sd}(q:JE m x=some (v,sd))(hs:sd.holds):x.map s.ev=v.map V.aG:=by
 cases x with
 |none=>cases q; rfl
 |some x =>
  simp only[JE] at q
  split at q
  ·rename_i u hu
   cases q
   simp only[Option.map_some]; rw[R.ev hu,dV (v:=u) (u:=u.bare.1) (s:=u.bare.2) rfl hs]
  ·cases q
theorem FU{k k':Nat}{r:Rw}(g:kOk k k' r=true):k'=k\/r.bn=[]:=by
 unfold kOk at g
 split at g
 ·exact .inr rfl
 ·exact .inl (iL g)
theorem QA{k k':Nat}{f:Bool}{w:Rw}{lo hi mx:Option V}{r:V}{sd:Sd}(q:ZA k k' f w lo hi mx=some (r,sd))(hs:sd.holds) :
  YC k (.sl k' f w.bn) (lo.map V.aG) (hi.map V.aG) (mx.map V.aG)/\Np k (.sl k' f w.bn) (lo.map V.aG) (hi.map V.aG) (mx.map V.aG)=r.aG:=by
 unfold ZA at q
 split at q
 ·obtain⟨g,q⟩:=aP q; cases q
  simp only[Option.map_none,YC,Np,V.aG]
  exact⟨FU g,trivial⟩
 ·obtain⟨g,q⟩:=aP q; cases q
  simp only[Sd.holds,Rw.tK] at hs
  simp only[Option.map_none,Option.map_some,YC,Np,V.aG,Rw.Qx,Rw.dR]
  exact⟨⟨FU g,hs⟩,trivial⟩
 ·obtain⟨g,q⟩:=aP q; cases q
  simp only[Sd.holds,Rw.tK] at hs
  simp only[Option.map_none,Option.map_some,YC,Np,V.aG,Rw.Aq,Rw.dR]
  exact⟨⟨FU g,hs⟩,trivial⟩
 ·obtain⟨g,q⟩:=aP q; cases q
  simp only[Sd.holds,Rw.tK] at hs
  simp only[Option.map_none,Option.map_some,YC,Np,V.aG,Rw.Aq,Rw.Qx,Rw.dR]
  exact⟨⟨FU g,hs.1,hs.2.1,hs.2.2.2⟩,trivial⟩
 ·obtain⟨g,q⟩:=aP q; cases q
  simp only[Sd.holds,Rw.tK] at hs
  simp only[Option.map_none,Option.map_some,YC,Np,V.aG,Rw.Aq,Rw.dR]
  exact⟨⟨FU g,hs.1,hs.2.1,hs.2.2.2⟩,trivial⟩
 ·cases q
theorem ZI{k i ty ko:Nat}{w:Rw}{lo hi mx:Option V}{r:V}{sd:Sd}(q:ZB k i ko w lo hi mx=some (r,sd))(hs:sd.holds) :
  BL k ⟨ty,ko,w.bn⟩ (lo.map V.aG) (hi.map V.aG) (mx.map V.aG)/\xQ i ⟨ty,ko,w.bn⟩ (lo.map V.aG) (hi.map V.aG) (mx.map V.aG)=r.aG:=by
 unfold ZB at q
 split at q
 ·obtain⟨g,q⟩:=aP q; cases q
  simp only[Sd.holds,Rw.tK] at hs
  simp only[Option.map_none,Option.map_some,BL,xQ,V.aG,Rw.dR]
  exact⟨⟨iL g,hs⟩,trivial⟩
 ·obtain⟨g,q⟩:=aP q; cases q
  simp only[Sd.holds,Rw.tK] at hs
  simp only[Option.map_none,Option.map_some,BL,xQ,V.aG,Rw.dR]
  exact⟨⟨iL g,hs⟩,trivial⟩
 ·obtain⟨g,q⟩:=aP q; cases q
  simp only[Sd.holds,Rw.tK] at hs
  simp only[Option.map_none,Option.map_some,BL,xQ,V.aG,Rw.dR]
  exact⟨⟨iL g,hs.1,hs.2.1,hs.2.2.2⟩,trivial⟩
 ·cases q
theorem WV{k i ty ko:Nat}{w:Rw}{xs:List V}{lo hi mx:Option V}{r:V}{sd:Sd}(q:TD k i ko w xs lo hi mx=some (r,sd))(hs:sd.holds) :
  BL k ⟨ty,ko,w.bn++V.bn xs⟩ (lo.map V.aG) (hi.map V.aG) (mx.map V.aG)/\xQ i ⟨ty,ko,w.bn++V.bn xs⟩ (lo.map V.aG) (hi.map V.aG) (mx.map V.aG)=r.aG:=by
 unfold TD at q
 split at q
 ·obtain⟨g,q⟩:=aP q; cases q
  simp only[Sd.holds,Rw.tK] at hs
  simp only[Option.map_none,Option.map_some,BL,xQ,V.aG]
  refine⟨⟨iL g,hs.1,?_⟩,trivial⟩
  have:=hs.2
  simp only[List.length_append,Rw.dR]; omega
 ·split at q
  ·simp only[V.bn,List.append_nil]; exact ZI q hs
  ·cases q
theorem U4(R:Rp m s.fr){b:Bool}{k:Nat}{x:X}{lo hi mx:Option X}{r:V}{sd:Sd}(q:slX m h b k x lo hi mx=some (r,sd))(hs:sd.holds) :
  ∃ v lo' hi' mx' s',slZ h b k v lo' hi' mx'=some (r,s')/\s'.holds/\s.ev x=v.aG/\lo.map s.ev=lo'.map V.aG/\hi.map s.ev=hi'.map V.aG/\mx.map s.ev=mx'.map V.aG:=by
 obtain⟨v,s',q,hs,hv⟩:=jW R q hs
 split at q
 ·rename_i lo' s1 hi' s2 mx' s3 e1 e2 e3
  split at q
  ·rename_i u s4 e4
   cases q
   rw[Sd.lC,Sd.lC,Sd.lC] at hs
   exact⟨v,lo',hi',mx',s4,e4,hs.2.2.2,hv,Ar R e1 hs.1,Ar R e2 hs.2.1,Ar R e3 hs.2.2.1⟩
  ·cases q
 ·cases q
theorem afN(R:Rp m s.fr){k:Nat}{x:X}{lo hi mx:Option X}{r:V}{sd:Sd}(q:slX m h false k x lo hi mx=some (r,sd))(hs:sd.holds):Ok s (.sl k x lo hi mx) r:=by
 obtain⟨v,lo',hi',mx',s',q,hs,hv,e1,e2,e3⟩:=U4 R q hs
 unfold Ok; simp only[qc,qt]; rw[hv,e1,e2,e3]
 unfold slZ at q
 split at q
 ·exact QA q hs
 ·cases q
 ·cases q
theorem aez(R:Rp m s.fr)(hh:s.hp=h.ay){k:Nat}{x:X}{lo hi mx:Option X}{r:V}{sd:Sd}(q:slX m h true k x lo hi mx=some (r,sd))(hs:sd.holds):Ok s (.Rl k x lo hi mx) r:=by
 obtain⟨v,lo',hi',mx',s',q,hs,hv,e1,e2,e3⟩:=U4 R q hs
 unfold Ok; simp only[qc,qt]; rw[hv,e1,e2,e3]
 unfold slZ at q
 split at q
 ·exact QA q hs
 ·simp only[cond_true] at q
  split at q
  ·rename_i i _ ty ko w xs e
   simp only[V.aG,hh,aZ e,OV.aF]
   exact WV q hs
  ·cases q
 ·cases q
theorem Dj{t:Str}{a b:Nat}(hab:a<=b)(_hb:b<=t.length):(bs t).extract a b=bs ((t.take b).drop a):=by
 apply ByteArray.ext
 have h1:((bs t).extract a b).data=(bs t).data.extract a b:=ByteArray.data_extract
 rw[h1]
 apply Array.ext'
 simp[bs,List.extract,List.take_drop]
 rw[show a+(b-a)=b by omega]
theorem afO(R:Rp m s.fr){x:X}{lo hi:Option X}{r:V}{sd:Sd}(q:ssX m x lo hi=some (r,sd))(hs:sd.holds):Ok s (.ss x lo hi) r:=by
 obtain⟨v,s',q,hs,hv⟩:=jW R q hs
 split at q
 ·rename_i t lo' s1 hi' s2 e1 e2
  split at q
  ·rename_i u s4 e4
   cases q
   rw[Sd.lC,Sd.lC] at hs
   have f1:=Ar R e1 hs.1
   have f2:=Ar R e2 hs.2.1
   unfold Ok; simp only[qc,qt]; rw[hv,f1,f2]
   have hs4:=hs.2.2
   unfold ssZ at e4
   split at e4
   ·cases e4
    simp only[Sd.holds] at hs4
    simp only[Option.map_none,Option.map_some,V.aG,eS,y8]
    refine⟨hs4,?_⟩
    rw[Dj (by omega) (Nat.le_refl _)]; simp
   ·cases e4
    simp only[Sd.holds] at hs4
    simp only[Option.map_none,Option.map_some,V.aG,eS,y8]
    refine⟨hs4,?_⟩
    rw[Dj (by omega) (by omega)]; simp
   ·cases e4
    simp only[Sd.holds] at hs4
    simp only[Option.map_some,V.aG,eS,y8]
    refine⟨hs4,?_⟩
    rw[Dj (by omega) (by omega)]
   ·cases e4
  ·cases q
 ·cases q
theorem aeA(R:Rp m s.fr)(hh:s.hp=h.ay){f:FuncId}{cap:List X}{r:V}{sd:Sd}(q:mfZ m h f cap=some (r,sd))(hs:sd.holds):Ok s (.mf f cap) r:=by
 unfold mfZ at q
 split at q
 ·rename_i l s' hb
  obtain⟨g,q⟩:=aP q
  cases q
  simp only[Bool.and_eq_true] at g
  unfold Ok; simp only[qc,qt]
  rw[tN R hb hs,hh,WU g.1.1 g.1.2,g.2]
  exact⟨rfl,rfl⟩
 ·cases q
theorem aeB{f:FuncId}{x:X}{v r:V}{sd:Sd}(q:mbZ f v=some (r,sd))(h1:s.ev x=v.aG):Ok s (.mb f x) r:=by
 unfold mbZ at q
 split at q
 ·obtain⟨g,q⟩:=aP q; cases q
  unfold Ok; simp only[qc,qt]; rw[h1]; exact⟨Nat.blt_eq.mp g,rfl⟩
 ·obtain⟨g,q⟩:=aP q; cases q
  rename_i d
  unfold Ok; simp only[qc,qt]; rw[h1]; simp only[V.aG]; rw[Dat.FP]; exact⟨Nat.blt_eq.mp g,rfl⟩
 ·cases q
theorem ZJ(R:Rp m s.fr)(hh:s.hp=h.ay){op:lg}{r:V}{sd:Sd}(q:qz m h op=some (r,sd))(hs:sd.holds):bP op=true/\Ok s op r:=by
 unfold qz at q
 split at q
 ·split at q
  ·rename_i v e; cases q
   exact⟨rfl,trivial,R.ev e⟩
  ·cases q
 ·obtain⟨c,s',q,hs,hc⟩:=jW R q hs
  split at q
  ·rename_i t va vb e1 e2
   exact⟨rfl,ZE R e1 e2 q hs hc⟩
  ·cases q
 ·obtain⟨u,v,s',q,hs,h1,h2⟩:=zo R q hs
  exact⟨rfl,abY q hs h1 h2⟩
 ·obtain⟨u,v,s',q,hs,h1,h2⟩:=zo R q hs
  split at q
  ·cases q; refine⟨rfl,?_⟩; unfold Ok; simp only[qc,qt]; rw[h1,h2]; exact⟨rfl,rfl⟩
  ·cases q
 ·obtain⟨u,s',q,hs,h1⟩:=jW R q hs
  split at q
  ·cases q; refine⟨rfl,?_⟩; unfold Ok; simp only[qc,qt]; rw[h1]; exact⟨rfl,rfl⟩
  ·cases q
 ·obtain⟨u,s',q,hs,h1⟩:=jW R q hs
  split at q
  ·cases q; refine⟨rfl,?_⟩; unfold Ok; simp only[qc,qt]; rw[h1]; simp only[V.aG,true_and]; rw[U1 hs]
  ·cases q; refine⟨rfl,?_⟩; unfold Ok; simp only[qc,qt]; rw[h1]; simp only[V.aG,true_and]; rw[U1 hs]
  ·cases q; refine⟨rfl,?_⟩; unfold Ok; simp only[qc,qt]; rw[h1]; simp only[V.aG,true_and]; rw[U1 hs]
  ·cases q
 ·obtain⟨u,s',q,hs,h1⟩:=jW R q hs
  split at q
  ·cases q; refine⟨rfl,?_⟩; unfold Ok; simp only[qc,qt]; rw[h1]; simp only[V.aG,true_and]; rw[afM hs.1 hs.2]
  ·cases q
 ·obtain⟨u,s',q,hs,h1⟩:=jW R q hs
  split at q
  ·cases q; refine⟨rfl,?_⟩; unfold Ok; simp only[qc,qt]; rw[h1]; simp only[V.aG,true_and]; rw[aem hs.1 hs.2]
  ·cases q
 ·obtain⟨u,s',q,hs,h1⟩:=jW R q hs; exact⟨rfl,aen hh q h1⟩
 ·obtain⟨u,s',q,hs,h1⟩:=jW R q hs; exact⟨rfl,aeo q h1⟩
 ·obtain⟨u,v,s',q,hs,h1,h2⟩:=zo R q hs; exact⟨rfl,ZG hh q hs h1 h2⟩
 ·obtain⟨u,v,s',q,hs,h1,h2⟩:=zo R q hs; exact⟨rfl,aep q hs h1 h2⟩
 ·obtain⟨u,s',q,hs,h1⟩:=jW R q hs; exact⟨rfl,TI hh q hs h1⟩
 ·obtain⟨u,s',q,hs,h1⟩:=jW R q hs; exact⟨rfl,aer hh q h1⟩
 ·obtain⟨u,s',q,hs,h1⟩:=jW R q hs; exact⟨rfl,U2 hh q h1⟩
 ·obtain⟨u,v,s',q,hs,h1,h2⟩:=zo R q hs; exact⟨rfl,aes q h1 h2⟩
 ·obtain⟨u,v,s',q,hs,h1,h2⟩:=zo R q hs; exact⟨rfl,aeu q h1 h2⟩
 ·exact⟨rfl,aex R hh q hs⟩
 ·exact⟨rfl,aey R hh q hs⟩
 ·exact⟨rfl,afN R q hs⟩
 ·exact⟨rfl,aez R hh q hs⟩
 ·exact⟨rfl,afO R q hs⟩
 ·obtain⟨u,s',q,hs,h1⟩:=jW R q hs; exact⟨rfl,aev q h1⟩
 ·exact⟨rfl,aeA R hh q hs⟩
 ·obtain⟨u,v,s',q,hs,h1,h2⟩:=zo R q hs; exact⟨rfl,ab1 q h1 h2⟩
 ·obtain⟨u,s',q,hs,h1⟩:=jW R q hs; exact⟨rfl,ab2 q h1⟩
 ·obtain⟨u,s',q,hs,h1⟩:=jW R q hs; exact⟨rfl,aeB q h1⟩
 ·obtain⟨u,s',q,hs,h1⟩:=jW R q hs; exact⟨rfl,aew q h1⟩
 ·cases q
end
structure ah(P:Program)(dr:Bool)(g:Option Bool)(f:FuncId)(args:List V)(h:Hz)(n:Nat)(K:V->Hz->Prop)(KW:Nat->V->Hz->Prop):Prop where
 ok:(match g with
  |none=>aN P f (V.bn args) h.ay n fun t hp=> ∃ v h',t=v.aG/\hp=h'.ay/\(dr=true->h'=h/\t.free=true)/\K v h'
  |some b=>(∃ v,(b=true->aN P f (V.bn args) h.ay n fun t hp=>t=v.aG/\hp=h.ay)/\v.free=true/\K v h) \/
   (dr=false/\(b=true->aN P f (V.bn args) h.ay n fun t hp=> ∃ v h',t=v.aG/\hp=h'.ay/\K v h')/\(b=false->K (.int 0) h))) \/
  (g=none/\dr=false/\ ∃ k,yX P f (V.bn args) h.ay n k fun t hp=> ∃ v h',t=v.aG/\hp=h'.ay/\KW k v h') \/
  (g=none/\dr=true/\h.get n=none/\aN P f (V.bn args) h.ay n fun t hp=> ∃ v o,t=v.aG/\hp=Hz.ay ((n,some o)::h)/\KW 0 v ((n,some o)::h))
structure Ii(P:Program)(f:FuncId)(args:List V)(h:Hz)(n:Nat)(K:V->Hz->Prop):Prop where
 ok: ∃ (v:V) (o:Option OV),v.aG.ids (fun i=>i=n)/\(∀ ob,o=some ob->T.bC ob.aF.l=true) /\
  (∀ hp:Hp,(∀ i ob,h.ay i=some ob->hp i=some ob)->aN P f (V.bn args) hp n fun t' h'=>t'=v.aG/\h'=fO hp n (o.map OV.aF)) /\
  K v (match o with|none=>h|some o=>(n,some o)::h)
def Dk(dr fl:Bool)(a b c:Prop):Prop :=
 match dr with
 |false=>a
 |true=>match fl with
  |false=>b
  |true=>c
inductive XO(p a b:Prop):Prop where
 |mk:(p->a)->b->XO p a b
inductive afP(o:Option (List Bool))(yes:List Bool->Prop)(no:Prop):Prop where
 |mk:(∀ l,o=some l->yes l)->(o=none->no)->afP o yes no
def V.seq(v:V)(K:V->Prop):Prop :=
 match v with
 | .int n=>K (.int n)
 | .bool b=>K (.bool b)
 | .u8 n=>K (.u8 n)
 | .str s=>K (.str s)
 | .dat d=>K (.dat d)
 | .agg l=>K (.agg l)
 | .row k f r=>K (.row k f r)
 | .JD k f l=>K (.JD k f l)
 | .ref k v=>K (.ref k v)
 | .own i=>K (.own i)
 | .inn i=>K (.inn i)
 | .pin i j o=>K (.pin i j o)
 | .ptr i j o=>K (.ptr i j o)
 | .kR i a b=>K (.kR i a b)
 | .fn f l=>K (.fn f l)
 | .fP l=>K (.fP l)
 | .cnd b v=>K (.cnd b v)
 | .raw t=>K (.raw t)
theorem V.seq_eq(v:V)(K:V->Prop):v.seq K=K v:=by cases v<;>rfl
def iO(d:Option Nat)(v:V)(m:Fm):Fm :=
 match d with
 |some d=>(d,v)::m
 |none=>m
def qZ:Option Bool->V->V
 |none,v=>v
 |some b,.cnd c v=>.cnd (b&&c) v
 |some b,v=>.cnd b v
theorem FV(v:V):(qZ (some true) v).aG=v.aG:=by cases v<;>rfl
theorem TJ(v:V):(qZ (some false) v).aG=T.un:=by cases v<;>rfl
def TK(m:Fm):Option (Nat×Bool)->Option (Option Bool)
 |none=>some none
 |some (g,w)=>match m.get g with
  |some (.bool b)=>some (some (bif w then b else !b))
  |some (.cnd c (.bool b))=>some (some (c&&(bif w then b else !b)))
  |_=>none
def ltX(nx:Nat)(m:Fm):List X->Bool
 |[]=>true
 |x::r=>(match zH m x with|some v=>T.lt nx v.aG|none=>false)&&ltX nx m r
def ZK(nx:Nat)(m:Fm):lg->Bool
 | .st _ x _=>match zH m x with|some v=>T.newer nx v.aG|none=>false
 | .app _ _ _ x _=>match zH m x with|some v=>T.newer nx v.aG|none=>false
 | .Nl _ _ _=>false
 | .OG _ _ _=>false
 | .call _ _=>true
 | .ku _ _=>true
 |op=>ltX nx m op.xs
def ab3(i:Nat)(m:Fm):List X->Bool
 |[]=>true
 |x::r=>(match zH m x with|some v=>T.nid i v.aG|none=>false)&&ab3 i m r
def neB(m:Fm)(xs:List X):List Nat->Bool
 |[]=>true
 |d::r=>(match m.get d with|some (.ptr i _ _)=>ab3 i m xs|_=>false)&&neB m xs r
def Gw(nx:Nat)(o:aC)(m:Fm):Bool:=(!o.fl||ZK nx m o.op)&&neB m o.op.xs o.ne
def isZero:V->Bool
 | .int (.ofNat 0)=>true
 |_=>false
def XZ(n:Nat):T->Option Rw
 | .lit (.int .i64 z)=>some (.ints (List.replicate n z))
 | .lit (.bool z)=>some (.bools (List.replicate n z))
 | .lit (.string z)=>some (.strs (List.replicate n z.data.toList))
 |_=>none
def Rw.set(j:Nat)(v:V)(r:Rw):Option Rw :=
 match r,v with
 | .ints l,.int n=>some (.ints (l.set j n))
 | .bools l,.bool n=>some (.bools (l.set j n))
 | .strs l,.str n=>some (.strs (l.set j n))
 | .rules l,.dat (.rule n)=>some (.rules (l.set j n))
 | .clauses l,.dat (.clause n)=>some (.clauses (l.set j n))
 | .elems l,.dat (.elem n)=>some (.elems (l.set j n))
 | .jm l,.row 0 false (.ints n)=>some (.jm (l.set j n))
 | .mP l,.row 0 false (.bools n)=>some (.mP (l.set j n))
 | .mQ l,.row 0 false (.jm n)=>some (.mQ (l.set j n))
 |_,_=>none
def aeC(h:Hz)(k:Nat):V->Option (Rw×List V)
 | .row k' _ r=>dL (kOk k k' r) (some (r,[]))
 | .JD k' _ l=>dL (Nat.beq k' k) (some (.nil,l))
 | .own o=>match h.get o with
  |some (.row _ ko r x)=>dL (Nat.beq ko k) (some (r,x))
  |_=>none
 |_=>none
def aeD(r:Rw)(x:List V)(r':Rw)(x':List V):Option (Rw×List V) :=
 match x,r' with
 |[],r'=>match r.app r' with|some w=>some (w,x')|none=>none
 |x,.nil=>some (r,x++x')
 |_,_=>none
def og(r:Rw)(x:List V):Nat :=
 match x with
 |[]=>r.len
 |x=>r.len+x.length
def nG(bytes:Nat)(a b:Nat):Prop:=(a+b)*bytes<=140737488355328/\a+b<=1152921504606846976
def setCells(v:V)(off:Nat)(u:V):Option V :=
 match v.cells,u.cells with
 |some l,some c=>some (.agg (l.take off++c++l.drop (off+c.length)))
 |_,_=>none
def Og:List V->(List V->Prop)->Prop
 |[],K=>K []
 |v::r,K=>Og r fun r'=>K (v::r')
def V.force(v:V)(K:V->Prop):Prop :=
 match v with
 | .agg l=>Og l fun l=>K (.agg l)
 |v=>K v
theorem WW: ∀ {l:List V} {K:List V->Prop},Og l K=K l:=by
 intro l
 induction l with
 |nil=>intro K; rfl
 |cons v r ih=>intro K; show Og r (fun r'=>K (v::r'))=_; rw[ih]
theorem V.force_eq(v:V)(K:V->Prop):v.force K=K v:=by
 cases v<;>first|rfl|exact WW
structure aaU(c p a b:Prop):Prop where
 ok:(c\/b)/\p/\a
theorem aaU.one{c p a b:Prop}(h:c/\p)(k:a):aaU c p a b:=⟨.inl h.1,h.2,k⟩
structure AtZ(y:List V)(j:Nat)(K:V->Prop):Prop where
 ok: ∃ v,y[j]? =some v/\K v
structure InZ(h:Hz)(i:Nat)(K:Nat->Rw->Prop):Prop where
 ok: ∃ ty k r,h.get i=some (.row ty k r [])/\K k r
structure agR(h:Hz)(i j k:Nat)(v:V)(K:Hz->Prop):Prop where
 ok: ∃ ty r r' h',h.get i=some (.row ty k r [])/\r.set j v=some r'/\r.rng j/\h'.ay=upd h.ay i (some (OV.row ty k r' []).aF)/\K h'
structure afQ(h:Hz)(i ty k:Nat)(K:Rw->Hz->Prop):Prop where
 ok: ∃ r h',h.get i=some (.row ty k r [])/\h'.ay=upd h.ay i none/\K r h'
def ab4(dr:Bool)(d:Option Nat)(n:Nat)(m:Fm)(h:Hz)(K:Fm->Hz->Prop):lg->Prop
 | .box ty k x=>match zH m x with
  |some v=>match v.bare with
   |(v,s)=>bif Gf k [v]&&v.iT h&&sW k then s.vc none (K (iO d (.ptr n 0 0) m) ((n,some (.box ty k v))::h)) else False
  |none=>False
 | .al ty k z=>bif z.kd==k&&z.iT h.ay&&z.free&&sW k then K (iO d (.ptr n 0 0) m) ((n,some (.box ty k (BA z)))::h) else False
 | .make ty k bytes z x y=>match zH m x,zH m y with
  |some (.int a),some (.int b)=>bif z.kd==k&&z.iT h.ay&&z.free&&sW k then
    (match (bif isZero (.int a) then some .nil else XZ a.toNat z) with
    |some r=>VC (0<=a/\a<=b/\b*bytes<=140737488355328/\b<=1152921504606846976) (K (iO d (.own n) m) ((n,some (.row ty k r []))::h))
    |none=>VC (0<=a/\a<=b/\b*bytes<=140737488355328/\b<=1152921504606846976) (K (iO d (.own n) m) ((n,some (.gen ty k (List.replicate a.toNat (BA z))))::h))) else False
  |_,_=>False
 | .st k x v=>match zH m x,zH m v with
  |some (.ptr i j off),some v=>match v.bare with
   |(v,s)=>bif Gf k [v]&&v.iT h then
    (match h.get i with
    |some (.box ty ko w)=>bif Nat.beq j 0 then
      (bif Nat.beq off 0&&Nat.beq ko k then s.vc none (K m ((i,some (.box ty ko v))::h))
      else bif !(Nat.beq ko 0)&&jB (bG ko) off k then(match setCells w off v with
       |some w'=>w'.force fun w'=>s.vc none (K m ((i,some (.box ty ko w'))::h))
       |none=>False) else False) else False
    |some (.row ty ko r [])=>bif Nat.beq off 0&&Nat.beq ko k then(match r.set j v with
      |some r'=>s.vc none (VC (r.rng j) (K m ((i,some (.row ty ko r' []))::h)))
      |none=>s.vc none (VC (r.rng j) (K m ((i,some (.gen ty ko (r.vs.set j v)))::h)))) else False
    |some (.gen ty ko y)=>bif Nat.beq off 0&&Nat.beq ko k then s.vc none (VC (j<y.length) (K m ((i,some (.gen ty ko (y.set j v)))::h))) else False
    |_=>False) else False
  |some x,some v=>(match x.bare with
   |(.pin i j off,s0)=>match v.bare with
    |(v,s)=>bif Gf k [v]&&v.iT h&&Nat.beq off 0 then(s0.and s).vc none (agR h i j k v fun h'=>K m h') else False
   |_=>False)
  |_,_=>False
 | .ld k x=>match zH m x with
  |some v=>(match v.bare with
   |(.ptr i j off,s)=>(match h.get i with
    |some (.gen _ ko y)=>bif Nat.beq off 0&&Nat.beq ko k then s.vc none (AtZ y j fun v=>v.seq fun v=>K (iO d v m) h) else False
    |_=>False)
   |(.pin i j off,s)=>s.vc none (InZ h i fun ko r=>match ldR k j off ko r with
    |some (v,s')=>s'.vc none (v.seq fun v=>K (iO d v m) h)
    |none=>False)
   |_=>False)
  |none=>False
 | .ia k x i=>match zH m x,zH m i with
  |some v,some w=>(match v.bare,w.bare with
   |(.inn o,s),(.int n,s')=>(s.and s').vc none (InZ h o fun ko r=>bif Nat.beq ko k then VC (r.rng n) (K (iO d (.pin o n.toNat 0) m) h) else False)
   |_,_=>False)
  |_,_=>False
 | .len str x=>match zH m x with
  |some v=>(match v.bare with
   |(.inn o,s)=>s.vc none (InZ h o fun ko r=>bif !str&& !(Nat.beq ko dI) then r.lenV.seq fun v=>K (iO d v m) h else False)
   |_=>False)
  |none=>False
 | .app ty k bytes x y=>match zH m x,zH m y with
  |some x,some y=>match aeC h k y with
   |some (r',x')=>(match x with
    | .row _ true .nil=>VC (nG bytes 0 (og r' x')) (K (iO d (.own n) m) ((n,some (.row ty k r' x'))::h))
    | .row k' true r=>bif Nat.beq k' k then(match r.app r' with
     |some w=>aaU (r.len=0\/0<og r' x') (nG bytes r.len (og r' x')) (K (iO d (.own n) m) ((n,some (.row ty k w x'))::h)) (dr=false/\K (iO d (.row k' true r) m) h)
     |none=>False) else False
    | .own i=>(match h.get i with
     |some (.row ty' ko r x)=>bif Nat.beq ko k&&Nat.beq ty' ty then(match aeD r x r' x' with
      |some (w,z)=>VC (nG bytes (og r x) (og r' x')) (K (iO d (.own n) m) ((n,some (.row ty k w z))::(i,none)::h))
      |none=>False) else False
     |some (.gen ty' ko y)=>bif Nat.beq ko k&&Nat.beq ty' ty then VC (nG bytes y.length (og r' x')) (K (iO d (.own n) m) ((n,some (.gen ty k (y++(r'.vs++x'))))::(i,none)::h)) else False
     |_=>False)
    | .inn i=>afQ h i ty k fun r h'=>match r.app r' with
     |some w=>VC (nG bytes r.len (og r' x')) (K (iO d (.own n) m) ((n,some (.row ty k w x'))::h'))
     |none=>False
    |_=>False)
   |none=>False
  |_,_=>False
 | .OG k z x=>match zH m x with
  |some (.kR i lo hi)=>match h.get i with
   |some (.row ty ko r [])=>bif Nat.beq ko k&&z.kd==k&&z.iT h.ay&&z.free then
     VC (lo<=hi/\hi=r.len) (match d with
      |none=>K m ((i,some (.row ty ko (r.take lo) (List.replicate (hi-lo) (BA z))))::h)
      |some _=>K (iO d (.raw T.un) m) ((i,some (.row ty ko (r.take lo) (List.replicate (hi-lo) (BA z))))::h)) else False
   |_=>False
  |_=>False
 | .Dv ty k z nn ps=>match Ap m (ps.map fun p=>p.2) with
  |some (vs,s)=>match Zz nn ps vs (List.replicate nn (BA z)) with
   |some l=>bif (z.kd==k)&&z.free&&Gf k vs&&Cb h vs&&Nat.ble (nn*bG k) 16777216&&sW k then s.vc none (K (iO d (.own n) m) ((n,some (.row ty k .nil l))::h)) else False
   |none=>False
  |none=>False
 | .xO x=>match zH m x with
  |some (.row _ _ r)=>XO (r.len=0) (K (iO d (.bool true) m) h) (K (iO d (.bool false) m) h)
  |some (.own i)=>match h.get i with
   |some (.row _ ko r [])=>bif Nat.beq ko dI then False else XO (r.len=0) (K (iO d (.bool true) m) h) (K (iO d (.bool false) m) h)
   |_=>False
  |_=>False
 | .Uu ty=>K (iO d (.own n) m) ((n,some (.map ty [] []))::h)
 | .mlk z x i=>match zH m x,zH m i with
  |some (.own o),some (.int k)=>match h.get o with
   |some (.map _ es [])=>afP (Gu k es) (fun l=>K (iO d (.fP [.row 0 false (.bools l),.bool true]) m) h) (K (iO d (.fP [BA z,.bool false]) m) h)
   |_=>False
  |_,_=>False
 | .Nl x i v=>match zH m x,zH m i,zH m v with
  |some (.own o),some (.int k),some v=>match v.bare with
   |(v,s)=>match h.get o with
    |some (.map ty es [])=>bif Gf 0 [v]&&v.iT h then s.vc none (VC (Gu k es=none) (K m ((o,some (.map ty es [(k,v)]))::h))) else False
    |_=>False
  |_,_,_=>False
 |_=>False
def aeE(P:Program)(dr:Bool)(nx n:Nat)(o:aC)(KK:Nat->Fm->Hz->Prop)(m:Fm)(h:Hz):Prop :=
 match TK m o.g with
 |none=>False
 |some g=>bif Gw nx o m then
   (match o.op with
   | .call f xs=>(match Ap m xs with
    |some (l,s)=>s.vc g (match g with
     |none=>Dk dr o.fl (ah P false none f l h n (fun v h'=>v.seq fun v=>KK 0 (iO o.d v m) h') (fun k v h'=>v.seq fun v=>KK k (iO o.d v m) h')) (ah P true none f l h n (fun v h'=>v.seq fun v=>KK 0 (iO o.d v m) h') (fun _ _ _=>False)) (ah P false none f l h n (fun v h'=>v.seq fun v=>KK 0 (iO o.d v m) h') (fun _ _ _=>False))
     |some b=>Dk dr o.fl (ah P false (some b) f l h n (fun v h'=>v.seq fun v=>KK 0 (iO o.d (qZ (some b) v) m) h') (fun _ _ _=>False)) (ah P true (some b) f l h n (fun v h'=>v.seq fun v=>KK 0 (iO o.d (qZ (some b) v) m) h') (fun _ _ _=>False)) (ah P false (some b) f l h n (fun v h'=>v.seq fun v=>KK 0 (iO o.d (qZ (some b) v) m) h') (fun _ _ _=>False)))
    |none=>False)
   | .ku x xs=>(match zH m x,Ap m xs with
    |some v,some (l,s)=>(match v.bare with
     |(.fn f cap,s0)=>(s0.and s).vc g (bif Nat.blt f 4096 then Dk dr o.fl (ah P false g f (l++cap) h n (fun v h'=>v.seq fun v=>KK 0 (iO o.d (qZ g v) m) h') (fun _ _ _=>False)) (ah P true g f (l++cap) h n (fun v h'=>v.seq fun v=>KK 0 (iO o.d (qZ g v) m) h') (fun _ _ _=>False)) (ah P false g f (l++cap) h n (fun v h'=>v.seq fun v=>KK 0 (iO o.d (qZ g v) m) h') (fun _ _ _=>False)) else Dk dr o.fl (ah P false g (f % 4096) (.agg cap::l) h n (fun v h'=>v.seq fun v=>KK 0 (iO o.d (qZ g v) m) h') (fun _ _ _=>False)) (ah P true g (f % 4096) (.agg cap::l) h n (fun v h'=>v.seq fun v=>KK 0 (iO o.d (qZ g v) m) h') (fun _ _ _=>False)) (ah P false g (f % 4096) (.agg cap::l) h n (fun v h'=>v.seq fun v=>KK 0 (iO o.d (qZ g v) m) h') (fun _ _ _=>False)))
     |_=>False)
    |_,_=>False)
   |op=>(match qz m h op with
    |some (v,s)=>s.vc g (v.seq fun v=>KK 0 (iO o.d (qZ g v) m) h)
    |none=>(match g with
     |none=>ab4 dr o.d n m h (KK 0) op
     |some b=>Fork b (ab4 dr o.d n m h (KK 0) op) (KK 0 (iO o.d (.cnd false (.int 0)) m) h))))
   else False
def adZ(P:Program)(nx n:Nat)(o:aC)(KK:Nat->Fm->Hz->Prop)(m:Fm)(h:Hz):Prop :=
 match o.op,o.g with
 | .call f xs,none=>bif o.fl&&Gw nx o m then
   (match Ap m xs with
   |some (l,s)=>s.vc none (ah P true none f l h n (fun v h'=>v.seq fun v=>KK 0 (iO o.d v m) h') (fun _ v h'=>v.seq fun v=>KK 0 (iO o.d v m) h'))
   |none=>False)
   else False
 |_,_=>False
def arZ(P:Program)(nx n:Nat)(o:aC)(KK:Nat->Fm->Hz->Prop)(m:Fm)(h:Hz):Prop :=
 match o.op,o.g with
 | .call f xs,none=>bif o.fl&&Gw nx o m then
   (match Ap m xs with
   |some (l,s)=>s.vc none (Ii P f l h n (fun v h'=>v.seq fun v=>KK 0 (iO o.d v m) h'))
   |none=>False)
   else False
 |_,_=>False
def opZ(P:Program)(dr:Bool)(nx n:Nat)(o:aC)(KK:Nat->Fm->Hz->Prop)(m:Fm)(h:Hz):Prop :=
 match o.ar with
 |true=>arZ P nx n o KK m h
 |false=>match o.ad with
 |true=>adZ P nx n o KK m h
 |false=>aeE P dr nx n o KK m h
def QB(P:Program)(dr:Bool)(ml:Nat)(nx:Nat)(K:Fm->Hz->Nat->Prop):List aC->Nat->Fm->Hz->Prop
 |[],_,m,h=>K m h (nx+ml)
 |o::r,i,m,h=>opZ P dr nx (nx+i) o (fun k=>QB P dr ml (nx+k) K r (i+1)) m h
abbrev Qz:=oz->Fm->Hz->Nat->Prop
def Lift(N pn:Nat)(Q:Qz)(e:oz)(s:AS):Prop:= ∃ m h,s.fr.length=N/\Rp m s.fr/\s.hp=h.ay/\s.pin=pn/\Q e m h s.nx
structure aI(P:Program)(N pn:Nat)(b:eu)(Q:Qz)(m:Fm)(h:Hz)(nx:Nat):Prop where
 ok: ∀ fr,fr.length=N->Rp m fr->xW (aw P b) (Lift N pn Q) ⟨fr,h.ay,nx,pn⟩
def az(P:Program)(N pn:Nat):eu->Qz->Fm->Hz->Nat->Prop
 | .skip,Q,m,h,nx=>Q .normal m h nx
 | .reg dr ops,Q,m,h,nx=>QB P dr ops.length nx (fun m h nx=>Q .normal m h nx) ops 0 m h
 | .seq a b,Q,m,h,nx=>az P N pn a (fun e m h nx=>match e with| .normal=>az P N pn b Q m h nx|e=>Q e m h nx) m h nx
 | .cond c a b,Q,m,h,nx =>
  match zH m c with
  |some (.bool t)=>Fork t (az P N pn a Q m h nx) (az P N pn b Q m h nx)
  |_=>False
 | .blk id b,Q,m,h,nx=>az P N pn b (fun e m h nx=>match e with| .exit j=>(bif Nat.beq j id then Q .normal m h nx else Q (.exit j) m h nx)|e=>Q e m h nx) m h nx
 | .exit id,Q,m,h,nx=>Q (.exit id) m h nx
 | .ret,Q,m,h,nx=>Q .ret m h nx
 | .loop b,Q,m,h,nx=>aI P N pn b Q m h nx
def Oh(N:Nat):List aC->Bool
 |[]=>true
 |o::r=>(match o.d with|some d=>Nat.blt d N|none=>true)&&Oh N r
def rC(N:Nat):eu->Bool
 | .skip=>true
 | .reg _ ops=>Oh N ops
 | .seq a b=>rC N a&&rC N b
 | .cond _ a b=>rC N a&&rC N b
 | .blk _ b=>rC N b
 | .exit _=>true
 | .ret=>true
 | .loop b=>rC N b
section
variable {P:Program} {m:Fm} {h:Hz}
theorem bQ{i:Nat}{o:Option OV}:Hz.ay ((i,o)::h)=upd h.ay i (o.map OV.aF):=by
 funext j
 simp only[Hz.ay,Hz.get,upd]
 by_cases e:j=i
 ·subst e; simp
 ·have:Nat.beq i j=false:=by
   cases hb:Nat.beq i j with
   |false=>rfl
   |true=>exact absurd (iL hb).symm e
  simp[this,e]
theorem Rp.put{fr:List T}(R:Rp m fr){d:Option Nat}{v:V}(hd: ∀ i,d=some i->i<fr.length){s:AS}(hs:s.fr=fr):Rp (iO d v m) (s.put d v.aG).fr:=by
 subst hs
 cases d with
 |none=>exact R
 |some d =>
  intro i u hu
  simp only[iO,Fm.get] at hu
  show(s.fr.set d v.aG)[i]? =_
  cases hb:Nat.beq d i with
  |true =>
   rw[hb] at hu; simp at hu; subst hu
   have:=iL hb; subst this
   rw[List.getElem?_set_self (hd d rfl)]
  |false =>
   rw[hb] at hu
   have hne:d≠i:=Nat.ne_of_beq_eq_false hb
   rw[List.getElem?_set_ne hne]
   exact R i u hu
theorem U5{s:AS}{d:Option Nat}{t:T}:(s.put d t).fr.length=s.fr.length:=by cases d<;>simp[AS.put]
theorem kC{g:Option Bool}{k:Prop}{s:Sd}(q:s.vc g k):((g=none\/g=some true)->s.holds)/\k:=by
 unfold Sd.vc at q
 split at q
 ·exact⟨fun _=>trivial,q⟩
 ·split at q
  ·obtain⟨a,b⟩:=q; exact⟨fun _=>a,b⟩
  ·obtain⟨a,b⟩:=q; exact⟨fun hg=>a (by rcases hg with e|e<;>cases e; rfl),b⟩
theorem WX{s:AS}(R:Rp m s.fr){g:Option (Nat×Bool)}{g':Option Bool}(q:TK m g=some g'):(gv g s=some true/\(g'=none\/g'=some true))\/(gv g s=some false/\g'=some false):=by
 unfold TK at q
 split at q
 ·cases q; exact .inl ⟨rfl,.inl rfl⟩
 ·rename_i d w
  split at q
  ·rename_i b e
   cases q
   have hg:s.fr.getD d .any= .lit (.bool b):=R.getD e
   simp only[gv,hg]
   cases w<;>cases b<;>simp
  ·rename_i c b e
   cases q
   have hg:s.fr.getD d .any=bif c then .lit (.bool b) else T.un:=R.getD e
   cases c with
   |true=>simp only[gv,hg,cond_true]; cases w<;>cases b<;>simp
   |false=>simp only[gv,hg,cond_false]; simp
  ·cases q
theorem ab5{s:AS}(R:Rp m s.fr){nx:Nat}: ∀ {xs:List X},ltX nx m xs=true->(xs.all fun x=>T.lt nx (s.ev x))=true:=by
 intro xs
 induction xs with
 |nil=>intro _; rfl
 |cons x r ih =>
  intro q
  simp only[ltX,Bool.and_eq_true] at q
  simp only[List.all_cons,Bool.and_eq_true]
  refine⟨?_,ih q.2⟩
  have:=q.1
  split at this
  ·rename_i v e; rw[R.ev e]; exact this
  ·cases this
theorem ZL{s:AS}(R:Rp m s.fr){i:Nat}: ∀ {xs:List X},ab3 i m xs=true->(xs.all fun x=>T.nid i (s.ev x))=true:=by
 intro xs
 induction xs with
 |nil=>intro _; rfl
 |cons x r ih =>
  intro q
  simp only[ab3,Bool.and_eq_true] at q
  simp only[List.all_cons,Bool.and_eq_true]
  refine⟨?_,ih q.2⟩
  have:=q.1
  split at this
  ·rename_i v e; rw[R.ev e]; exact this
  ·cases this
theorem aeF{s:AS}(R:Rp m s.fr){xs:List X}: ∀ {l:List Nat},neB m xs l=true->IY s xs l=true:=by
 intro l
 induction l with
 |nil=>intro _; rfl
 |cons d r ih =>
  intro q
  simp only[neB,Bool.and_eq_true] at q
  simp only[IY,Bool.and_eq_true]
  refine⟨?_,ih q.2⟩
  have:=q.1
  split at this
  ·rename_i i j o e
   have hg:s.fr.getD d .any= .ptr i j o:=R.getD e
   simp only[AS.obj,hg]
   exact ZL R this
  ·cases this
theorem JH{s:AS}(R:Rp m s.fr){o:aC}(q:Gw s.nx o m=true):iZ o s:=by
 unfold Gw at q
 simp only[Bool.and_eq_true,Bool.or_eq_true,Bool.not_eq_true'] at q
 refine⟨fun hf=>?_,aeF R q.2⟩
 have h1:ZK s.nx m o.op=true:=by
  rcases q.1 with h|h
  ·rw[hf] at h; cases h
  ·exact h
 unfold ZK at h1
 split at h1
 ·rename_i k x v e
  rw[e]
  split at h1
  ·rename_i u hu; simp only; rw[R.ev hu]; exact h1
  ·cases h1
 ·rename_i e
  rw[e]
  split at h1
  ·rename_i u hu; simp only; rw[R.ev hu]; exact h1
  ·cases h1
 ·cases h1
 ·cases h1
 ·rename_i e; rw[e]
 ·rename_i e; rw[e]
 ·rename_i op h2 h3 h4 h5 h6 h7
  have:=ab5 R h1
  split
  ·rename_i e; exact absurd e (h2 _ _ _)
  ·rename_i e; exact absurd e (h3 _ _ _ _ _)
  ·rename_i e; exact absurd e (h4 _ _ _)
  ·rename_i e; exact absurd e (h5 _ _ _)
  ·rfl
  ·rfl
  ·exact this
def Kz(N pn nx:Nat)(K:Fm->Hz->Prop)(s:AS):Prop:= ∃ m h,s.fr.length=N/\Rp m s.fr/\s.hp=h.ay/\s.pin=pn/\s.nx=nx/\K m h
theorem Oi{k:Nat}{v:V}(q:Gf k [v]=true):v.aG.kd=k:=V.Oe (HY q v (by simp))
theorem ab6{n:Nat}{z:T}{r:Rw}(q:XZ n z=some r):r.bn=List.replicate n z:=by
 unfold XZ at q
 split at q<;>cases q
 ·simp[Rw.bn]
 ·simp[Rw.bn]
 ·simp only[Rw.bn,List.map_replicate]; rw[ac9]
theorem Rw.U6{j:Nat}{v:V}{r w:Rw}(q:r.set j v=some w):w.bn=r.bn.set j v.aG:=by
 unfold Rw.set at q
 split at q<;>first|(cases q; done)|(cases q; simp[Rw.bn,V.aG,Dat.aG,List.map_set])
theorem ab7{k:Nat}{y:V}{r:Rw}{x:List V}(q:aeC h k y=some (r,x)):PX h.ay k y.aG= .list (r.bn++V.bn x):=by
 unfold aeC at q
 split at q
 ·rename_i k' f w
  obtain⟨g,q⟩:=aP q; cases q
  simp only[V.aG,PX,V.bn,List.append_nil]
  rcases FU g with rfl|e
  ·cases r.bn<;>simp
  ·rw[e]
 ·rename_i k' f l
  obtain⟨g,q⟩:=aP q; cases q
  have:=iL g; subst this
  simp only[V.aG,PX,Rw.bn,List.nil_append]
  cases hx:V.bn x<;>simp
 ·split at q
  ·rename_i o _ ty ko w z e
   obtain⟨g,q⟩:=aP q; cases q
   have:=iL g; subst this
   simp[V.aG,PX,aZ e,OV.aF]
  ·cases q
 ·cases q
theorem yE{r:Rw}{x:List V}:og r x=(r.bn++V.bn x).length:=by
 unfold og
 split
 ·simp[V.bn,Rw.dR]
 ·simp[fB,Rw.dR]
theorem ab8{r r' w:Rw}{x x' z:List V}(q:aeD r x r' x'=some (w,z)):w.bn++V.bn z=(r.bn++V.bn x)++(r'.bn++V.bn x'):=by
 unfold aeD at q
 split at q
 ·split at q
  ·rename_i w' e; cases q; rw[Rw.Hy e]; simp[V.bn]
  ·cases q
 ·cases q; simp[vV,Rw.bn]
 ·cases q
theorem aeG{k:Int}: ∀ {es:List (Int×List Bool)},vH k (es.map N9)=(Gu k es).map fun l=>.sl 0 false (l.map T.bool):=by
 intro es
 induction es with
 |nil=>rfl
 |cons e es ih =>
  obtain⟨m,l⟩:=e
  simp only[List.map_cons,N9,vH,T.int,Gu]
  cases k==m
  ·exact ih
  ·rfl
theorem afR{k:Int}{v:T}: ∀ {es:List (Int×List Bool)},Gu k es=none->zF k v (es.map N9)=es.map N9++[.fP [.int k,v]]:=by
 intro es
 induction es with
 |nil=>intro _; rfl
 |cons e es ih =>
  obtain⟨m,l⟩:=e
  intro h
  simp only[Gu] at h
  cases hb:k==m with
  |true=>rw[hb] at h; cases h
  |false =>
   rw[hb] at h
   simp only[List.map_cons,N9,zF,T.int,hb,cond_false,List.cons_append]
   rw[ih h]
theorem Me{N pn n nx:Nat}{d:Option Nat}{op:lg}{K:Fm->Hz->Prop}{s:AS}{dr:Bool}(hl:s.fr.length=N)(hd: ∀ i,d=some i->i<N)(R:Rp m s.fr)(hh:s.hp=h.ay)(hp:s.pin=pn)(hn:s.nx=nx)(q:ab4 dr d n m h K op) :
  jK P dr n d op (Kz N pn nx K) s:=by
 have hd': ∀ i,d=some i->i<s.fr.length:=fun i e=>by rw[hl]; exact hd i e
 have fin: ∀ {v:V} {h':Hz},K (iO d v m) h'->Kz N pn nx K {(s.put d v.aG) with hp:=h'.ay}:=fun {v h'} hk =>
  ⟨_,h',by show(s.put d v.aG).fr.length=N; rw[U5,hl],R.put (v:=v) hd' rfl,rfl,by show(s.put d v.aG).pin=pn; cases d<;>exact hp,by show(s.put d v.aG).nx=nx; cases d<;>exact hn,hk⟩
 have ab9: ∀ {op:lg} {v:V},bP op=true->Ok s op v->K (iO d v m) h->jK P dr n d op (Kz N pn nx K) s:=fun {op v} hq ho hk=>by
  rw[bK hq]
  refine⟨ho.1,?_⟩
  rw[ho.2]
  have:=fin hk
  rw[<- hh] at this
  rw[show({(s.put d v.aG) with hp:=s.hp}:AS)=s.put d v.aG by cases d<;>rfl] at this
  exact this
 unfold ab4 at q
 split at q
 ·rename_i ty k x
  split at q
  ·rename_i v e
   split at q
   rename_i v' s' hb
   cases g:Gf k [v']&&v'.iT h&&sW k with
   |false=>rw[g] at q; exact q.elim
   |true =>
    rw[g] at q
    simp only[Bool.and_eq_true] at g
    simp only[cond_true] at q
    obtain⟨hs,hk⟩:=kC q
    have ev:s.ev x=v'.aG:=by rw[R.ev e]; exact dV hb (hs (.inl rfl))
    simp only[jK]
    rw[ev,Oi g.1.1,hh,V.qU g.1.2,g.2]
    refine⟨by simp,?_⟩
    have:=fin hk
    rw[bQ] at this
    exact this
  ·exact q.elim
 ·rename_i ty k z
  cases g:z.kd==k&&z.iT h.ay&&z.free&&sW k with
  |false=>rw[g] at q; exact q.elim
  |true =>
   rw[g] at q
   simp only[jK]
   rw[hh,g]
   refine⟨rfl,?_⟩
   have:=fin q
   rw[bQ] at this
   simp only[Option.map_some,OV.aF,wL] at this
   exact this
 ·rename_i ty k bytes z x y
  split at q
  ·rename_i a b e1 e2
   cases g:z.kd==k&&z.iT h.ay&&z.free&&sW k with
   |false=>rw[g] at q; exact q.elim
   |true =>
    rw[g] at q
    simp only[cond_true] at q
    split at q
    ·rename_i r er
     obtain⟨c,hk⟩:=q
     simp only[jK]
     rw[R.ev e1,R.ev e2]
     simp only[V.aG]
     rw[hh,g]
     refine⟨rfl,c,?_⟩
     have:=fin hk
     rw[bQ] at this
     simp only[Option.map_some,OV.aF,V.bn,List.append_nil] at this
     have hr:r.bn=List.replicate a.toNat z:=by
      cases hz:isZero (.int a) with
      |false=>rw[hz] at er; exact ab6 er
      |true =>
       rw[hz] at er; cases er
       unfold isZero at hz
       split at hz
       ·rename_i e; cases e; rfl
       ·cases hz
     rw[hr] at this
     exact this
    ·obtain⟨c,hk⟩:=q
     simp only[jK]
     rw[R.ev e1,R.ev e2]
     simp only[V.aG]
     rw[hh,g]
     refine⟨rfl,c,?_⟩
     have:=fin hk
     rw[bQ] at this
     simp only[Option.map_some,OV.aF] at this
     rw[je,List.map_replicate,wL] at this
     exact this
  ·exact q.elim
 ·rename_i k x v
  split at q
  ·rename_i i j off v0 e1 e2
   split at q
   rename_i v' s' hb
   cases g:Gf k [v']&&v'.iT h with
   |false=>rw[g] at q; exact q.elim
   |true =>
    rw[g] at q
    simp only[Bool.and_eq_true] at g
    simp only[cond_true] at q
    have fin2: ∀ {h':Hz},K m h'->Kz N pn nx K {s with hp:=h'.ay}:=fun {h'} hk=>⟨m,h',hl,R,rfl,hp,hn,hk⟩
    have ex:s.ev x= .ptr i j off:=R.ev e1
    simp only[jK]
    rw[ex]
    simp only
    split at q
    ·rename_i ty ko w eo
     rw[hh,aZ eo]
     simp only[OV.aF]
     cases hj:Nat.beq j 0 with
     |false=>rw[hj] at q; exact q.elim
     |true =>
      have:=iL hj; subst this
      rw[hj] at q
      simp only[cond_true] at q
      cases hb2:(Nat.beq off 0&&Nat.beq ko k) with
      |true =>
       rw[hb2] at q
       simp only[cond_true] at q
       obtain⟨hs,hk⟩:=kC q
       have ev:s.ev v=v'.aG:=by rw[R.ev e2]; exact dV hb (hs (.inl rfl))
       simp only[Bool.and_eq_true] at hb2
       have f1:=iL hb2.1; have f2:=iL hb2.2; subst f1; subst f2
       rw[ev,Oi g.1,V.qU g.2]
       refine⟨by simp,by simp,by simp,?_⟩
       have:=fin2 hk
       rw[bQ] at this
       simp only[BEq.rfl,Bool.and_self,cond_true,List.set_cons_zero]
       exact this
      |false =>
       rw[hb2] at q
       simp only[cond_false] at q
       cases hc:(!(Nat.beq ko 0)&&jB (bG ko) off k) with
       |false=>rw[hc] at q; exact q.elim
       |true =>
        rw[hc] at q
        simp only[cond_true] at q
        split at q
        ·rename_i w' hw
         rw[V.force_eq] at q
         obtain⟨hs,hk⟩:=kC q
         have ev:s.ev v=v'.aG:=by rw[R.ev e2]; exact dV hb (hs (.inl rfl))
         have hb':(off==0&&ko==k)=false:=by
          rw[Bool.and_eq_false_iff] at hb2 ⊢
          rcases hb2 with hb2|hb2
          ·left; simpa using Nat.ne_of_beq_eq_false hb2
          ·right; simpa using Nat.ne_of_beq_eq_false hb2
         simp only[Bool.and_eq_true] at hc
         rw[ev,Oi g.1,V.qU g.2]
         refine⟨by simp,by simp,?_,?_⟩
         ·simp only[hb',Bool.false_or,Bool.and_eq_true]; exact⟨ZF hc.1,hc.2⟩
         ·have:=fin2 hk
          rw[bQ] at this
          simp only[hb',cond_false,List.set_cons_zero,List.getD_cons_zero]
          have ew:w.aG.splice off v'.aG=w'.aG:=by
           unfold setCells at hw
           split at hw
           ·rename_i l c f1 f2
            cases hw
            unfold T.splice
            rw[V.FQ f1,V.FQ f2]
            simp only[V.aG,vV,JF,JG,fB]
           ·cases hw
          rw[ew]
          exact this
        ·exact q.elim
    ·rename_i ty ko r eo
     rw[hh,aZ eo]
     simp only[OV.aF,V.bn,List.append_nil]
     cases hb2:(Nat.beq off 0&&Nat.beq ko k) with
     |false=>rw[hb2] at q; exact q.elim
     |true =>
      rw[hb2] at q
      simp only[cond_true] at q
      split at q
      ·rename_i r' hr
       obtain⟨hs,hk0⟩:=kC q
       obtain⟨ZM,hk⟩:=hk0
       have ev:s.ev v=v'.aG:=by rw[R.ev e2]; exact dV hb (hs (.inl rfl))
       simp only[Bool.and_eq_true] at hb2
       have f1:=iL hb2.1; have f2:=iL hb2.2; subst f1; subst f2
       rw[Rw.zq] at ZM
       rw[ev,Oi g.1,V.qU g.2]
       refine⟨by simp,by rw[Rw.dR]; omega,by simp,?_⟩
       have:=fin2 hk
       rw[bQ] at this
       simp only[Option.map_some,OV.aF,V.bn,List.append_nil,Rw.U6 hr] at this
       simp only[BEq.rfl,Bool.and_self,cond_true]
       exact this
      ·obtain⟨hs,hk0⟩:=kC q
       obtain⟨ZM,hk⟩:=hk0
       have ev:s.ev v=v'.aG:=by rw[R.ev e2]; exact dV hb (hs (.inl rfl))
       simp only[Bool.and_eq_true] at hb2
       have f1:=iL hb2.1; have f2:=iL hb2.2; subst f1; subst f2
       rw[Rw.zq] at ZM
       rw[ev,Oi g.1,V.qU g.2]
       refine⟨by simp,by rw[Rw.dR]; omega,by simp,?_⟩
       have:=fin2 hk
       rw[bQ] at this
       simp only[Option.map_some,OV.aF] at this
       rw[je,List.map_set,<- je,Rw.RD] at this
       simp only[BEq.rfl,Bool.and_self,cond_true]
       exact this
    ·rename_i ty ko y eo
     rw[hh,aZ eo]
     simp only[OV.aF]
     cases hb2:(Nat.beq off 0&&Nat.beq ko k) with
     |false=>rw[hb2] at q; exact q.elim
     |true =>
      rw[hb2] at q
      simp only[cond_true] at q
      obtain⟨hs,hk0⟩:=kC q
      obtain⟨ZM,hk⟩:=hk0
      have ev:s.ev v=v'.aG:=by rw[R.ev e2]; exact dV hb (hs (.inl rfl))
      simp only[Bool.and_eq_true] at hb2
      have f1:=iL hb2.1; have f2:=iL hb2.2; subst f1; subst f2
      rw[ev,Oi g.1,V.qU g.2]
      refine⟨by simp,by rw[fB]; exact ZM,by simp,?_⟩
      have:=fin2 hk
      rw[bQ] at this
      simp only[Option.map_some,OV.aF] at this
      rw[je,List.map_set,<- je] at this
      simp only[BEq.rfl,Bool.and_self,cond_true]
      exact this
    ·exact q.elim
  ·rename_i x0 v0 _ e1 e2
   split at q
   ·rename_i i j off s0 hb0
    split at q
    rename_i v' s' hb
    cases g:Gf k [v']&&v'.iT h&&Nat.beq off 0 with
    |false=>rw[g] at q; exact q.elim
    |true =>
     rw[g] at q
     simp only[Bool.and_eq_true] at g
     simp only[cond_true] at q
     obtain⟨hs,hk⟩:=kC q
     have hs2:=Sd.lC.1 (hs (.inl rfl))
     have ex:s.ev x= .ptr i j off:=by rw[R.ev e1,dV hb0 hs2.1]; rfl
     have ev:s.ev v=v'.aG:=by rw[R.ev e2]; exact dV hb hs2.2
     have f1:=iL g.2; subst f1
     obtain⟨ty,r,r',h',a1,a2,a3,a4,a5⟩:=hk.ok
     rw[Rw.zq] at a3
     simp only[jK]
     rw[ex]
     simp only
     rw[hh,aZ a1]
     simp only[OV.aF,V.bn,List.append_nil]
     rw[ev,Oi g.1.1,V.qU g.1.2]
     refine⟨by simp,by rw[Rw.dR]; omega,by simp,?_⟩
     simp only[BEq.rfl,Bool.and_self,cond_true]
     rw[<- Rw.U6 a2]
     refine⟨m,h',hl,R,?_,hp,hn,a5⟩
     rw[a4]; simp only[OV.aF,V.bn,List.append_nil]
   ·exact q.elim
  ·exact q.elim
 ·rename_i k x
  split at q
  ·rename_i v0 e1
   split at q
   ·rename_i i j off s0 hb0
    split at q
    ·rename_i ty ko y eo
     cases hb2:(Nat.beq off 0&&Nat.beq ko k) with
     |false=>rw[hb2] at q; exact q.elim
     |true =>
      rw[hb2] at q
      simp only[cond_true] at q
      obtain⟨hs,hk⟩:=kC q
      have ex:s.ev x= .ptr i j off:=by rw[R.ev e1,dV hb0 (hs (.inl rfl))]; rfl
      simp only[Bool.and_eq_true] at hb2
      have f1:=iL hb2.1; have f2:=iL hb2.2; subst f1; subst f2
      obtain⟨v,hv,hk⟩:=hk.ok
      rw[V.seq_eq] at hk
      refine ab9 rfl ?_ hk
      have hj:j<y.length:=by
       rcases Nat.lt_or_ge j y.length with h|h
       ·exact h
       ·rw[List.getElem?_eq_none h] at hv; cases hv
      unfold Ok; simp only[qc,qt]; rw[ex]
      simp only[hh,aZ eo,OV.aF]
      simp only[BEq.rfl,Bool.and_self,Bool.true_or,cond_true,fB]
      exact⟨⟨hj,trivial⟩,wM hv⟩
    ·exact q.elim
   ·rename_i i j off s0 hb0
    obtain⟨hs,hk⟩:=kC q
    have ex:s.ev x=(V.ptr i j off).aG:=by rw[R.ev e1,dV hb0 (hs (.inl rfl))]; rfl
    obtain⟨ty,ko,r,eo,hk⟩:=hk.ok
    split at hk
    ·rename_i v s' hq
     obtain⟨hs',hk⟩:=kC hk
     rw[V.seq_eq] at hk
     exact ab9 rfl (TI hh (u:=.ptr i j off) (by simp only[ldZ,eo]; exact hq) (hs' (.inl rfl)) ex) hk
    ·exact hk.elim
   ·exact q.elim
  ·exact q.elim
 ·rename_i k x i
  split at q
  ·rename_i v0 w0 e1 e2
   split at q
   ·rename_i o s0 n0 s1 hb0 hb1
    obtain⟨hs,hk⟩:=kC q
    have hs2:=Sd.lC.1 (hs (.inl rfl))
    have ex:s.ev x=(V.own o).aG:=by rw[R.ev e1,dV hb0 hs2.1]; rfl
    have ei:s.ev i=(V.int n0).aG:=by rw[R.ev e2,dV hb1 hs2.2]
    obtain⟨ty,ko,r,eo,hk⟩:=hk.ok
    cases hb2:Nat.beq ko k with
    |false=>rw[hb2] at hk; exact hk.elim
    |true =>
     rw[hb2] at hk
     simp only[cond_true] at hk
     obtain⟨hr,hk⟩:=hk
     have hok:Ok s (.ia k x i) (.ptr o n0.toNat 0):=ZG hh (u:=.own o) (v:=.int n0) (r:=.ptr o n0.toNat 0) (sd:=.yes (r.rng n0)) (by simp only[iaZ,eo,hb2,dL,cond_true]) hr ex ei
     exact ab9 (v:=.pin o n0.toNat 0) rfl ⟨hok.1,hok.2⟩ hk
   ·exact q.elim
  ·exact q.elim
 ·rename_i str x
  split at q
  ·rename_i v0 e1
   split at q
   ·rename_i o s0 hb0
    obtain⟨hs,hk⟩:=kC q
    have ex:s.ev x=(V.own o).aG:=by rw[R.ev e1,dV hb0 (hs (.inl rfl))]; rfl
    obtain⟨ty,ko,r,eo,hk⟩:=hk.ok
    cases hb2:(!str&& !(Nat.beq ko dI)) with
    |false=>rw[hb2] at hk; exact hk.elim
    |true =>
     rw[hb2] at hk
     simp only[cond_true] at hk
     rw[V.seq_eq] at hk
     exact ab9 rfl (U2 hh (u:=.own o) (r:=r.lenV) (sd:=.no) (by simp only[abW,eo,hb2,dL,cond_true]) ex) hk
   ·exact q.elim
  ·exact q.elim
 ·rename_i ty k bytes x y
  split at q
  ·rename_i vx vy e1 e2
   split at q
   ·rename_i r' x' es
    simp only[jK]
    rw[R.ev e1,R.ev e2,hh,ab7 es]
    simp only
    split at q
    ·rename_i k'
     obtain⟨c,hk⟩:=q
     have e0:(V.row k' true Rw.nil).aG= .sl k' true []:=rfl
     rw[e0]
     unfold nG at c
     rw[yE] at c
     refine⟨.inr rfl,.inl (.inl rfl),by simpa using c.1,by simpa using c.2,?_⟩
     have:=fin hk
     rw[bQ] at this
     exact this
    ·rename_i k' r hnn
     cases hb2:Nat.beq k' k with
     |false=>rw[hb2] at q; exact q.elim
     |true =>
      rw[hb2] at q
      have:=iL hb2; subst this
      simp only[cond_true] at q
      split at q
      ·rename_i w hw
       obtain⟨c1,c2,hk⟩:=q.ok
       simp only[V.aG]
       unfold nG at c2
       rw[yE] at c1 c2
       refine⟨.inl trivial,?_,by rw[Rw.dR]; exact c2.1,by rw[Rw.dR]; exact c2.2,?_⟩
       ·rcases c1 with (c|c)|⟨c,hk2⟩
        ·left; left; exact List.eq_nil_of_length_eq_zero (by rw[Rw.dR]; exact c)
        ·left; right; intro e; rw[e] at c; simp at c
        ·right
         refine⟨c,?_⟩
         have f1:=fin hk2
         rw[<- hh] at f1
         rw[show({(s.put d (V.row k' true r).aG) with hp:=s.hp}:AS)=s.put d (.sl k' true r.bn) by cases d<;>rfl] at f1
         exact f1
       ·have:=fin hk
        rw[bQ] at this
        simp only[Option.map_some,OV.aF,Rw.Hy hw,List.append_assoc] at this
        exact this
      ·exact q.elim
    ·rename_i i
     split at q
     ·rename_i ty' ko r xx eo
      cases hb2:(Nat.beq ko k&&Nat.beq ty' ty) with
      |false=>rw[hb2] at q; exact q.elim
      |true =>
       rw[hb2] at q
       simp only[cond_true] at q
       simp only[Bool.and_eq_true] at hb2
       have f1:=iL hb2.1; have f2:=iL hb2.2; subst f1; subst f2
       split at q
       ·rename_i w z hw
        obtain⟨c,hk⟩:=q
        simp only[V.aG,aZ eo,OV.aF]
        unfold nG at c
        rw[yE,yE] at c
        refine⟨by simp,c.1,c.2,?_⟩
        have:=fin hk
        rw[bQ,bQ] at this
        simp only[Option.map_some,Option.map_none,OV.aF,ab8 hw] at this
        exact this
       ·exact q.elim
     ·rename_i ty' ko y eo
      cases hb2:(Nat.beq ko k&&Nat.beq ty' ty) with
      |false=>rw[hb2] at q; exact q.elim
      |true =>
       rw[hb2] at q
       simp only[cond_true] at q
       simp only[Bool.and_eq_true] at hb2
       have f1:=iL hb2.1; have f2:=iL hb2.2; subst f1; subst f2
       obtain⟨c,hk⟩:=q
       simp only[V.aG,aZ eo,OV.aF]
       unfold nG at c
       rw[yE] at c
       refine⟨by simp,by rw[fB]; exact c.1,by rw[fB]; exact c.2,?_⟩
       have:=fin hk
       rw[bQ,bQ] at this
       simp only[Option.map_some,Option.map_none,OV.aF,vV,Rw.RD] at this
       exact this
     ·exact q.elim
    ·rename_i i
     obtain⟨r,h',a1,a2,hk⟩:=q.ok
     split at hk
     ·rename_i w hw
      obtain⟨c,hk⟩:=hk
      simp only[V.aG,aZ a1,OV.aF,V.bn,List.append_nil]
      unfold nG at c
      rw[yE] at c
      refine⟨by simp,by rw[Rw.dR]; exact c.1,by rw[Rw.dR]; exact c.2,?_⟩
      have:=fin hk
      rw[bQ,a2] at this
      simp only[Option.map_some,OV.aF,Rw.Hy hw,List.append_assoc] at this
      exact this
     ·exact hk.elim
    ·exact q.elim
   ·exact q.elim
  ·exact q.elim
 ·rename_i k z x
  split at q
  ·rename_i i lo hi e
   split at q
   ·rename_i ty ko r eo
    cases g:(Nat.beq ko k&&z.kd==k&&z.iT h.ay&&z.free) with
    |false=>rw[g] at q; exact q.elim
    |true =>
     rw[g] at q
     simp only[cond_true] at q
     obtain⟨⟨c1,c2⟩,hk⟩:=q
     simp only[Bool.and_eq_true] at g
     obtain⟨⟨⟨g1,g2⟩,g3⟩,g4⟩:=g
     have f1:=iL g1; subst f1
     simp only[jK]
     rw[R.ev e]
     simp only[V.aG,hh,aZ eo,OV.aF]
     refine⟨by simp[g2,g3,g4],by simp[Rw.dR,c2,V.bn],?_⟩
     have el:(r.take lo).bn++V.bn (List.replicate (hi-lo) (BA z))=List.take lo (r.bn++V.bn [])++List.replicate (hi-lo) z++List.drop hi (r.bn++V.bn []):=by
      rw[Rw.Aq,je,List.map_replicate,wL]
      simp[V.bn,Rw.dR,c2]
     cases d with
     |none =>
      simp only at hk
      refine⟨_,_,hl,R,?_,hp,hn,hk⟩
      rw[bQ]
      simp only[Option.map_some,OV.aF,el]
     |some dd =>
      simp only at hk
      have:=fin hk
      rw[bQ] at this
      simp only[Option.map_some,OV.aF,el] at this
      exact this
   ·exact q.elim
  ·exact q.elim
 ·rename_i ty k z nn ps
  split at q
  ·rename_i vs s' hb
   split at q
   ·rename_i l hl
    cases g:((z.kd==k)&&z.free&&Gf k vs&&Cb h vs&&Nat.ble (nn*bG k) 16777216&&sW k) with
    |false=>rw[g] at q; exact q.elim
    |true =>
     rw[g] at q
     simp only[cond_true] at q
     obtain⟨hs,hk⟩:=kC q
     have he:=tN R hb (hs (.inl rfl))
     have he':(ps.map fun p=>s.ev p.2)=V.bn vs:=by rw[<- he]; simp
     simp only[Bool.and_eq_true] at g
     obtain⟨⟨⟨⟨⟨g1,g2⟩,g3⟩,g4⟩,g5⟩,g6⟩:=g
     obtain⟨i1,i2⟩:=U3 hl he' g3
     have e:V.bn (List.replicate nn (BA z))=List.replicate nn z:=by rw[je,List.map_replicate,wL]
     rw[e] at i2
     simp only[jK]
     rw[i1,i2,he',hh,FT g4,g1,g2,g5,g6]
     refine⟨rfl,?_⟩
     have:=fin hk
     rw[bQ] at this
     simp only[Option.map_some,OV.aF,Rw.bn,List.nil_append] at this
     exact this
   ·exact q.elim
  ·exact q.elim
 ·rename_i x
  split at q
  ·rename_i k' f r e
   obtain⟨q1,q2⟩:=q
   simp only[jK]
   rw[R.ev e]
   have f1:=fun hz=>fin (q1 hz)
   have f2:=fin q2
   rw[<- hh] at f1 f2
   refine⟨fun hl=>?_,?_⟩
   ·have:=f1 (by rw[<- Rw.dR]; exact congrArg List.length hl)
    rw[show({(s.put d (V.bool true).aG) with hp:=s.hp}:AS)=s.put d (.lit (.bool true)) by cases d<;>rfl] at this
    exact this
   ·rw[show({(s.put d (V.bool false).aG) with hp:=s.hp}:AS)=s.put d (.lit (.bool false)) by cases d<;>rfl] at f2
    exact f2
  ·rename_i i e
   split at q
   ·rename_i ty ko r eo
    cases hb:Nat.beq ko dI with
    |true=>rw[hb] at q; exact q.elim
    |false =>
     rw[hb] at q
     obtain⟨q1,q2⟩:=q
     simp only[jK]
     rw[R.ev e]
     have f1:=fun hz=>fin (q1 hz)
     have f2:=fin q2
     rw[<- hh] at f1 f2
     simp only[V.aG,hh,aZ eo,OV.aF]
     refine⟨fun hl=>?_,?_,Nat.ne_of_beq_eq_false hb⟩
     ·have:=f1 (by rw[<- Rw.dR]; simpa [V.bn] using congrArg List.length hl)
      rw[show({(s.put d (V.bool true).aG) with hp:=s.hp}:AS)=s.put d (.lit (.bool true)) by cases d<;>rfl] at this
      exact this
     ·rw[show({(s.put d (V.bool false).aG) with hp:=s.hp}:AS)=s.put d (.lit (.bool false)) by cases d<;>rfl] at f2
      exact f2
   ·exact q.elim
  ·exact q.elim
 ·rename_i ty
  simp only[jK]
  have:=fin q
  rw[bQ] at this
  rw[hh]
  exact this
 ·rename_i z x i
  split at q
  ·rename_i o k e1 e2
   split at q
   ·rename_i ty es eo
    obtain⟨q1,q2⟩:=q
    rw[bK rfl]
    simp only[qc,qt]
    rw[R.ev e1,R.ev e2]
    simp only[V.aG,T.int,hh,aZ eo,OV.aF,List.map_nil,List.append_nil,aeG]
    refine⟨trivial,?_⟩
    cases hg:Gu k es with
    |some l =>
     have f1:=fin (q1 l hg)
     rw[<- hh] at f1
     rw[show({(s.put d (V.fP [.row 0 false (.bools l),.bool true]).aG) with hp:=s.hp}:AS)=s.put d (.fP [.sl 0 false (l.map T.bool),.lit (.bool true)]) by cases d<;>rfl] at f1
     exact f1
    |none =>
     have f2:=fin (q2 hg)
     rw[<- hh] at f2
     rw[show({(s.put d (V.fP [BA z,.bool false]).aG) with hp:=s.hp}:AS)=s.put d (.fP [(BA z).aG,.lit (.bool false)]) by cases d<;>rfl,wL] at f2
     exact f2
   ·exact q.elim
  ·exact q.elim
 ·rename_i x i v
  split at q
  ·rename_i o k w e1 e2 e3
   split at q
   rename_i v' s' hb
   split at q
   ·rename_i ty es eo
    cases g:Gf 0 [v']&&v'.iT h with
    |false=>rw[g] at q; exact q.elim
    |true =>
     rw[g] at q
     simp only[Bool.and_eq_true] at g
     simp only[cond_true] at q
     obtain⟨hs,c,hk⟩:=kC q
     have ev:s.ev v=v'.aG:=by rw[R.ev e3]; exact dV hb (hs (.inl rfl))
     have hkd:=Oi g.1
     have hst:=V.qU g.2
     simp only[jK]
     rw[R.ev e1,R.ev e2,ev]
     simp only[V.aG,T.int,hh,aZ eo,OV.aF,List.map_nil,List.append_nil]
     refine⟨trivial,?_,?_⟩
     ·rw[hkd]
      have:v'.aG.wo h.ay=true:=by
       revert hst hkd
       cases v'.aG<;>simp[T.iT,T.kd]
      rw[this]; rfl
     ·have hK:Kz N pn nx K {s with hp:=Hz.ay ((o,some (.map ty es [(k,v')]))::h)}:=⟨m,_,hl,R,rfl,hp,hn,hk⟩
      rw[bQ] at hK
      have:=afR (v:=v'.aG) c
      simp only[T.int] at this
      rw[this]
      exact hK
   ·exact q.elim
  ·exact q.elim
 ·exact q.elim
end
section
variable {P:Program} {m:Fm} {h:Hz}
theorem Kz.put{N pn nx:Nat}{K:Fm->Hz->Prop}{s:AS}{d:Option Nat}{v:V}{t:T}{h':Hz}(hl:s.fr.length=N)(hd: ∀ i,d=some i->i<N)(R:Rp m s.fr)(hp:s.pin=pn)(hn:s.nx=nx)(ht:t=v.aG)(hk:K (iO d v m) h') :
  Kz N pn nx K {(s.put d t) with hp:=h'.ay}:=by
 subst ht
 exact⟨_,h',by show(s.put d v.aG).fr.length=N; rw[U5,hl],R.put (v:=v) (fun i e=>by rw[hl]; exact hd i e) rfl,rfl,by show(s.put d v.aG).pin=pn; cases d<;>exact hp,by show(s.put d v.aG).nx=nx; cases d<;>exact hn,hk⟩
theorem JI{N pn nx n:Nat}{K:Fm->Hz->Prop}{KW:Nat->Fm->Hz->Prop}{s:AS}{d:Option Nat}{dr:Bool}{g:Option Bool}{f:FuncId}{l:List V}(hl:s.fr.length=N)(hd: ∀ i,d=some i->i<N)(R:Rp m s.fr)(hh:s.hp=h.ay)(hp:s.pin=pn)(hn:s.nx=nx)
  (hg:g=none\/g=some true) (q:ah P dr g f l h n (fun v h'=>v.seq fun v=>K (iO d (qZ g v) m) h') (fun k v h'=>v.seq fun v=>KW k (iO d v m) h')) (hq:dr=true-> ∀ (v:V) (h':Hz),¬ (v.seq fun v=>KW 0 (iO d v m) h')) :
  kL P dr n d f (V.bn l) (Kz N pn nx K) s\/(dr=false/\ ∃ k,yX P f (V.bn l) s.hp n k fun t hp=>Kz N pn (nx+k) (KW k) {(s.put d t) with hp:=hp,nx:=s.nx+k}):=by
 unfold kL
 rw[hh]
 rcases q.ok with q|⟨rfl,rfl,k,q⟩|⟨_,hdr,_,⟨_,_,v,o,_,_,hk⟩,_⟩
 rotate_left
 rotate_left
 ·exact absurd hk (hq hdr _ _)
 rotate_left
 ·refine .inr ⟨rfl,k,q.mono ?_⟩
  rintro t hp' ⟨v,h',rfl,rfl,hk⟩
  rw[V.seq_eq] at hk
  obtain⟨m',h'',a1,a2,a3,a4,_,a6⟩:=Kz.put (K:=KW k) hl hd R hp hn rfl hk
  exact⟨m',h'',a1,a2,a3,a4,by show s.nx+k=nx+k; rw[hn],a6⟩
 left
 rcases hg with rfl|rfl
 ·refine aN.mono q ?_
  rintro t hp' ⟨v,h',e1,e2,e3,hk⟩
  rw[V.seq_eq] at hk
  subst e2
  refine⟨fun e=>⟨by rw[(e3 e).1],(e3 e).2⟩,Kz.put (v:=v) hl hd R hp hn e1 hk⟩
 ·rcases q with ⟨v,c,hf,hk⟩|⟨hdr,c,_⟩
  rotate_left
  ·refine aN.mono (c rfl) ?_
   rintro t hp' ⟨v,h',e1,e2,hk⟩
   rw[V.seq_eq] at hk
   subst e2
   exact⟨fun e=>(by rw[hdr] at e; cases e),Kz.put (v:=qZ (some true) v) hl hd R hp hn (e1.trans (FV v).symm) hk⟩
  rw[V.seq_eq] at hk
  refine aN.mono (c rfl) ?_
  rintro t hp' ⟨e1,e2⟩
  subst e2
  refine⟨fun _=>⟨rfl,by rw[e1]; exact V.qK v hf⟩,Kz.put (v:=qZ (some true) v) hl hd R hp hn (by rw[e1]; exact(FV v).symm) hk⟩
theorem wO{N pn nx n:Nat}{K:Fm->Hz->Prop}{s:AS}{d:Option Nat}{dr:Bool}{g:Option Bool}{f:FuncId}{l:List V}(hl:s.fr.length=N)(hd: ∀ i,d=some i->i<N)(R:Rp m s.fr)(hh:s.hp=h.ay)(hp:s.pin=pn)(hn:s.nx=nx)
  (hg:g=none\/g=some true) (q:ah P dr g f l h n (fun v h'=>v.seq fun v=>K (iO d (qZ g v) m) h') (fun _ _ _=>False)):kL P dr n d f (V.bn l) (Kz N pn nx K) s:=by
 rcases JI (KW:=fun _ _ _=>False) hl hd R hh hp hn hg ⟨q.ok.imp id fun h=>h.imp (fun⟨a,b,k,c⟩=>⟨a,b,k,c.mono fun _ _ ⟨_,_,_,_,h⟩=>h.elim⟩) (fun⟨a,b,d,c⟩=>⟨a,b,d,c.mono fun _ _ ⟨_,_,_,_,h⟩=>h.elim⟩)⟩ (fun _ v h' hk=>by rw[V.seq_eq] at hk; exact hk) with h|⟨_,k,⟨t,hp',hk⟩,_⟩
 ·exact h
 ·obtain⟨_,_,_,_,_,_,_,hk⟩:=hk; exact hk.elim
theorem ah.guard{dr:Bool}{f:FuncId}{args:List V}{n:Nat}{K:V->Hz->Prop}{KW:Nat->V->Hz->Prop}(q:ah P dr (some false) f args h n K KW): ∃ v,K v h:=by
 rcases q.ok with (⟨v,_,_,k⟩|⟨_,_,k⟩)|⟨h1,_⟩|⟨h1,_⟩
 ·exact⟨v,k⟩
 ·exact⟨_,k rfl⟩
 ·cases h1
 ·cases h1
theorem WY{dr fl:Bool}{a b c:Prop}:Dk dr fl a b c↔(dr=false/\a)\/(dr=true/\bif fl then c else b):=by
 cases dr<;>cases fl<;>simp[Dk]
theorem sN{dr fl:Bool}{C:Bool->Prop}(q:Dk dr fl (C false) (C true) (C false)):C (dr&& !fl):=by
 cases dr<;>cases fl<;>exact q
theorem TL{N pn nx n:Nat}{KK:Nat->Fm->Hz->Prop}{s:AS}{o:aC}{dr:Bool}(hl:s.fr.length=N)(hd: ∀ i,o.d=some i->i<N)(R:Rp m s.fr)(hh:s.hp=h.ay)(hp:s.pin=pn)(hn:s.nx=nx)
  (q:aeE P dr nx n o KK m h):(gv o.g s=some true/\iZ o s/\(jK P (o.dr dr) n o.d o.op (Kz N pn nx (KK 0)) s\/opW P dr n o.d o.op (fun s'=> ∃ k,Kz N pn (nx+k) (KK k) s') s))\/(gv o.g s=some false/\Kz N pn nx (KK 0) (s.put o.d T.un)):=by
 unfold aeE at q
 split at q
 ·exact q.elim
 ·rename_i g hg
  cases hf:Gw nx o m with
  |false=>rw[hf] at q; exact q.elim
  |true =>
   rw[hf] at q
   simp only[cond_true] at q
   have hfl:iZ o s:=JH R (by rw[hn]; exact hf)
   have un: ∀ {v:V} {h':Hz},h'=h->KK 0 (iO o.d (qZ (some false) v) m) h'->Kz N pn nx (KK 0) (s.put o.d T.un):=fun {v h'} e hk=>by
    subst e
    have:=Kz.put (s:=s) (v:=qZ (some false) v) (t:=T.un) hl hd R hp hn (TJ v).symm hk
    rw[<- hh] at this
    have e2:({(s.put o.d T.un) with hp:=s.hp}:AS)=s.put o.d T.un:=by
     cases o.d<;>rfl
    rw[e2] at this
    exact this
   rcases WX R hg with ⟨h1,h2⟩|⟨h1,rfl⟩
   ·refine .inl ⟨h1,hfl,?_⟩
    split at q
    ·rename_i f xs eo
     split at q
     ·rename_i l sd hb
      obtain⟨hs,q⟩:=kC q
      have ed:o.dr dr=(dr&& !o.fl):=by unfold aC.dr; rw[eo]
      rw[ed,eo]
      show kL P (dr&& !o.fl) n o.d f (xs.map s.ev) _ s\/(dr=false/\ ∃ k,yX P f (xs.map s.ev) s.hp n k _)
      rw[tN R hb (hs h2)]
      split at q
      ·rw[WY] at q
       rcases q with ⟨e,q⟩|q
       ·rw[e]
        exact(JI (g:=none) hl hd R hh hp hn h2 q (fun e=>by cases e)).imp id fun⟨a,k,b⟩=>⟨a,k,b.mono fun _ _ hk=>⟨k,hk⟩⟩
       ·obtain⟨hdt,q⟩:=q
        refine .inl (wO (g:=none) hl hd R hh hp hn h2 ?_)
        rw[hdt]
        cases hf2:o.fl<;>rw[hf2] at q<;>exact q
      ·rename_i bb _
       exact .inl (wO hl hd R hh hp hn h2 (sN (C:=fun dr=>ah P dr (some bb) f l h n (fun v h'=>v.seq fun v=>KK 0 (iO o.d (qZ (some bb) v) m) h') (fun _ _ _=>False)) q))
     ·exact q.elim
    ·rename_i x xs eo
     split at q
     ·rename_i v0 l sd e1 hb
      split at q
      ·rename_i f cap s0 hb0
       obtain⟨hs,q⟩:=kC q
       have hs2:=Sd.lC.1 (hs h2)
       have ed:o.dr dr=(dr&& !o.fl):=by unfold aC.dr; rw[eo]
       rw[ed,eo]
       left
       simp only[jK]
       rw[R.ev e1,dV hb0 hs2.1]
       simp only[V.aG]
       rw[tN R hb hs2.2,<- vV]
       cases hbl:Nat.blt f 4096 with
       |true=>rw[hbl] at q; exact wO hl hd R hh hp hn h2 (sN (C:=fun dr=>ah P dr g f (l++cap) h n (fun v h'=>v.seq fun v=>KK 0 (iO o.d (qZ g v) m) h') (fun _ _ _=>False)) q)
       |false=>rw[hbl] at q; exact wO (l:=.agg cap::l) hl hd R hh hp hn h2 (sN (C:=fun dr=>ah P dr g (f % 4096) (.agg cap::l) h n (fun v h'=>v.seq fun v=>KK 0 (iO o.d (qZ g v) m) h') (fun _ _ _=>False)) q)
      ·exact q.elim
     ·exact q.elim
    ·rename_i hn1 hn2
     have ed:o.dr dr=dr:=by
      unfold aC.dr
      split
      ·rename_i e; exact absurd e (hn1 _ _)
      ·rename_i e; exact absurd e (hn2 _ _)
      ·rfl
     rw[ed]
     left
     split at q
     ·rename_i v sd hq
      obtain⟨hs,hk⟩:=kC q
      rw[V.seq_eq] at hk
      obtain⟨hqu,hc,ht⟩:=ZJ R hh hq (hs h2)
      rw[bK hqu]
      refine⟨hc,?_⟩
      have:=Kz.put (s:=s) (v:=qZ g v) (t:=qt s o.op) hl hd R hp hn (by rw[ht]; rcases h2 with rfl|rfl; rfl; exact(FV v).symm) hk
      rw[<- hh] at this
      have e2:({(s.put o.d (qt s o.op)) with hp:=s.hp}:AS)=s.put o.d (qt s o.op):=by cases o.d<;>rfl
      rw[e2] at this
      exact this
     ·split at q
      ·exact Me hl hd R hh hp hn q
      ·rename_i b _
       rcases h2 with h2|h2
       ·cases h2
       ·cases h2
        obtain⟨qa,_⟩:=q
        exact Me hl hd R hh hp hn (qa rfl)
   ·refine .inr ⟨h1,?_⟩
    split at q
    ·split at q
     ·obtain⟨hs,q⟩:=kC q
      obtain⟨v,hk⟩:=ah.guard (sN (C:=fun dr=>ah P dr (some false) _ _ h n (fun v h'=>v.seq fun v=>KK 0 (iO o.d (qZ (some false) v) m) h') (fun _ _ _=>False)) q)
      rw[V.seq_eq] at hk
      exact un rfl hk
     ·exact q.elim
    ·split at q
     ·rename_i v0 l sd e1 hb
      split at q
      ·rename_i f cap s0 hb0
       obtain⟨hs,q⟩:=kC q
       cases hbl:Nat.blt f 4096 with
       |true =>
        rw[hbl] at q
        obtain⟨v,hk⟩:=ah.guard (sN (C:=fun dr=>ah P dr (some false) f (l++cap) h n (fun v h'=>v.seq fun v=>KK 0 (iO o.d (qZ (some false) v) m) h') (fun _ _ _=>False)) q)
        rw[V.seq_eq] at hk
        exact un rfl hk
       |false =>
        rw[hbl] at q
        obtain⟨v,hk⟩:=ah.guard (sN (C:=fun dr=>ah P dr (some false) (f % 4096) (.agg cap::l) h n (fun v h'=>v.seq fun v=>KK 0 (iO o.d (qZ (some false) v) m) h') (fun _ _ _=>False)) q)
        rw[V.seq_eq] at hk
        exact un rfl hk
      ·exact q.elim
     ·exact q.elim
    ·split at q
     ·obtain⟨hs,hk⟩:=kC q
      rw[V.seq_eq] at hk
      exact un rfl hk
     ·obtain⟨_,qb⟩:=q
      exact un (v:=.int 0) rfl (qb rfl)
theorem WZ{N pn nx n:Nat}{KK:Nat->Fm->Hz->Prop}{s:AS}{o:aC}{dr:Bool}(hl:s.fr.length=N)(hd: ∀ i,o.d=some i->i<N)(R:Rp m s.fr)(hh:s.hp=h.ay)(hp:s.pin=pn)(hn:s.nx=nx)
  (q:opZ P dr nx n o KK m h):(gv o.g s=some true/\iZ o s/\(opR P dr n o (Kz N pn nx (KK 0)) s\/opW P dr n o.d o.op (fun s'=> ∃ k,Kz N pn (nx+k) (KK k) s') s))\/(gv o.g s=some false/\Kz N pn nx (KK 0) (s.put o.d T.un)):=by
 unfold opZ at q
 cases har:o.ar with
 |true =>
  rw[har] at q
  simp only at q
  unfold arZ at q
  split at q
  ·rename_i f xs eo eg
   cases hf:(o.fl&&Gw nx o m) with
   |false=>rw[hf] at q; exact q.elim
   |true =>
    rw[hf] at q
    simp only[cond_true] at q
    rw[Bool.and_eq_true] at hf
    have hfl:iZ o s:=JH R (by rw[hn]; exact hf.2)
    refine .inl ⟨by rw[eg]; rfl,hfl,.inl (.inr ⟨har,hf.1,?_⟩)⟩
    split at q
    ·rename_i l sd hb
     obtain⟨hs,q⟩:=kC q
     obtain⟨v,ob,c1,c2,c3,hk⟩:=q.ok
     rw[eo]
     refine⟨v.aG,ob.map OV.aF,c1,?_,?_,?_⟩
     ·intro o' ho'
      cases ob with
      |none=>cases ho'
      |some ob=>cases ho'; exact c2 _ rfl
     ·intro hp' he _
      rw[tN R hb (hs (.inl rfl))]
      exact c3 hp' (by rw[<- hh]; exact he)
     ·rw[V.seq_eq] at hk
      cases ob with
      |none =>
       show Kz N pn nx (KK 0) {(s.put o.d v.aG) with hp:=s.hp}
       rw[hh]
       exact Kz.put (v:=v) hl hd R hp hn rfl hk
      |some ob =>
       have e:fO s.hp n (some ob.aF)=Hz.ay ((n,some ob)::h):=by rw[bQ,hh]; rfl
       show Kz N pn nx (KK 0) {(s.put o.d v.aG) with hp:=fO s.hp n (some ob.aF)}
       rw[e]
       exact Kz.put (v:=v) hl hd R hp hn rfl hk
    ·exact q.elim
  ·exact q.elim
 |false =>
 rw[har] at q
 simp only at q
 cases had:o.ad with
 |false =>
  rw[had] at q
  rcases TL hl hd R hh hp hn q with ⟨h1,h2,h3⟩|h1
  ·exact .inl ⟨h1,h2,h3.imp (fun h=>.inl ⟨har,jJ (fun s' _ _ h=>⟨fun e=>(by rw[had] at e; cases e),h⟩) h⟩) id⟩
  ·exact .inr h1
 |true =>
  rw[had] at q
  simp only at q
  unfold adZ at q
  split at q
  ·rename_i f xs eo eg
   cases hf:(o.fl&&Gw nx o m) with
   |false=>rw[hf] at q; exact q.elim
   |true =>
    rw[hf] at q
    simp only[cond_true] at q
    rw[Bool.and_eq_true] at hf
    have hfl:iZ o s:=JH R (by rw[hn]; exact hf.2)
    refine .inl ⟨by rw[eg]; rfl,hfl,.inl (.inl ⟨har,?_⟩)⟩
    split at q
    ·rename_i l sd hb
     obtain⟨hs,q⟩:=kC q
     have ed:o.dr dr=false:=by unfold aC.dr; rw[eo,hf.1]; cases dr<;>rfl
     rw[ed,eo]
     show aN P f (xs.map s.ev) s.hp n _
     rw[tN R hb (hs (.inl rfl)),hh]
     have hx: ∀ {h':Hz} {s':AS},s'.hp=h'.ay->(h'=h\/ ∃ o,h'=(n,some o)::h/\h.get n=none)-> ∀ i ob,s.hp i=some ob->s'.hp i=some ob:=by
      intro h' s' e1 e2 i ob hi
      rw[e1]
      rw[hh] at hi
      rcases e2 with rfl|⟨o',rfl,hn0⟩
      ·exact hi
      ·rw[bQ]
       have hne:i≠n:=by
        rintro rfl
        simp only[Hz.ay,hn0] at hi; cases hi
       simp only[upd,if_neg hne]; exact hi
     rcases q.ok with q|⟨_,e,_⟩|⟨_,_,hn0,q⟩
     ·refine aN.mono q ?_
      rintro t hp' ⟨v,h',e1,e2,e3,hk⟩
      rw[V.seq_eq] at hk
      subst e2
      exact⟨(fun e=>by cases e),fun _=>hx rfl (.inl (e3 rfl).1),Kz.put (v:=v) hl hd R hp hn e1 hk⟩
     ·cases e
     ·refine aN.mono q ?_
      rintro t hp' ⟨v,o',e1,e2,hk⟩
      rw[V.seq_eq] at hk
      subst e2
      exact⟨(fun e=>by cases e),fun _=>hx rfl (.inr ⟨o',rfl,hn0⟩),Kz.put (v:=v) hl hd R hp hn e1 hk⟩
    ·exact q.elim
  ·exact q.elim
theorem QC{N pn ml:Nat}{K:Fm->Hz->Nat->Prop}{dr:Bool}: ∀ {nx:Nat} {ops:List aC} {i:Nat} {m:Fm} {h:Hz} {s:AS},Oh N ops=true->s.fr.length=N->Rp m s.fr->s.hp=h.ay->s.pin=pn->s.nx=nx ->
  QB P dr ml nx K ops i m h->oC P dr ml (fun s=> ∃ m h,s.fr.length=N/\Rp m s.fr/\s.hp=h.ay/\s.pin=pn/\K m h s.nx) ops i s:=by
 intro nx ops
 induction ops generalizing nx with
 |nil =>
  intro i m h s _ hl R hh hp hn q
  exact⟨m,h,hl,R,hh,hp,by show K m h (s.nx+ml); rw[hn]; exact q⟩
 |cons o r ih =>
  intro i m h s hd hl R hh hp hn q
  simp only[Oh,Bool.and_eq_true] at hd
  have hd1: ∀ j,o.d=some j->j<N:=fun j e=>by
   have:=hd.1
   rw[e] at this
   simpa using this
  simp only[oC]
  rw[y7]
  have next: ∀ s',s'.nx=s.nx->s'.pin=s.pin->Kz N pn nx (QB P dr ml nx K r (i+1)) s'->oC P dr ml (fun s=> ∃ m h,s.fr.length=N/\Rp m s.fr/\s.hp=h.ay/\s.pin=pn/\K m h s.nx) r (i+1) s':=by
   rintro s' _ _ ⟨m',h',a1,a2,a3,a4,a5,a6⟩
   exact ih hd.2 a1 a2 a3 a4 a5 a6
  have afS: ∀ s',(∃ k,Kz N pn (nx+k) (QB P dr ml (nx+k) K r (i+1)) s')->oC P dr ml (fun s=> ∃ m h,s.fr.length=N/\Rp m s.fr/\s.hp=h.ay/\s.pin=pn/\K m h s.nx) r (i+1) s':=by
   rintro s' ⟨k,m',h',a1,a2,a3,a4,a5,a6⟩
   exact ih hd.2 a1 a2 a3 a4 a5 a6
  rcases WZ hl hd1 R hh hp hn q with ⟨h1,h2,h3⟩|⟨h1,h2⟩
  ·refine .inl ⟨h1,h2,?_⟩
   rw[hn]
   exact h3.imp (fun h=>h.imp (fun h=>⟨h.1,jJ (fun s' a b c=>⟨c.1,next s' a b c.2⟩) h.2⟩) fun h=>⟨h.1,h.2.1,Jk (fun s' a b c=>next s' a b c) h.2.2⟩) (Qk afS)
  ·exact .inr ⟨h1,next _ (fA _ _ _) (iq _ _ _) h2⟩
theorem vW{N pn:Nat}: ∀ {c:eu} {Q:Qz} {m:Fm} {h:Hz} {s:AS},rC N c=true->s.fr.length=N->Rp m s.fr->s.hp=h.ay->s.pin=pn->az P N pn c Q m h s.nx->aw P c (Lift N pn Q) s:=by
 intro c
 induction c with
 |skip=>intro Q m h s _ hl R hh hp q; exact⟨m,h,hl,R,hh,hp,q⟩
 |reg dr ops =>
  intro Q m h s hd hl R hh hp q
  exact QC hd hl R hh hp rfl q
 |seq a b ia ib =>
  intro Q m h s hd hl R hh hp q
  simp only[rC,Bool.and_eq_true] at hd
  simp only[aw]
  refine oV ?_ (ia hd.1 hl R hh hp q)
  rintro e s' ⟨m',h',b1,b2,b3,b4,b5⟩
  cases e with
  |normal=>exact ib hd.2 b1 b2 b3 b4 b5
  |exit j=>exact⟨m',h',b1,b2,b3,b4,b5⟩
  |ret=>exact⟨m',h',b1,b2,b3,b4,b5⟩
 |cond c a b ia ib =>
  intro Q m h s hd hl R hh hp q
  simp only[rC,Bool.and_eq_true] at hd
  simp only[az] at q
  simp only[aw]
  split at q
  ·rename_i t e
   rw[R.ev e]
   obtain⟨q1,q2⟩:=q
   exact⟨fun e=>ia hd.1 hl R hh hp (q1 e),fun e=>ib hd.2 hl R hh hp (q2 e)⟩
  ·exact q.elim
 |blk id b ib =>
  intro Q m h s hd hl R hh hp q
  simp only[aw]
  refine oV ?_ (ib hd hl R hh hp q)
  rintro e s' ⟨m',h',b1,b2,b3,b4,b5⟩
  cases e with
  |normal=>exact⟨m',h',b1,b2,b3,b4,b5⟩
  |ret=>exact⟨m',h',b1,b2,b3,b4,b5⟩
  |exit j =>
   simp only at b5 ⊢
   by_cases e:j=id
   ·subst e; simp at b5 ⊢; exact⟨m',h',b1,b2,b3,b4,b5⟩
   ·have e1:Nat.beq j id=false:=by
     cases hb:Nat.beq j id with
     |false=>rfl
     |true=>exact absurd (iL hb) e
    have e2:(j==id)=false:=by simpa using e
    rw[e1] at b5; rw[e2]
    exact⟨m',h',b1,b2,b3,b4,b5⟩
 |exit i=>intro Q m h s _ hl R hh hp q; exact⟨m,h,hl,R,hh,hp,q⟩
 |ret=>intro Q m h s _ hl R hh hp q; exact⟨m,h,hl,R,hh,hp,q⟩
 |loop b ib =>
  intro Q m h s _ hl R hh hp q
  have:=q.ok s.fr hl R
  rw[<- hh,<- hp] at this
  simp only[aw]
  rw[hp] at this
  have e:(⟨s.fr,s.hp,s.nx,pn⟩:AS)=s:=by rw[<- hp]
  rw[e] at this
  exact this
end
end Go.Ab
