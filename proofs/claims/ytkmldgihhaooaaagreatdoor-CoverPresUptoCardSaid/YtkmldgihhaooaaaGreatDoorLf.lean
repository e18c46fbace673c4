/-
 The typed layer, part 1: typed values, rows, objects. Definitions alone.
-/
import Derived.Test.YtkmldgihhaooaaaGreatDoorLd
import Derived.Test.YtkmldgihhaooaaaGreatDoorLc
namespace Go.Ab
inductive Dat where
 |lin (x:Lin)
 |Ug (x:AB)
 |rule (x:Rule)
 |iI (x:aO)
 |cnt (x:Cnt)
 |prop (x:Prop')
 |clause (x:Clause)
 |elem (x:Elem)
@[reducible] def afi(l:List Bool):T:=.sl 0 false (l.map T.bool)
@[reducible] def afj(l:List (List Int)):T:=.sl 0 false (l.map Go.Ab.ints)
inductive Rw where
 |ints (l:List Int)
 |bools (l:List Bool)
 |strs (l:List Str)
 |bG (l:List (List Int))
 |nS (l:List (List Bool))
 |nT (l:List (List (List Int)))
 |BM (l:List Lin)
 |rC (l:List AB)
 |rules (l:List Rule)
 |cnts (l:List Cnt)
 |clauses (l:List Clause)
 |elems (l:List Elem)
 |nil
inductive V where
 |int (n:Int)
 |bool (b:Bool)
 |u8 (n:Int)
 |str (s:Str)
 |dat (d:Dat)
 |agg (l:List V)
 |row (k:Nat) (full:Bool) (r:Rw)
 |Ii (k:Nat) (full:Bool) (l:List V)
 |ref (k:Nat) (v:V)
 |own (i:Nat)
 |inn (i:Nat)
 |pin (i j off:Nat)
 |ptr (i j off:Nat)
 |pK (i lo hi:Nat)
 |fn (f:FuncId) (cap:List V)
 |dU (l:List V)
 |cnd (b:Bool) (v:V)
 |raw (t:T)
def Dat.aH:Dat->T
 | .lin x=>U7 x
 | .Ug x=>RF x
 | .rule x=>Lj x
 | .iI x=>aaE x
 | .cnt x=>aaF x
 | .prop x=>agM x
 | .clause x=>JK x
 | .elem x=>gQ x
def Dat.kd:Dat->Nat
 | .lin _=>5
 | .Ug _=>7
 | .rule _=>19
 | .iI _=>11
 | .cnt _=>3
 | .prop _=>7
 | .clause _=>4
 | .elem _=>3
def Rw.aU:Rw->List T
 | .ints l=>l.map T.int
 | .bools l=>l.map T.bool
 | .strs l=>l.map eS
 | .bG l=>l.map Go.Ab.ints
 | .nS l=>l.map afi
 | .nT l=>l.map afj
 | .BM l=>l.map U7
 | .rC l=>l.map RF
 | .rules l=>l.map Lj
 | .cnts l=>l.map aaF
 | .clauses l=>l.map JK
 | .elems l=>l.map gQ
 | .nil=>[]
mutual
def V.aH:V->T
 | .int n=>.int n
 | .bool b=>.bool b
 | .u8 n=>.lit (.int .u8 n)
 | .str s=>eS s
 | .dat d=>d.aH
 | .agg l=>.agg (V.aU l)
 | .row k f r=>.sl k f r.aU
 | .Ii k f l=>.sl k f (V.aU l)
 | .ref k v=>.ref k v.aH
 | .own i=>.own i
 | .inn i=>.own i
 | .pin i j off=>.ptr i j off
 | .ptr i j off=>.ptr i j off
 | .pK i lo hi=>.pK i lo hi
 | .fn f cap=>.fn f (V.aU cap)
 | .dU l=>.dU (V.aU l)
 | .cnd b v=>bif b then v.aH else T.un
 | .raw t=>t
def V.aU:List V->List T
 |[]=>[]
 |v::r=>v.aH::V.aU r
end
def Dat.cells:Dat->List V
 | .lin x=>[.int x.c,.int x.n,.int x.t,.int x.f]
 | .Ug x=>[.int x.message,.int x.FZ,.int x.bound.c,.int x.bound.n,.int x.bound.t,.int x.bound.f]
 | .rule x=>[.str x.name,.int x.kind,.int x.fr,.int x.to,.int x.iV,.int x.zI,.row 0 false (.ints x.response),.row 7 false (.rC x.guards),.row 0 false (.ints x.ex),.row 0 false (.ints x.all),.int x.read,.int x.write,.row 0 false (.ints x.send),.int x.pos,.row 0 false (.ints x.left),.row 0 false (.ints x.right),.row 0 false (.ints x.parent),.int x.direction]
 | .iI x=>[.str x.name,.int x.topology,.row 0 false (.strs x.states),.row 0 false (.strs x.messages),.row 0 false (.strs x.values),.int x.fault,.row 5 false (.BM x.cO),.row 0 false (.ints x.initial),.row 0 false (.ints x.leader),.row 19 false (.rules x.rules)]
 | .cnt x=>[.row 0 false (.ints x.states),.int x.least]
 | .prop x=>[.str x.name,.int x.kind,.row 0 false (.ints x.start),.row 3 false (.cnts x.bad),.row 0 false (.ints x.adjacent),.row 0 false (.ints x.goal)]
 | .clause x=>[.row 0 false (.bG x.each),.row 0 false (.ints x.values),.row 0 false (.ints x.some)]
 | .elem x=>[.int x.value,.row 0 false (.ints x.counts)]
theorem Dat.Ij(d:Dat):d.aH= .agg (V.aU d.cells):=by cases d<;>rfl
theorem Dat.afk(d:Dat):d.aH.kd=d.kd:=by cases d<;>rfl
def Rw.len:Rw->Nat
 | .ints l=>l.length
 | .bools l=>l.length
 | .strs l=>l.length
 | .bG l=>l.length
 | .nS l=>l.length
 | .nT l=>l.length
 | .BM l=>l.length
 | .rC l=>l.length
 | .rules l=>l.length
 | .cnts l=>l.length
 | .clauses l=>l.length
 | .elems l=>l.length
 | .nil=>0
def Rw.lenV:Rw->V
 | .ints l=>.int l.length
 | .bools l=>.int l.length
 | .strs l=>.int l.length
 | .bG l=>.int l.length
 | .nS l=>.int l.length
 | .nT l=>.int l.length
 | .BM l=>.int l.length
 | .rC l=>.int l.length
 | .rules l=>.int l.length
 | .cnts l=>.int l.length
 | .clauses l=>.int l.length
 | .elems l=>.int l.length
 | .nil=>.int 0
def Rw.rng(n:Int):Rw->Prop
 | .ints l=>0<=n/\n<l.length
 | .bools l=>0<=n/\n<l.length
 | .strs l=>0<=n/\n<l.length
 | .bG l=>0<=n/\n<l.length
 | .nS l=>0<=n/\n<l.length
 | .nT l=>0<=n/\n<l.length
 | .BM l=>0<=n/\n<l.length
 | .rC l=>0<=n/\n<l.length
 | .rules l=>0<=n/\n<l.length
 | .cnts l=>0<=n/\n<l.length
 | .clauses l=>0<=n/\n<l.length
 | .elems l=>0<=n/\n<l.length
 | .nil=>False
def Rw.qY(n:Int):Rw->Prop
 | .ints l=>0<=n/\n<=l.length
 | .bools l=>0<=n/\n<=l.length
 | .strs l=>0<=n/\n<=l.length
 | .bG l=>0<=n/\n<=l.length
 | .nS l=>0<=n/\n<=l.length
 | .nT l=>0<=n/\n<=l.length
 | .BM l=>0<=n/\n<=l.length
 | .rC l=>0<=n/\n<=l.length
 | .rules l=>0<=n/\n<=l.length
 | .cnts l=>0<=n/\n<=l.length
 | .clauses l=>0<=n/\n<=l.length
 | .elems l=>0<=n/\n<=l.length
 | .nil=>n=0
def Rw.get(i:Nat):Rw->V
 | .ints l=>.int (l.getD i 0)
 | .bools l=>.bool (l.getD i false)
 | .strs l=>.str (l.getD i [])
 | .bG l=>.row 0 false (.ints (l.getD i []))
 | .nS l=>.row 0 false (.bools (l.getD i []))
 | .nT l=>.row 0 false (.bG (l.getD i []))
 | .BM l=>.dat (.lin (l.getD i default))
 | .rC l=>.dat (.Ug (l.getD i default))
 | .rules l=>.dat (.rule (l.getD i default))
 | .cnts l=>.dat (.cnt (l.getD i default))
 | .clauses l=>.dat (.clause (l.getD i default))
 | .elems l=>.dat (.elem (l.getD i default))
 | .nil=>.raw .any
def Rw.take(i:Nat):Rw->Rw
 | .ints l=>.ints (l.take i)
 | .bools l=>.bools (l.take i)
 | .strs l=>.strs (l.take i)
 | .bG l=>.bG (l.take i)
 | .nS l=>.nS (l.take i)
 | .nT l=>.nT (l.take i)
 | .BM l=>.BM (l.take i)
 | .rC l=>.rC (l.take i)
 | .rules l=>.rules (l.take i)
 | .cnts l=>.cnts (l.take i)
 | .clauses l=>.clauses (l.take i)
 | .elems l=>.elems (l.take i)
 | .nil=>.nil
def Rw.drop(i:Nat):Rw->Rw
 | .ints l=>.ints (l.drop i)
 | .bools l=>.bools (l.drop i)
 | .strs l=>.strs (l.drop i)
 | .bG l=>.bG (l.drop i)
 | .nS l=>.nS (l.drop i)
 | .nT l=>.nT (l.drop i)
 | .BM l=>.BM (l.drop i)
 | .rC l=>.rC (l.drop i)
 | .rules l=>.rules (l.drop i)
 | .cnts l=>.cnts (l.drop i)
 | .clauses l=>.clauses (l.drop i)
 | .elems l=>.elems (l.drop i)
 | .nil=>.nil
def Rw.app:Rw->Rw->Option Rw
 |r,.nil=>some r
 | .nil,r=>some r
 | .ints a,.ints b=>some (.ints (a++b))
 | .bools a,.bools b=>some (.bools (a++b))
 | .strs a,.strs b=>some (.strs (a++b))
 | .bG a,.bG b=>some (.bG (a++b))
 | .nS a,.nS b=>some (.nS (a++b))
 | .nT a,.nT b=>some (.nT (a++b))
 | .BM a,.BM b=>some (.BM (a++b))
 | .rC a,.rC b=>some (.rC (a++b))
 | .rules a,.rules b=>some (.rules (a++b))
 | .cnts a,.cnts b=>some (.cnts (a++b))
 | .clauses a,.clauses b=>some (.clauses (a++b))
 | .elems a,.elems b=>some (.elems (a++b))
 |_,_=>none
def Rw.kd:Rw->Nat
 | .ints _=>0
 | .bools _=>0
 | .strs _=>0
 | .bG _=>0
 | .nS _=>0
 | .nT _=>0
 | .BM _=>5
 | .rC _=>7
 | .rules _=>19
 | .cnts _=>3
 | .clauses _=>4
 | .elems _=>3
 | .nil=>0
def V.one:V->Option Rw
 | .int n=>some (.ints [n])
 | .bool b=>some (.bools [b])
 | .str s=>some (.strs [s])
 | .row 0 false (.ints l)=>some (.bG [l])
 | .row 0 false (.bools l)=>some (.nS [l])
 | .row 0 false (.bG l)=>some (.nT [l])
 | .dat (.lin x)=>some (.BM [x])
 | .dat (.Ug x)=>some (.rC [x])
 | .dat (.rule x)=>some (.rules [x])
 | .dat (.cnt x)=>some (.cnts [x])
 | .dat (.clause x)=>some (.clauses [x])
 | .dat (.elem x)=>some (.elems [x])
 | .agg [.int a,.row 0 false (.ints c)]=>some (.elems [⟨a,c⟩])
 | .agg [.row 0 false (.ints c),.int a]=>some (.cnts [⟨c,a⟩])
 | .agg [.row 0 false (.bG e),.row 0 false (.ints v),.row 0 false (.ints s)]=>some (.clauses [⟨e,v,s⟩])
 |_=>none
def Rw.XE:List V->Option Rw
 |[]=>some .nil
 |v::r=>match v.one,Rw.XE r with
  |some a,some b=>a.app b
  |_,_=>none
def Rw.vs:Rw->List V
 | .ints l=>l.map .int
 | .bools l=>l.map .bool
 | .strs l=>l.map .str
 | .bG l=>l.map fun c=>.row 0 false (.ints c)
 | .nS l=>l.map fun c=>.row 0 false (.bools c)
 | .nT l=>l.map fun c=>.row 0 false (.bG c)
 | .BM l=>l.map fun c=>.dat (.lin c)
 | .rC l=>l.map fun c=>.dat (.Ug c)
 | .rules l=>l.map fun c=>.dat (.rule c)
 | .cnts l=>l.map fun c=>.dat (.cnt c)
 | .clauses l=>l.map fun c=>.dat (.clause c)
 | .elems l=>l.map fun c=>.dat (.elem c)
 | .nil=>[]
inductive OV where
 |row (ty k:Nat) (r:Rw) (x:List V)
 |box (ty k:Nat) (v:V)
 |map (ty:Nat) (es:List (Int×List Bool)) (x:List (Int×V))
 |gen (ty k:Nat) (x:List V)
def PX(e:Int×List Bool):T:=.dU [.int e.1,.sl 0 false (e.2.map T.bool)]
def ac7(e:Int×V):T:=.dU [.int e.1,e.2.aH]
def OV.au:OV->Ob
 | .row ty k r x=>⟨ty,k,r.aU++V.aU x⟩
 | .box ty k v=>⟨ty,k,[v.aH]⟩
 | .map ty es x=>⟨ty,fQ,es.map PX++x.map ac7⟩
 | .gen ty k x=>⟨ty,k,V.aU x⟩
abbrev Fm:=List (Nat×V)
def Fm.get(i:Nat):Fm->Option V
 |[]=>none
 |(j,v)::r=>bif Nat.beq j i then some v else Fm.get i r
abbrev Hz:=List (Nat×Option OV)
def Hz.get(i:Nat):Hz->Option OV
 |[]=>none
 |(j,o)::r=>bif Nat.beq j i then o else Hz.get i r
def Hz.ay(h:Hz):Hp:=fun i=>(h.get i).map OV.au
mutual
def BN:T->V
 | .lit (.int .i64 n)=>.int n
 | .lit (.int .u8 n)=>.u8 n
 | .lit (.bool b)=>.bool b
 | .lit (.string b)=>.str b.data.toList
 | .sl k f []=>.row k f .nil
 | .agg l=>.agg (XE l)
 | .fn f l=>.fn f (XE l)
 |t=>.raw t
def XE:List T->List V
 |[]=>[]
 |t::r=>BN t::XE r
end
def V.kd:V->Option Nat
 | .dat d=>some d.kd
 | .agg l=>some (l.length+1)
 | .cnd _ _=>none
 | .raw _=>none
 |_=>some 0
def V.cells:V->Option (List V)
 | .dat d=>some d.cells
 | .agg l=>some l
 | .cnd _ _=>none
 | .raw _=>none
 |v=>some [v]
def V.kF(h:Hz):V->Bool
 | .own i=>(h.get i).isSome
 | .ptr i _ _=>(h.get i).isSome
 | .pK i _ _=>(h.get i).isSome
 | .cnd _ _=>false
 | .raw _=>false
 | .dU _=>false
 | .inn _=>false
 | .pin _ _ _=>false
 |_=>true
def V.part(off:Nat):Nat->V->Option V
 |0,.dat d=>d.cells[off]?
 |0,.agg l=>l[off]?
 |k+1,.dat (.Ug x)=>bif (Nat.beq off 2)&&(Nat.beq k 4) then some (.dat (.lin x.bound)) else none
 |k+1,.agg l=>some (.agg ((l.drop off).take k))
 |_,_=>none
inductive VC(p k:Prop):Prop where
 |mk:p->k->VC p k
inductive Fork(b:Bool)(x y:Prop):Prop where
 |mk:(b=true->x)->(b=false->y)->Fork b x y
inductive Sd where
 |no
 |yes (p:Prop)
def Sd.holds:Sd->Prop
 | .no=>True
 | .yes p=>p
def Sd.and:Sd->Sd->Sd
 | .no,b=>b
 |a,.no=>a
 | .yes p,.yes q=>.yes (p/\q)
def Sd.imp(t:Bool)(b:Bool):Sd->Sd
 | .no=>.no
 | .yes p=>.yes (t=b->p)
def Sd.vc(g:Option Bool)(k:Prop):Sd->Prop
 | .no=>k
 | .yes p=>match g with
  |none=>VC p k
  |some b=>VC (b=true->p) k
def V.bare:V->V×Sd
 | .cnd c v=>(v,.yes (c=true))
 |v=>(v,.no)
mutual
def V.free:V->Bool
 | .own _=>false
 | .ptr _ _ _=>false
 | .pK _ _ _=>false
 | .inn _=>false
 | .pin _ _ _=>false
 | .cnd _ _=>false
 | .raw t=>t.free
 | .agg l=>V.bZ l
 | .fn _ l=>V.bZ l
 | .dU l=>V.bZ l
 |_=>true
def V.bZ:List V->Bool
 |[]=>true
 |v::r=>V.free v&&V.bZ r
end
def zH(m:Fm):X->Option V
 | .t n=>m.get n
 | .c t=>some (BN t)
def evL(m:Fm):List X->Option (List V)
 |[]=>some []
 |x::r=>match zH m x,evL m r with
  |some v,some l=>some (v::l)
  |_,_=>none
abbrev AL:=Option (V×Sd)
def Og(m:Fm)(x:X)(f:V->AL):AL :=
 match zH m x with
 |some v=>match v.bare with
  |(u,s)=>match f u with
   |some (r,s')=>some (r,s.and s')
   |none=>none
 |none=>none
def qz2(m:Fm)(x y:X)(f:V->V->AL):AL:=Og m x fun u=>Og m y fun v=>f u v
def okI(n:Int):Prop:= -9223372036854775808<=n/\n<9223372036854775808
def Un(a b:Int):Int:=a.fdiv (2 ^ min b.toNat 64)
theorem Bf(a:Int):Un a 1=a / 2:=by
 show Int.fdiv a 2=_
 rw[Int.fdiv_eq_ediv_of_nonneg _ (by decide)]
def afl(op:BinOp):V->V->AL
 | .int a,.int b=>match op with
  | .add=>some (.int (a+b),.yes (okI (a+b)))
  | .sub=>some (.int (a-b),.yes (okI (a-b)))
  | .mul=>some (.int (a*b),.yes (okI (a*b)))
  | .eql=>some (.bool (a==b),.no)
  | .neq=>some (.bool (a !=b),.no)
  | .lss=>some (.bool (decide (a<b)),.no)
  | .leq=>some (.bool (decide (a<=b)),.no)
  | .gtr=>some (.bool (decide (b<a)),.no)
  | .geq=>some (.bool (decide (b<=a)),.no)
  |_=>none
 | .u8 a,.u8 b=>match op with
  | .eql=>some (.bool (a==b),.no)
  | .neq=>some (.bool (a !=b),.no)
  | .lss=>some (.bool (decide (a<b)),.no)
  | .leq=>some (.bool (decide (a<=b)),.no)
  | .gtr=>some (.bool (decide (b<a)),.no)
  | .geq=>some (.bool (decide (b<=a)),.no)
  |_=>none
 | .str a,.str b=>match op with
  | .eql=>some (.bool (a==b),.no)
  | .neq=>some (.bool (!(a==b)),.no)
  | .add=>some (.str (a++b),.yes (a.length+b.length<=9223372036854775807))
  |_=>none
 | .raw (.lit (.int .u64 a)),.raw (.lit (.int .u64 b))=>match op with
  | .shr=>some (.raw (.lit (.int .u64 (Un a b))),.yes (0<=b))
  | .and=>some (.raw (.lit (.int .u64 (aeP .u64 a b))),.no)
  | .rem=>some (.raw (.lit (.int .u64 (a.tmod b))),.yes (b≠0))
  | .eql=>some (.bool (a==b),.no)
  | .geq=>some (.bool (decide (b<=a)),.no)
  |_=>none
 |_,_=>none
def Dn:X->Bool
 | .c (.lit (.bool true))=>true
 |_=>false
def zi:X->Bool
 | .c (.lit (.bool false))=>true
 |_=>false
def aew(t:Bool)(xa xb:X):V->V->Option V
 | .bool x,.bool y=>bif Dn xa then some (.bool (t||y)) else bif zi xb then some (.bool (t&&x)) else some (.bool (bif t then x else y))
 | .int x,.int y=>some (.int (bif t then x else y))
 | .str x,.str y=>some (.str (bif t then x else y))
 |_,_=>none
def aaH(t:Bool)(xa xb:X)(a b:V×Sd):AL :=
 match a,b with
 |(a,sa),(b,sb)=>match aew t xa xb a b with
  |some v=>some (v,(sa.imp t true).and (sb.imp t false))
  |none=>none
def dM{α:Type}(b:Bool)(x:Option α):Option α:=bif b then x else none
def V.U9(k:Nat):Option V->AL
 |some u=>some (.ref k u,.no)
 |none=>none
def V.JL:Option V->AL
 |some u=>some (u,.no)
 |none=>none
def faZ(h:Hz)(off k:Nat):V->AL
 | .ref kt v=>dM (!(Nat.beq kt 0)&&oM (bC kt) off k) (V.U9 k (v.part off k))
 | .ptr i j o=>dM (h.get i).isSome (some (.ptr i j (o+off),.no))
 |_=>none
def fvZ(off k:Nat)(v:V):AL :=
 match v.kd with
 |some kt=>dM (!(Nat.beq kt 0)&&oM (bC kt) off k) (V.JL (v.part off k))
 |none=>none
def afm:List V->Nat->Option V
 |[],_=>none
 |v::_,0=>some v
 |_::r,n+1=>afm r n
def iaZ(h:Hz)(k:Nat):V->V->AL
 | .Ii k' _ l,.int n=>match afm l n.toNat with
  |some v=>dM (Nat.beq k' k) (some (.ref k v,.yes (0<=n)))
  |none=>none
 | .row k' _ r,.int n=>dM (Nat.beq k' k) (some (.ref k (r.get n.toNat),.yes (r.rng n)))
 | .own o,.int n=>match h.get o with
  |some (.row _ k' r [])=>dM (Nat.beq k' k) (some (.ptr o n.toNat 0,.yes (r.rng n)))
  |some (.gen _ k' x)=>dM (Nat.beq k' k) (some (.ptr o n.toNat 0,.yes (0<=n/\n<x.length)))
  |_=>none
 | .pK o lo hi,.int n=>match h.get o with
  |some (.row _ k' _ [])=>dM (Nat.beq k' k) (some (.ptr o (lo+n.toNat) 0,.yes (0<=n/\n<(hi-lo:Nat))))
  |_=>none
 |_,_=>none
def chZ:V->V->AL
 | .str s,.int n=>some (.u8 (s.getD n.toNat 0).toNat,.yes (0<=n/\n<s.length))
 | .str s,.u8 n=>some (.u8 (s.getD n.toNat 0).toNat,.yes (0<=n/\n<s.length))
 |_,_=>none
def ldB(k j off ko:Nat)(v:V):AL :=
 bif Nat.beq j 0 then(bif Nat.beq off 0&&Nat.beq ko k then some (v,.no) else dM (!(Nat.beq ko 0)&&oM (bC ko) off k) (V.JL (v.part off k))) else none
def ldR(k j off ko:Nat)(r:Rw):AL :=
 bif Nat.beq off 0&&Nat.beq ko k then some (r.get j,.yes (r.rng j)) else
  match (r.get j).part off k with
  |some u=>dM (!(Nat.beq ko 0)&&oM (bC ko) off k) (some (u,.yes (r.rng j)))
  |none=>none
def ldZ(h:Hz)(k:Nat):V->AL
 | .ref k' v=>dM (Nat.beq k' k&&Nat.blt 0 (bC k)) (some (v,.no))
 | .ptr i j off=>match h.get i with
  |some (.box _ ko v)=>ldB k j off ko v
  |some (.row _ ko r [])=>ldR k j off ko r
  |_=>none
 |_=>none
def ncZ(h:Hz):V->AL
 | .ref k v=>some (.ref k v,.no)
 | .ptr i j o=>dM (h.get i).isSome (some (.ptr i j o,.no))
 | .fn f l=>some (.fn f l,.no)
 |_=>none
def ac8(h:Hz)(str:Bool):V->AL
 | .row _ _ r=>dM (!str) (some (r.lenV,.no))
 | .Ii _ _ l=>dM (!str) (some (.int l.length,.no))
 | .str s=>dM str (some (.int s.length,.no))
 | .own o=>match h.get o with
  |some (.row _ k r x)=>dM (!str&& !(Nat.beq k fQ)) (match x with|[]=>some (r.lenV,.no)|x=>some (.int (r.len+x.length),.no))
  |some (.gen _ k x)=>dM (!str&& !(Nat.beq k fQ)) (some (.int x.length,.no))
  |_=>none
 | .pK o lo hi=>dM (!str&&(h.get o).isSome) (some (.int (hi-lo:Nat),.no))
 |_=>none
def mxZ:V->V->AL
 | .int a,.int b=>some (.int (max a b),.no)
 |_,_=>none
def mnZ:V->V->AL
 | .int a,.int b=>some (.int (min a b),.no)
 |_,_=>none
def BO(m:Fm):List X->Option (List V×Sd)
 |[]=>some ([],.no)
 |x::r=>match zH m x,BO m r with
  |some v,some (l,s)=>match v.bare with|(u,s')=>some (u::l,s'.and s)
  |_,_=>none
def Wq:List (Nat×Nat×X)->List V->List V->Option (List V)
 |[],[],z=>some z
 |(off,n,_)::ps,v::vs,z=>match v.cells with
  |some c=>dM (Nat.beq c.length n&&Nat.ble (off+n) z.length) (Wq ps vs (z.take off++c++z.drop (off+n)))
  |none=>none
 |_,_,_=>none
def DZ(h:Hz):List V->Bool
 |[]=>true
 |v::r=>v.kF h&&DZ h r
def mkZ(m:Fm)(h:Hz)(z:List T)(ps:List (Nat×Nat×X)):AL :=
 match BO m (ps.map fun p=>p.2.2) with
 |some (vs,s)=>match Wq ps vs (XE z) with
  |some l=>dM (DZ h vs) (some (.agg l,s))
  |none=>none
 |none=>none
def Em(k:Nat):List V->Bool
 |[]=>true
 |v::r=>(match v.kd with|some k'=>Nat.beq k' k|none=>false)&&Em k r
def aaI(n:Nat):List (Nat×X)->List V->List V->Option (List V)
 |[],[],z=>some z
 |(i,_)::ps,v::vs,z=>dM (Nat.blt i n) (aaI n ps vs (z.set i v))
 |_,_,_=>none
def msZ(m:Fm)(h:Hz)(k:Nat)(z:T)(n:Nat)(ps:List (Nat×X)):AL :=
 match BO m (ps.map fun p=>p.2) with
 |some (vs,s)=>match aaI n ps vs (List.replicate n (BN z)) with
  |some l=>dM ((z.kd==k)&&z.free&&Em k vs&&DZ h vs&&V.bZ vs&&Nat.ble (n*bC k) 16777216&&Nat.blt 0 (bC k))
    (match Rw.XE l with
    |some r=>some (.row k true r,s)
    |none=>some (.Ii k true l,s))
  |none=>none
 |none=>none
def kOk(k k':Nat):Rw->Bool
 | .nil=>true
 |_=>Nat.beq k' k
def Lp(m:Fm):Option X->Option (Option V×Sd)
 |none=>some (none,.no)
 |some x=>match zH m x with
  |some v=>match v.bare with|(u,s)=>some (some u,s)
  |none=>none
def aaJ(k k':Nat)(f:Bool)(r:Rw):Option V->Option V->Option V->AL
 |none,none,none=>dM (kOk k k' r) (some (.row k f r,.no))
 |some (.int a),none,none=>dM (kOk k k' r) (some (.row k f (r.drop a.toNat),.yes (r.qY a)))
 |none,some (.int b),none=>dM (kOk k k' r) (some (.row k (f&&decide (b=r.len)) (r.take b.toNat),.yes (r.qY b)))
 |some (.int a),some (.int b),none=>dM (kOk k k' r) (some (.row k false ((r.take b.toNat).drop a.toNat),.yes (0<=a/\a<=b/\r.qY b)))
 |none,some (.int b),some (.int c)=>dM (kOk k k' r) (some (.row k (decide (b=c)) (r.take b.toNat),.yes (0<=b/\b<=c/\r.qY c)))
 |_,_,_=>none
def aaK(k i ko:Nat)(r:Rw):Option V->Option V->Option V->AL
 |some (.int a),none,none=>dM (Nat.beq ko k) (some (.pK i a.toNat r.len,.yes (r.qY a)))
 |none,some (.int b),none=>dM (Nat.beq ko k) (some (.pK i 0 b.toNat,.yes (r.qY b)))
 |some (.int a),some (.int b),none=>dM (Nat.beq ko k) (some (.pK i a.toNat b.toNat,.yes (0<=a/\a<=b/\r.qY b)))
 |_,_,_=>none
def Va(k i ko:Nat)(r:Rw)(xs:List V):Option V->Option V->Option V->AL
 |none,some (.int b),none=>dM (Nat.beq ko k) (some (.pK i 0 b.toNat,.yes (r.qY b)))
 |lo,hi,mx=>match xs with|[]=>aaK k i ko r lo hi mx|_=>none
def slZ(h:Hz)(x:Bool)(k:Nat)(v:V)(lo hi mx:Option V):AL :=
 match v with
 | .row k' f r=>aaJ k k' f r lo hi mx
 | .own i=>bif x then(match h.get i with
  |some (.row _ ko r xs)=>Va k i ko r xs lo hi mx
  |_=>none) else none
 |_=>none
def slX(m:Fm)(h:Hz)(b:Bool)(k:Nat)(x:X)(lo hi mx:Option X):AL :=
 Og m x fun v=>match Lp m lo,Lp m hi,Lp m mx with
  |some (lo,s1),some (hi,s2),some (mx,s3)=>match slZ h b k v lo hi mx with
   |some (u,s)=>some (u,s1.and (s2.and (s3.and s)))
   |none=>none
  |_,_,_=>none
def ssZ(s:Str):Option V->Option V->AL
 |some (.int a),none=>some (.str (s.drop a.toNat),.yes (0<=a/\a<=s.length))
 |none,some (.int b)=>some (.str (s.take b.toNat),.yes (0<=b/\b<=s.length))
 |some (.int a),some (.int b)=>some (.str ((s.take b.toNat).drop a.toNat),.yes (0<=a/\a<=b/\b<=s.length))
 |_,_=>none
def ssX(m:Fm)(x:X)(lo hi:Option X):AL :=
 Og m x fun v=>match v,Lp m lo,Lp m hi with
  | .str s,some (lo,s1),some (hi,s2)=>match ssZ s lo hi with
   |some (u,s)=>some (u,s1.and (s2.and s))
   |none=>none
  |_,_,_=>none
def exZ(i:Nat):V->AL
 | .dU l=>match l[i]? with|some v=>some (v,.no)|none=>none
 |_=>none
def afn(ne:Bool)(n:Nat):V->V->AL
 | .dat (.lin x),.dat (.lin y)=>dM (Nat.beq n 4) (some (.bool (bif ne then !(x==y) else x==y),.no))
 | .dat (.Ug x),.dat (.Ug y)=>dM (Nat.beq n 6) (some (.bool (bif ne then !(x==y) else x==y),.no))
 |_,_=>none
def Jc(n:Int):List (Int×List Bool)->Option (List Bool)
 |[]=>none
 |(m,v)::r=>bif n==m then some v else Jc n r
def mfZ(m:Fm)(h:Hz)(f:FuncId)(cap:List X):AL :=
 match BO m cap with
 |some (l,s)=>dM (DZ h l&&Em 0 l&&Nat.blt f 4096) (some (.fn f l,s))
 |none=>none
def mbZ(f:FuncId):V->AL
 | .agg l=>dM (Nat.blt f 4096) (some (.fn (f+4096) l,.no))
 | .dat d=>dM (Nat.blt f 4096) (some (.fn (f+4096) d.cells,.no))
 |_=>none
def afo:V->AL
 | .row _ true r=>some (r.lenV,.no)
 |_=>none
def saZ(n:Nat):V->AL
 | .ref k (.agg l)=>match Rw.XE l with
  |some r=>dM (Nat.beq k (n+1)&&Nat.beq l.length n&&Nat.blt 0 n) (some (.row 0 true r,.no))
  |none=>none
 |_=>none
def qz(m:Fm)(h:Hz):oz->AL
 | .mv x=>match zH m x with|some v=>some (v,.no)|none=>none
 | .pick c a b=>Og m c fun c=>match c,zH m a,zH m b with
  | .bool t,some va,some vb=>aaH t a b va.bare vb.bare
  |_,_,_=>none
 | .bin op x y=>qz2 m x y (afl op)
 | .bb ne x y=>qz2 m x y fun x y=>match x,y with
  | .bool a,.bool b=>some (.bool (bif ne then !(a==b) else a==b),.no)
  |_,_=>none
 | .not x=>Og m x fun v=>match v with| .bool b=>some (.bool !b,.no)|_=>none
 | .conv .i64 x=>Og m x fun v=>match v with
  | .int n=>some (.int n,.yes (okI n))
  | .u8 n=>some (.int n,.yes (okI n))
  | .raw (.lit (.int .u64 n))=>some (.int n,.yes (okI n))
  |_=>none
 | .conv .u64 x=>Og m x fun v=>match v with
  | .int n=>some (.raw (.lit (.int .u64 n)),.yes (0<=n/\n<18446744073709551616))
  | .raw (.lit (.int .i64 n))=>some (.raw (.lit (.int .u64 (IntKind.u64.wrap n))),.no)
  |_=>none
 | .conv .u8 x=>Og m x fun v=>match v with
  | .raw (.lit (.int .u64 n))=>some (.u8 n,.yes (0<=n/\n<256))
  |_=>none
 | .fa off k x=>Og m x (faZ h off k)
 | .fv off k x=>Og m x (fvZ off k)
 | .ia k x i=>qz2 m x i (iaZ h k)
 | .ch x i=>qz2 m x i chZ
 | .ld k x=>Og m x (ldZ h k)
 | .nc x=>Og m x (ncZ h)
 | .len s x=>Og m x (ac8 h s)
 | .mx x y=>qz2 m x y mxZ
 | .mn x y=>qz2 m x y mnZ
 | .mk z ps=>mkZ m h z ps
 | .ms _ k z n ps=>msZ m h k z n ps
 | .sl k x lo hi mx=>slX m h false k x lo hi mx
 | .XM k x lo hi mx=>slX m h true k x lo hi mx
 | .ss x lo hi=>ssX m x lo hi
 | .ex x i=>Og m x (exZ i)
 | .mf f cap=>mfZ m h f cap
 | .eqs ne n x y=>qz2 m x y (afn ne n)
 | .O8 x=>Og m x afo
 | .mb f x=>Og m x (mbZ f)
 | .sa n x=>Og m x (saZ n)
 |_=>none
theorem aex(b:ByteArray):eS b.data.toList= .lit (.string b):=by
 unfold eS bs; simp
mutual
theorem yw:(t:T)->(BN t).aH=t
 | .lit v=>by
  cases v with
  |int k n=>cases k<;>simp[BN,V.aH]
  |bool b=>simp[BN,V.aH]
  |string b=>simp only[BN,V.aH]; exact aex b
  |_=>simp[BN,V.aH]
 | .agg l=>by simp only[BN,V.aH]; rw[zW l]
 | .sl k f l=>by cases l<;>simp[BN,V.aH,Rw.aU]
 | .ref k t=>by simp[BN,V.aH]
 | .own i=>by simp[BN,V.aH]
 | .ptr i j k=>by simp[BN,V.aH]
 | .pK i j k=>by simp[BN,V.aH]
 | .fn f l=>by simp only[BN,V.aH]; rw[zW l]
 | .dU l=>by simp[BN,V.aH]
 | .any=>by simp[BN,V.aH]
theorem zW:(l:List T)->V.aU (XE l)=l
 |[]=>rfl
 |t::r=>by simp only[XE,V.aU]; rw[yw t,zW r]
end
theorem fD(l:List V):V.aU l=l.map V.aH:=by
 induction l with
 |nil=>rfl
 |cons v r ih=>simp[V.aU,ih]
theorem dI(l:List V):(V.aU l).length=l.length:=by rw[fD]; simp
theorem xB(a b:List V):V.aU (a++b)=V.aU a++V.aU b:=by simp[fD]
theorem Lr(a:List V)(n:Nat):V.aU (a.take n)=(V.aU a).take n:=by simp[fD]
theorem Ls(a:List V)(n:Nat):V.aU (a.drop n)=(V.aU a).drop n:=by simp[fD]
def Rp(m:Fm)(fr:List T):Prop:= ∀ i v,m.get i=some v->fr[i]? =some v.aH
theorem Rp.getD{m:Fm}{fr:List T}(R:Rp m fr){i:Nat}{v:V}{d:T}(h:m.get i=some v):fr.getD i d=v.aH:=by
 rw[List.getD_eq_getElem?_getD,R i v h]; rfl
theorem Rp.ev{m:Fm}{s:AS}(R:Rp m s.fr){x:X}{v:V}(h:zH m x=some v):s.ev x=v.aH:=by
 cases x with
 |t n=>exact R.getD h
 |c t=>simp only[zH,Option.some.injEq] at h; subst h; exact(yw t).symm
theorem dX{v u:V}{s:Sd}(h:v.bare=(u,s))(hs:s.holds):v.aH=u.aH:=by
 unfold V.bare at h
 split at h
 ·cases h; simp only[Sd.holds] at hs; simp[V.aH,hs]
 ·cases h; rfl
theorem Sd.lJ{a b:Sd}:(a.and b).holds↔a.holds/\b.holds:=by cases a<;>cases b<;>simp[Sd.and,Sd.holds]
theorem Sd.Oh{t b:Bool}{s:Sd}:(s.imp t b).holds↔(t=b->s.holds):=by cases s<;>simp[Sd.imp,Sd.holds]
theorem ku{m:Fm}{s:AS}(R:Rp m s.fr){x:X}{f:V->AL}{r:V}{sd:Sd}(h:Og m x f=some (r,sd))(hs:sd.holds): ∃ u s',f u=some (r,s')/\s'.holds/\s.ev x=u.aH:=by
 unfold Og at h
 split at h
 ·rename_i v hv
  split at h
  rename_i u s0 hb
  split at h
  ·rename_i r' s' hf
   cases h
   rw[Sd.lJ] at hs
   exact⟨u,s',hf,hs.2,by rw[R.ev hv,dX hb hs.1]⟩
  ·cases h
 ·cases h
theorem zX{m:Fm}{s:AS}(R:Rp m s.fr){x y:X}{f:V->V->AL}{r:V}{sd:Sd}(h:qz2 m x y f=some (r,sd))(hs:sd.holds): ∃ u v s',f u v=some (r,s')/\s'.holds/\s.ev x=u.aH/\s.ev y=v.aH:=by
 obtain⟨u,s',h1,h2,h3⟩:=ku R h hs
 obtain⟨v,s'',h4,h5,h6⟩:=ku R h1 h2
 exact⟨u,v,s'',h4,h5,h3,h6⟩
theorem aS{α:Type}{b:Bool}{x:Option α}{y:α}(h:dM b x=some y):b=true/\x=some y:=by
 cases b<;>simp[dM] at h; exact⟨rfl,h⟩
theorem agP{n:Int}(h1:0<=n)(h2:n<18446744073709551616):IntKind.u64.wrap n=n:=by
 have e:IntKind.u64.wrap n=(if(false&&decide (n % 18446744073709551616>=9223372036854775808))=true then n % 18446744073709551616-18446744073709551616 else n % 18446744073709551616):=rfl
 rw[e]
 simp only[Bool.false_and,Bool.false_eq_true,if_false]
 omega
theorem afp{n:Int}(h1:0<=n)(h2:n<256):IntKind.u8.wrap n=n:=by
 have e:IntKind.u8.wrap n=(if(false&&decide (n % 256>=128))=true then n % 256-256 else n % 256):=rfl
 rw[e]
 simp only[Bool.false_and,Bool.false_eq_true,if_false]
 omega
theorem Ws{n:Int}(h:okI n):IntKind.i64.wrap n=n:=wrap64 h.1 h.2
theorem Rw.eH(r:Rw):r.aU.length=r.len:=by cases r<;>simp[Rw.aU,Rw.len]
theorem Rw.PZ(r:Rw):r.lenV= .int r.len:=by cases r<;>rfl
theorem Rw.zY{n:Int}{r:Rw}:r.rng n↔(0<=n/\n<r.len):=by cases r<;>simp[Rw.rng,Rw.len]<;>omega
theorem Rw.uK{n:Int}{r:Rw}:r.qY n↔(0<=n/\n<=r.len):=by cases r<;>simp[Rw.qY,Rw.len]<;>omega
theorem getD_map'{α:Type}{f:α->T}{l:List α}{i:Nat}{d:α}(h:i<l.length):(l.map f).getD i .any=f (l.getD i d):=by
 simp[List.getD_eq_getElem?_getD,h]
theorem Rw.P5{r:Rw}{i:Nat}(h:i<r.len):r.aU.getD i .any=(r.get i).aH:=by
 cases r<;>simp only[Rw.len] at h<;>simp only[Rw.aU,Rw.get,V.aH,Dat.aH,Rw.aU]<;>first|exact getD_map' h|omega
theorem Rw.F6(r:Rw)(n:Nat):(r.take n).aU=r.aU.take n:=by cases r<;>simp[Rw.take,Rw.aU]
theorem Rw.RJ(r:Rw)(n:Nat):(r.drop n).aU=r.aU.drop n:=by cases r<;>simp[Rw.drop,Rw.aU]
theorem Rw.aaL(r:Rw):V.aU r.vs=r.aU:=by
 rw[fD]
 cases r<;>simp[Rw.vs,Rw.aU,V.aH,Dat.aH]
theorem Rw.JM{a b c:Rw}(h:a.app b=some c):c.aU=a.aU++b.aU:=by
 unfold Rw.app at h
 split at h<;>first|(cases h; done)|(cases h; simp[Rw.aU])
theorem V.ac9{v:V}{r:Rw}(h:v.one=some r):r.aU=[v.aH]:=by
 unfold V.one at h
 split at h<;>first|(cases h; done)|(cases h; simp[Rw.aU,V.aH,V.aU,Dat.aH,gQ,aaF,JK])
theorem Rw.zW: ∀ {l:List V} {r:Rw},Rw.XE l=some r->r.aU=V.aU l:=by
 intro l
 induction l with
 |nil=>intro r h; cases h; rfl
 |cons v l ih =>
  intro r h
  simp only[Rw.XE] at h
  split at h
  ·rename_i a b h1 h2
   rw[Rw.JM h,V.ac9 h1,ih h2]; rfl
  ·cases h
theorem V.P6{v:V}{k:Nat}(h:v.kd=some k):v.aH.kd=k:=by
 cases v with
 |dat d=>cases h; exact Dat.afk d
 |_=>simp only[V.kd,Option.some.injEq,reduceCtorEq] at h<;>subst h<;>simp[V.aH,T.kd,eS,dI]
theorem V.Ik{v:V}{l:List V}(h:v.cells=some l):v.aH.cells=V.aU l:=by
 cases v<;>simp only[V.cells,Option.some.injEq,reduceCtorEq] at h<;>subst h<;>simp[V.aH,Dat.Ij,T.cells,eS,V.aU]
theorem Hz.zk{h:Hz}{i:Nat}:(h.ay i).isSome=(h.get i).isSome:=by simp[Hz.ay]
theorem V.rX{h:Hz}{v:V}(hv:v.kF h=true):v.aH.kF h.ay=true:=by
 cases v<;>simp only[V.kF,Bool.false_eq_true] at hv<;>simp[V.aH,T.kF,T.yU,eS,Value.oneCell',Hz.zk,hv]
 rename_i d
 cases d<;>rfl
theorem V.aaM{h:Hz}{v:V}(hv:v.kF h=true)(hk:v.kd=some 0):v.aH.yU h.ay=true:=by
 cases v<;>simp only[V.kF,Bool.false_eq_true] at hv<;>simp only[V.kd,Option.some.injEq,Nat.succ_ne_zero] at hk<;>simp[V.aH,T.yU,eS,Value.oneCell',Hz.zk,hv]
 rename_i d
 cases d<;>cases hk
theorem Dat.free(d:Dat):d.aH.free=true:=by cases d<;>rfl
mutual
theorem V.oL:(v:V)->v.free=true->v.aH.free=true
 | .int _,_=>by simp[V.aH,T.free]
 | .bool _,_=>by simp[V.aH,T.free]
 | .u8 _,_=>by simp[V.aH,T.free]
 | .str _,_=>by simp[V.aH,T.free,eS]
 | .dat d,_=>by simp only[V.aH]; exact d.free
 | .agg l,h=>by simp only[V.aH,T.free]; simp only[V.free] at h; exact V.iF l h
 | .row _ _ _,_=>by simp[V.aH,T.free]
 | .Ii _ _ _,_=>by simp[V.aH,T.free]
 | .ref _ _,_=>by simp[V.aH,T.free]
 | .own _,h=>by simp[V.free] at h
 | .inn _,h=>by simp[V.free] at h
 | .pin _ _ _,h=>by simp[V.free] at h
 | .ptr _ _ _,h=>by simp[V.free] at h
 | .pK _ _ _,h=>by simp[V.free] at h
 | .fn _ l,h=>by simp only[V.aH,T.free]; simp only[V.free] at h; exact V.iF l h
 | .dU l,h=>by simp only[V.aH,T.free]; simp only[V.free] at h; exact V.iF l h
 | .cnd _ _,h=>by simp[V.free] at h
 | .raw t,h=>by simp only[V.aH]; simpa only[V.free] using h
theorem V.iF:(l:List V)->V.bZ l=true->T.bZ (V.aU l)=true
 |[],_=>by simp[V.aU,T.bZ]
 |v::r,h=>by
  simp only[V.bZ,Bool.and_eq_true] at h
  simp only[V.aU,T.bZ,Bool.and_eq_true]
  exact⟨V.oL v h.1,V.iF r h.2⟩
end
theorem yx{l:List V}{i:Nat}{u:V}(h:l[i]? =some u):(V.aU l).getD i .any=u.aH:=by
 rw[fD,List.getD_eq_getElem?_getD,List.getElem?_map,h]; rfl
theorem V.F7{off k:Nat}{v u:V}(h:v.part off k=some u):v.aH.part off k=u.aH:=by
 unfold V.part at h
 split at h
 ·simp only[V.aH,Dat.Ij,T.part,T.cells]; exact yx h
 ·simp only[V.aH,T.part,T.cells]; exact yx h
 ·rename_i k x
  cases hb:(Nat.beq off 2)&&(Nat.beq k 4) with
  |false=>rw[hb] at h; cases h
  |true =>
   rw[hb] at h
   simp only[Bool.and_eq_true,Nat.beq_eq] at hb
   obtain⟨rfl,rfl⟩:=hb
   cases h; rfl
 ·cases h
  simp only[V.aH,T.part,T.cells,Lr,Ls]
 ·cases h
theorem eY{a b:Nat}(h:Nat.beq a b=true):a=b:=Nat.eq_of_beq_eq_true h
section
variable {m:Fm} {h:Hz} {s:AS}
def Ok(s:AS)(op:oz)(v:V):Prop:=qc s op/\qt s op=v.aH
theorem ada{op:BinOp}{x y:X}{u v r:V}{sd:Sd}(q:afl op u v=some (r,sd))(hs:sd.holds)(h1:s.ev x=u.aH)(h2:s.ev y=v.aH):Ok s (.bin op x y) r:=by
 unfold Ok; simp only[qc,qt]; rw[h1,h2]
 unfold afl at q
 split at q
 ·rename_i a b
  split at q<;>first|(cases q; done)|(cases q; simp only[Sd.holds] at hs; simp[V.aH,Dz,kEq,Ws,hs])
 ·split at q<;>first|(cases q; done)|(cases q; simp[V.aH,Dz,kEq])
 ·split at q
  ·cases q; simp[V.aH,Dz,eS,Dl]
  ·cases q; simp[V.aH,Dz,eS,Dl]
  ·rename_i a b _
   cases q
   simp only[Sd.holds] at hs
   have hsz:(((bs a).size+(bs b).size:Nat):Int)<=9223372036854775807:=by
    have e1:(bs a).size=a.length:=by simp[bs,ByteArray.size]
    have e2:(bs b).size=b.length:=by simp[bs,ByteArray.size]
    rw[e1,e2]; exact Int.ofNat_le.2 hs
   have hap:bs a++bs b=bs (a++b):=by apply ByteArray.ext; simp[bs]
   have hsz2:((bs a).size:Int)+(bs b).size<=9223372036854775807:=by omega
   simp[V.aH,Dz,eS,hsz2,hap]
  ·cases q
 ·split at q
  ·cases q
   simp only[Sd.holds] at hs
   refine⟨?_,?_⟩
   ·simp only[V.aH,Dz,hs,decide_true,cond_true,Option.isSome]
   ·simp only[V.aH,Dz,hs,decide_true,cond_true]; rfl
  ·cases q; simp[V.aH,Dz,kEq]
  ·cases q
   simp only[Sd.holds] at hs
   simp[V.aH,Dz,kEq,hs]
  ·cases q; simp[V.aH,Dz,kEq]
  ·cases q; simp[V.aH,Dz,kEq]
  ·cases q
 ·cases q
theorem Vb{x:X}(hx:Dn x=true):x= .c (.lit (.bool true)):=by
 unfold Dn at hx
 split at hx
 ·rfl
 ·cases hx
theorem RN{x:X}(hx:zi x=true):x= .c (.lit (.bool false)):=by
 unfold zi at hx
 split at hx
 ·rfl
 ·cases hx
theorem aaN{c xa xb:X}{t:Bool}{va vb r:V}{sd:Sd}(R:Rp m s.fr)(ha:zH m xa=some va)(hb:zH m xb=some vb)(q:aaH t xa xb va.bare vb.bare=some (r,sd))(hs:sd.holds)(hc:s.ev c= .lit (.bool t)):Ok s (.pick c xa xb) r:=by
 unfold Ok; simp only[qc,qt]; rw[hc]
 refine⟨rfl,?_⟩
 unfold aaH at q
 split at q
 rename_i a sa b sb ea eb
 split at q
 ·rename_i v hp
  cases q
  rw[Sd.lJ,Sd.Oh,Sd.Oh] at hs
  have h1:t=true->s.ev xa=a.aH:=fun e=>by rw[R.ev ha,dX ea (hs.1 e)]
  have h2:t=false->s.ev xb=b.aH:=fun e=>by rw[R.ev hb,dX eb (hs.2 e)]
  unfold aew at hp
  split at hp
  ·rename_i x y
   have hp':r= .bool (bif Dn xa then t||y else bif zi xb then t&&x else bif t then x else y):=by
    cases e1:Dn xa<;>cases e2:zi xb<;>simp[e1,e2] at hp ⊢ <;>exact hp.symm
   subst hp'
   have key:Bl (.lit (.bool t)) (s.ev xa) (s.ev xb)= .lit (.bool (bif t then x else y)):=by
    cases t with
    |true =>
     rw[h1 rfl]; simp only[V.aH,Bl]
     split<;>simp_all
    |false =>
     rw[h2 rfl]; simp only[V.aH,Bl]
     split<;>simp_all
   rw[key]
   simp only[V.aH]
   congr 2
   cases e1:Dn xa with
   |true =>
    have:=Vb e1; subst this
    simp only[zH,Option.some.injEq] at ha; subst ha
    simp only[BN,V.bare,Prod.mk.injEq] at ea
    have:=ea.1; cases this
    cases t<;>rfl
   |false =>
    cases e2:zi xb with
    |true =>
     have:=RN e2; subst this
     simp only[zH,Option.some.injEq] at hb; subst hb
     simp only[BN,V.bare,Prod.mk.injEq] at eb
     have:=eb.1; cases this
     cases t<;>simp
    |false=>rfl
  ·cases hp
   cases t with
   |true=>rw[h1 rfl]; simp only[V.aH,Bl,cond_true]
   |false=>rw[h2 rfl]; simp only[V.aH,Bl,cond_false]; split<;>simp_all
  ·cases hp
   cases t with
   |true=>rw[h1 rfl]; simp only[V.aH,Bl,cond_true,eS]
   |false=>rw[h2 rfl]; simp only[V.aH,Bl,cond_false,eS]; split<;>simp_all
  ·cases hp
 ·cases q
theorem Vd{k:Nat}{p:Option V}{r:V}{sd:Sd}(q:V.U9 k p=some (r,sd)): ∃ u,p=some u/\r= .ref k u:=by
 unfold V.U9 at q
 split at q
 ·cases q; exact⟨_,rfl,rfl⟩
 ·cases q
theorem Jd{p:Option V}{r:V}{sd:Sd}(q:V.JL p=some (r,sd)):p=some r:=by
 unfold V.JL at q
 split at q
 ·cases q; rfl
 ·cases q
theorem aaO{k:Nat}(h:(!(Nat.beq k 0))=true):(!(k==0))=true:=by
 cases k<;>simp_all
theorem afq(hh:s.hp=h.ay){off k:Nat}{x:X}{u r:V}{sd:Sd}(q:faZ h off k u=some (r,sd))(h1:s.ev x=u.aH):Ok s (.fa off k x) r:=by
 unfold Ok; simp only[qc,qt]; rw[h1]
 unfold faZ at q
 split at q
 ·obtain⟨g,q⟩:=aS q
  obtain⟨u,e,rfl⟩:=Vd q
  simp only[Bool.and_eq_true] at g
  simp only[V.aH,V.F7 e,Bool.and_eq_true]
  exact⟨⟨aaO g.1,g.2⟩,trivial⟩
 ·obtain⟨g,q⟩:=aS q
  cases q
  simp only[V.aH,hh,Hz.zk,g,and_self]
 ·cases q
theorem afr{off k:Nat}{x:X}{u r:V}{sd:Sd}(q:fvZ off k u=some (r,sd))(h1:s.ev x=u.aH):Ok s (.fv off k x) r:=by
 unfold Ok; simp only[qc,qt]; rw[h1]
 unfold fvZ at q
 split at q
 ·rename_i kt hk
  obtain⟨g,q⟩:=aS q
  rw[V.P6 hk,V.F7 (Jd q)]
  simp only[Bool.and_eq_true] at g ⊢
  exact⟨⟨aaO g.1,g.2⟩,trivial⟩
 ·cases q
theorem aK{i:Nat}{o:OV}(e:h.get i=some o):h.ay i=some o.au:=by simp[Hz.ay,e]
theorem adb: ∀ {l:List V} {i:Nat} {v:V},afm l i=some v->i<l.length/\(V.aU l).getD i .any=v.aH:=by
 intro l
 induction l with
 |nil=>intro i v h; cases h
 |cons u r ih =>
  intro i v h
  cases i with
  |zero=>cases h; exact⟨Nat.succ_pos _,rfl⟩
  |succ i =>
   obtain⟨a,b⟩:=ih h
   exact⟨Nat.succ_lt_succ a,by simpa [V.aU] using b⟩
theorem aaP(hh:s.hp=h.ay){k:Nat}{x i:X}{u v r:V}{sd:Sd}(q:iaZ h k u v=some (r,sd))(hs:sd.holds)(h1:s.ev x=u.aH)(h2:s.ev i=v.aH):Ok s (.ia k x i) r:=by
 unfold Ok; simp only[qc,qt]; rw[h1,h2]
 unfold iaZ at q
 split at q
 ·rename_i k' f l n
  split at q
  ·rename_i v hv
   obtain⟨g,q⟩:=aS q
   cases q
   have:=eY g; subst this
   simp only[Sd.holds] at hs
   obtain⟨a,b⟩:=adb hv
   simp only[V.aH,inR,dI]
   exact⟨⟨trivial,hs,by omega⟩,by rw[b]⟩
  ·cases q
 ·rename_i k' f w n
  obtain⟨g,q⟩:=aS q
  cases q
  have:=eY g; subst this
  simp only[Sd.holds,Rw.zY] at hs
  simp only[V.aH,inR,Rw.eH]
  refine⟨⟨trivial,hs⟩,?_⟩
  rw[Rw.P5 (by omega)]
 ·rename_i o n
  split at q
  ·rename_i ty k' w e
   obtain⟨g,q⟩:=aS q
   cases q
   have:=eY g; subst this
   simp only[Sd.holds,Rw.zY] at hs
   simp only[V.aH,hh,aK e,OV.au,V.aU,List.append_nil,inR,Rw.eH]
   exact⟨⟨trivial,hs⟩,trivial⟩
  ·rename_i ty k' x e
   obtain⟨g,q⟩:=aS q
   cases q
   have:=eY g; subst this
   simp only[Sd.holds] at hs
   simp only[V.aH,hh,aK e,OV.au,inR,dI]
   exact⟨⟨trivial,hs⟩,trivial⟩
  ·cases q
 ·rename_i o lo hi n
  split at q
  ·rename_i ty k' w e
   obtain⟨g,q⟩:=aS q
   cases q
   have:=eY g; subst this
   simp only[Sd.holds] at hs
   simp only[V.aH,hh,aK e,OV.au,inR]
   exact⟨⟨trivial,hs⟩,trivial⟩
  ·cases q
 ·cases q
theorem afs{x i:X}{u v r:V}{sd:Sd}(q:chZ u v=some (r,sd))(hs:sd.holds)(h1:s.ev x=u.aH)(h2:s.ev i=v.aH):Ok s (.ch x i) r:=by
 unfold Ok; simp only[qc,qt]; rw[h1,h2]
 unfold chZ at q
 split at q
 ·cases q
  simp only[Sd.holds] at hs
  simp only[V.aH,eS,inR,zV,aaG]
  exact⟨hs,trivial⟩
 ·cases q
  simp only[Sd.holds] at hs
  simp only[V.aH,eS,inR,zV,aaG]
  exact⟨hs,trivial⟩
 ·cases q
theorem Ve(hh:s.hp=h.ay){k:Nat}{x:X}{u r:V}{sd:Sd}(q:ldZ h k u=some (r,sd))(hs:sd.holds)(h1:s.ev x=u.aH):Ok s (.ld k x) r:=by
 unfold Ok; simp only[qc,qt]; rw[h1]
 unfold ldZ at q
 split at q
 ·obtain⟨g,q⟩:=aS q
  cases q
  simp only[Bool.and_eq_true] at g
  have:=eY g.1; subst this
  simp[V.aH,g.2]
 ·rename_i i j off
  split at q
  ·rename_i ty ko v e
   simp only[V.aH,hh,aK e,OV.au]
   unfold ldB at q
   cases hj:Nat.beq j 0 with
   |false=>rw[hj] at q; cases q
   |true =>
    have:=eY hj; subst this
    rw[hj] at q
    simp only[cond_true] at q
    cases hb:(Nat.beq off 0&&Nat.beq ko k) with
    |true =>
     rw[hb] at q; cases q
     simp only[Bool.and_eq_true] at hb
     have e1:=eY hb.1; have e2:=eY hb.2; subst e1; subst e2
     simp
    |false =>
     rw[hb] at q
     simp only[cond_false] at q
     obtain⟨g,q⟩:=aS q
     have hb':(off==0&&ko==k)=false:=by
      rw[Bool.and_eq_false_iff] at hb ⊢
      rcases hb with hb|hb
      ·left; simpa using Nat.ne_of_beq_eq_false hb
      ·right; simpa using Nat.ne_of_beq_eq_false hb
     simp only[hb',cond_false,Bool.false_or,List.getD_cons_zero,V.F7 (Jd q),List.length_cons,List.length_nil]
     simp only[Bool.and_eq_true] at g ⊢
     exact⟨⟨by omega,aaO g.1,g.2⟩,trivial⟩
  ·rename_i ty ko w e
   simp only[V.aH,hh,aK e,OV.au,V.aU,List.append_nil]
   unfold ldR at q
   cases hb:(Nat.beq off 0&&Nat.beq ko k) with
   |true =>
    rw[hb] at q; cases q
    simp only[Bool.and_eq_true] at hb
    have e1:=eY hb.1; have e2:=eY hb.2; subst e1; subst e2
    simp only[Sd.holds,Rw.zY] at hs
    have hlt:j<w.len:=by omega
    simp only[BEq.rfl,Bool.and_self,Bool.true_or,cond_true,Rw.eH,Rw.P5 hlt]
    exact⟨⟨hlt,trivial⟩,trivial⟩
   |false =>
    rw[hb] at q
    simp only[cond_false] at q
    split at q
    ·rename_i u hu
     obtain⟨g,q⟩:=aS q
     cases q
     have hb':(off==0&&ko==k)=false:=by
      rw[Bool.and_eq_false_iff] at hb ⊢
      rcases hb with hb|hb
      ·left; simpa using Nat.ne_of_beq_eq_false hb
      ·right; simpa using Nat.ne_of_beq_eq_false hb
     simp only[Sd.holds,Rw.zY] at hs
     have hlt:j<w.len:=by omega
     simp only[hb',cond_false,Bool.false_or,Rw.eH,Rw.P5 hlt,V.F7 hu]
     simp only[Bool.and_eq_true] at g ⊢
     exact⟨⟨hlt,aaO g.1,g.2⟩,trivial⟩
    ·cases q
  ·cases q
 ·cases q
theorem aft(hh:s.hp=h.ay){x:X}{u r:V}{sd:Sd}(q:ncZ h u=some (r,sd))(h1:s.ev x=u.aH):Ok s (.nc x) r:=by
 unfold Ok; simp only[qc,qt]; rw[h1]
 unfold ncZ at q
 split at q
 ·cases q; simp[V.aH]
 ·obtain⟨g,q⟩:=aS q; cases q; simp[V.aH,hh,Hz.zk,g]
 ·cases q; simp[V.aH]
 ·cases q
theorem Wu(hh:s.hp=h.ay){str:Bool}{x:X}{u r:V}{sd:Sd}(q:ac8 h str u=some (r,sd))(h1:s.ev x=u.aH):Ok s (.len str x) r:=by
 unfold Ok; simp only[qc,qt]; rw[h1]
 unfold ac8 at q
 split at q
 ·obtain⟨g,q⟩:=aS q; cases q
  simp only[Bool.not_eq_true'] at g
  simp[V.aH,Rw.PZ,Rw.eH,g]
 ·obtain⟨g,q⟩:=aS q; cases q
  simp only[Bool.not_eq_true'] at g
  simp[V.aH,dI,g]
 ·obtain⟨g,q⟩:=aS q; cases q
  simp[V.aH,eS,zV,g]
 ·rename_i o
  split at q
  ·rename_i ty k w y e
   obtain⟨g,q⟩:=aS q
   simp only[Bool.and_eq_true,Bool.not_eq_true'] at g
   have hk:k≠fQ:=Nat.ne_of_beq_eq_false g.2
   split at q
   ·cases q
    simp only[V.aH,hh,aK e,OV.au,V.aU,List.append_nil,Rw.PZ,Rw.eH]
    exact⟨⟨g.1,hk⟩,trivial⟩
   ·cases q
    simp only[V.aH,hh,aK e,OV.au,List.length_append,dI,Rw.eH]
    exact⟨⟨g.1,hk⟩,by simp⟩
  ·rename_i ty k x e
   obtain⟨g,q⟩:=aS q
   cases q
   simp only[Bool.and_eq_true,Bool.not_eq_true'] at g
   simp only[V.aH,hh,aK e,OV.au,dI]
   exact⟨⟨g.1,Nat.ne_of_beq_eq_false g.2⟩,trivial⟩
  ·cases q
 ·rename_i o lo hi
  obtain⟨g,q⟩:=aS q; cases q
  simp only[Bool.and_eq_true,Bool.not_eq_true'] at g
  simp[V.aH,hh,Hz.zk,g]
 ·cases q
theorem afu{x y:X}{u v r:V}{sd:Sd}(q:mxZ u v=some (r,sd))(h1:s.ev x=u.aH)(h2:s.ev y=v.aH):Ok s (.mx x y) r:=by
 unfold Ok; simp only[qc,qt]; rw[h1,h2]
 unfold mxZ at q
 split at q
 ·rename_i a b
  cases q; simp only[V.aH,true_and]; congr 2; split<;>omega
 ·cases q
theorem afv{x y:X}{u v r:V}{sd:Sd}(q:mnZ u v=some (r,sd))(h1:s.ev x=u.aH)(h2:s.ev y=v.aH):Ok s (.mn x y) r:=by
 unfold Ok; simp only[qc,qt]; rw[h1,h2]
 unfold mnZ at q
 split at q
 ·rename_i a b
  cases q; simp only[V.aH,true_and]; congr 2; split<;>omega
 ·cases q
theorem afw{i:Nat}{x:X}{u r:V}{sd:Sd}(q:exZ i u=some (r,sd))(h1:s.ev x=u.aH):Ok s (.ex x i) r:=by
 unfold Ok; simp only[qc,qt]; rw[h1]
 unfold exZ at q
 split at q
 ·split at q
  ·rename_i l _ v e
   cases q
   have hi:i<l.length:=(List.getElem?_eq_some_iff.1 e).1
   simp only[V.aH,Nat.blt_eq,dI,yx e]
   exact⟨hi,trivial⟩
  ·cases q
 ·cases q
theorem ade{ne:Bool}{n:Nat}{x y:X}{u v r:V}{sd:Sd}(q:afn ne n u v=some (r,sd))(h1:s.ev x=u.aH)(h2:s.ev y=v.aH):Ok s (.eqs ne n x y) r:=by
 unfold Ok; simp only[qc,qt]; rw[h1,h2]
 unfold afn at q
 split at q
 ·rename_i x y
  obtain⟨g,q⟩:=aS q; cases q
  have:=eY g; subst this
  have e:tV [.int x.c,.int x.n,.int x.t,.int x.f] [.int y.c,.int y.n,.int y.t,.int y.f]=(x==y):=by
   cases x; cases y; simp[tV,BEq.beq]
  simp only[V.aH,Dat.aH,U7,e]
  exact⟨rfl,trivial⟩
 ·rename_i x y
  obtain⟨g,q⟩:=aS q; cases q
  have:=eY g; subst this
  have e:tV [.int x.message,.int x.FZ,.int x.bound.c,.int x.bound.n,.int x.bound.t,.int x.bound.f] [.int y.message,.int y.FZ,.int y.bound.c,.int y.bound.n,.int y.bound.t,.int y.bound.f]=(x==y):=by
   obtain⟨a,b,c,d,e,f⟩:=x; obtain⟨a',b',c',d',e',f'⟩:=y; simp[tV,BEq.beq]
  simp only[V.aH,Dat.aH,RF,e]
  exact⟨rfl,trivial⟩
 ·cases q
theorem afx{n:Nat}{x:X}{u r:V}{sd:Sd}(q:saZ n u=some (r,sd))(h1:s.ev x=u.aH):Ok s (.sa n x) r:=by
 unfold Ok; simp only[qc,qt]; rw[h1]
 unfold saZ at q
 split at q
 ·rename_i k l
  split at q
  ·rename_i w hw
   obtain⟨g,q⟩:=aS q; cases q
   simp only[V.aH,dI]
   exact⟨g,by rw[Rw.zW hw]⟩
  ·cases q
 ·cases q
theorem adf{x:X}{u r:V}{sd:Sd}(q:afo u=some (r,sd))(h1:s.ev x=u.aH):Ok s (.O8 x) r:=by
 unfold Ok; simp only[qc,qt]; rw[h1]
 unfold afo at q
 split at q
 ·cases q; simp[V.aH,Rw.PZ,Rw.eH]
 ·cases q
end
section
variable {m:Fm} {h:Hz} {s:AS}
theorem uM(R:Rp m s.fr): ∀ {xs:List X} {l:List V} {sd:Sd},BO m xs=some (l,sd)->sd.holds->xs.map s.ev=V.aU l:=by
 intro xs
 induction xs with
 |nil=>intro l sd q _; cases q; rfl
 |cons x r ih =>
  intro l sd q hs
  simp only[BO] at q
  split at q
  ·rename_i v l' s' h1 h2
   cases q
   rw[Sd.lJ] at hs
   simp only[List.map_cons,V.aU]
   rw[R.ev h1,dX (v:=v) (u:=v.bare.1) (s:=v.bare.2) rfl hs.1,ih h2 hs.2]
  ·cases q
theorem Il: ∀ {l:List V},DZ h l=true->wR h.ay (V.aU l)=true:=by
 intro l
 induction l with
 |nil=>intro _; rfl
 |cons v r ih =>
  intro q
  simp only[DZ,Bool.and_eq_true] at q
  simp only[V.aU,wR,Bool.and_eq_true]
  exact⟨V.rX q.1,ih q.2⟩
theorem JO{k:Nat}: ∀ {l:List V},Em k l=true-> ∀ v∈l,v.kd=some k:=by
 intro l
 induction l with
 |nil=>intro _ v hv; cases hv
 |cons u r ih =>
  intro q v hv
  simp only[Em,Bool.and_eq_true] at q
  rcases List.mem_cons.1 hv with rfl|hv
  ·have:=q.1
   split at this
   ·rename_i k' e; rw[e,eY this]
   ·cases this
  ·exact ih q.2 v hv
theorem Yi: ∀ {l:List V},DZ h l=true->Em 0 l=true->zM h.ay (V.aU l)=true:=by
 intro l
 induction l with
 |nil=>intro _ _; rfl
 |cons v r ih =>
  intro q k
  have hk:=JO k v (by simp)
  simp only[DZ,Em,Bool.and_eq_true] at q k
  simp only[V.aU,zM,Bool.and_eq_true]
  exact⟨V.aaM q.1 hk,ih q.2 k.2⟩
theorem aaQ: ∀ {ps:List (Nat×Nat×X)} {vs z l:List V},Wq ps vs z=some l->(ps.map fun p=>s.ev p.2.2)=V.aU vs ->
  Hr (V.aU z) (ps.map fun p=>(p.1,p.2.1,s.ev p.2.2))=true/\IZ (V.aU z) (ps.map fun p=>(p.1,p.2.1,s.ev p.2.2))=V.aU l:=by
 intro ps
 induction ps with
 |nil =>
  intro vs z l q he
  cases vs with
  |nil=>cases q; exact⟨rfl,rfl⟩
  |cons v vs=>simp[V.aU] at he
 |cons p ps ih =>
  intro vs z l q he
  obtain⟨off,n,x⟩:=p
  cases vs with
  |nil=>simp[V.aU] at he
  |cons v vs =>
   simp only[Wq] at q
   split at q
   ·rename_i c hc
    obtain⟨g,q⟩:=aS q
    simp only[List.map_cons,V.aU,List.cons.injEq] at he
    simp only[Bool.and_eq_true] at g
    have e1:=eY g.1
    obtain⟨i1,i2⟩:=ih q he.2
    simp only[List.map_cons,Hr,IZ,Bool.and_eq_true]
    have ec:(s.ev x).cells=V.aU c:=by rw[he.1]; exact V.Ik hc
    simp only[xB,Lr,Ls] at i1 i2
    simp only[ec,dI]
    refine⟨⟨⟨by simpa using e1,g.2⟩,i1⟩,i2⟩
   ·cases q
theorem afy(R:Rp m s.fr)(hh:s.hp=h.ay){z:List T}{ps:List (Nat×Nat×X)}{r:V}{sd:Sd}(q:mkZ m h z ps=some (r,sd))(hs:sd.holds):Ok s (.mk z ps) r:=by
 unfold mkZ at q
 split at q
 ·rename_i vs s' hb
  split at q
  ·rename_i l hl
   obtain⟨g,q⟩:=aS q
   cases q
   have he:=uM R hb hs
   have he':(ps.map fun p=>s.ev p.2.2)=V.aU vs:=by rw[<- he]; simp
   obtain⟨i1,i2⟩:=aaQ hl he'
   rw[zW] at i1 i2
   unfold Ok; simp only[qc,qt]
   rw[i1,i2,he',hh,Il g]
   exact⟨rfl,rfl⟩
  ·cases q
 ·cases q
theorem Wv{k n:Nat}: ∀ {ps:List (Nat×X)} {vs z l:List V},aaI n ps vs z=some l->(ps.map fun p=>s.ev p.2)=V.aU vs->Em k vs=true ->
  Ku k n (ps.map fun p=>(p.1,s.ev p.2))=true/\rQ (V.aU z) (ps.map fun p=>(p.1,s.ev p.2))=V.aU l:=by
 intro ps
 induction ps with
 |nil =>
  intro vs z l q he _
  cases vs with
  |nil=>cases q; exact⟨rfl,rfl⟩
  |cons v vs=>simp[V.aU] at he
 |cons p ps ih =>
  intro vs z l q he hk
  obtain⟨i,x⟩:=p
  cases vs with
  |nil=>simp[V.aU] at he
  |cons v vs =>
   simp only[aaI] at q
   obtain⟨g,q⟩:=aS q
   simp only[List.map_cons,V.aU,List.cons.injEq] at he
   have hkv:=JO hk v (by simp)
   simp only[Em,Bool.and_eq_true] at hk
   obtain⟨i1,i2⟩:=ih q he.2 hk.2
   have e:V.aU (z.set i v)=(V.aU z).set i (s.ev x):=by rw[he.1]; simp[fD,List.map_set]
   rw[e] at i2
   simp only[List.map_cons,Ku,rQ,Bool.and_eq_true]
   refine⟨⟨⟨?_,g⟩,i1⟩,i2⟩
   rw[he.1,V.P6 hkv]; simp
theorem afz(R:Rp m s.fr)(hh:s.hp=h.ay){ty k:Nat}{z:T}{n:Nat}{ps:List (Nat×X)}{r:V}{sd:Sd}(q:msZ m h k z n ps=some (r,sd))(hs:sd.holds):Ok s (.ms ty k z n ps) r:=by
 unfold msZ at q
 split at q
 ·rename_i vs s' hb
  split at q
  ·rename_i l hl
   obtain⟨g,q⟩:=aS q
   have hs':s'.holds/\r.aH= .sl k true (V.aU l):=by
    split at q
    ·rename_i w hw
     cases q; exact⟨hs,by simp only[V.aH]; rw[Rw.zW hw]⟩
    ·cases q; exact⟨hs,rfl⟩
   have he:=uM R hb hs'.1
   have he':(ps.map fun p=>s.ev p.2)=V.aU vs:=by rw[<- he]; simp
   simp only[Bool.and_eq_true] at g
   obtain⟨⟨⟨⟨⟨⟨g1,g2⟩,g3⟩,g4⟩,g5⟩,g6⟩,g7⟩:=g
   obtain⟨i1,i2⟩:=Wv hl he' g3
   have e:V.aU (List.replicate n (BN z))=List.replicate n z:=by rw[fD,List.map_replicate,yw]
   rw[e] at i2
   unfold Ok; simp only[qc,qt]
   rw[i1,i2,he',hh,Il g4,V.iF _ g5,g1,g2,g6,g7,hs'.2]
   exact⟨rfl,rfl⟩
  ·cases q
 ·cases q
theorem BP(R:Rp m s.fr){x:Option X}{v:Option V}{sd:Sd}(q:Lp m x=some (v,sd))(hs:sd.holds):x.map s.ev=v.map V.aH:=by
 cases x with
 |none=>cases q; rfl
 |some x =>
  simp only[Lp] at q
  split at q
  ·rename_i u hu
   cases q
   simp only[Option.map_some]; rw[R.ev hu,dX (v:=u) (u:=u.bare.1) (s:=u.bare.2) rfl hs]
  ·cases q
theorem Io{k k':Nat}{r:Rw}(g:kOk k k' r=true):k'=k\/r.aU=[]:=by
 unfold kOk at g
 split at g
 ·exact .inr rfl
 ·exact .inl (eY g)
theorem RP{k k':Nat}{f:Bool}{w:Rw}{lo hi mx:Option V}{r:V}{sd:Sd}(q:aaJ k k' f w lo hi mx=some (r,sd))(hs:sd.holds) :
  slC k (.sl k' f w.aU) (lo.map V.aH) (hi.map V.aH) (mx.map V.aH)/\QX k (.sl k' f w.aU) (lo.map V.aH) (hi.map V.aH) (mx.map V.aH)=r.aH:=by
 unfold aaJ at q
 split at q
 ·obtain⟨g,q⟩:=aS q; cases q
  simp only[Option.map_none,slC,QX,V.aH]
  exact⟨Io g,trivial⟩
 ·obtain⟨g,q⟩:=aS q; cases q
  simp only[Sd.holds,Rw.uK] at hs
  simp only[Option.map_none,Option.map_some,slC,QX,V.aH,Rw.RJ,Rw.eH]
  exact⟨⟨Io g,hs⟩,trivial⟩
 ·obtain⟨g,q⟩:=aS q; cases q
  simp only[Sd.holds,Rw.uK] at hs
  simp only[Option.map_none,Option.map_some,slC,QX,V.aH,Rw.F6,Rw.eH]
  exact⟨⟨Io g,hs⟩,trivial⟩
 ·obtain⟨g,q⟩:=aS q; cases q
  simp only[Sd.holds,Rw.uK] at hs
  simp only[Option.map_none,Option.map_some,slC,QX,V.aH,Rw.F6,Rw.RJ,Rw.eH]
  exact⟨⟨Io g,hs.1,hs.2.1,hs.2.2.2⟩,trivial⟩
 ·obtain⟨g,q⟩:=aS q; cases q
  simp only[Sd.holds,Rw.uK] at hs
  simp only[Option.map_none,Option.map_some,slC,QX,V.aH,Rw.F6,Rw.eH]
  exact⟨⟨Io g,hs.1,hs.2.1,hs.2.2.2⟩,trivial⟩
 ·cases q
theorem aaR{k i ty ko:Nat}{w:Rw}{lo hi mx:Option V}{r:V}{sd:Sd}(q:aaK k i ko w lo hi mx=some (r,sd))(hs:sd.holds) :
  Fz k ⟨ty,ko,w.aU⟩ (lo.map V.aH) (hi.map V.aH) (mx.map V.aH)/\Ap i ⟨ty,ko,w.aU⟩ (lo.map V.aH) (hi.map V.aH) (mx.map V.aH)=r.aH:=by
 unfold aaK at q
 split at q
 ·obtain⟨g,q⟩:=aS q; cases q
  simp only[Sd.holds,Rw.uK] at hs
  simp only[Option.map_none,Option.map_some,Fz,Ap,V.aH,Rw.eH]
  exact⟨⟨eY g,hs⟩,trivial⟩
 ·obtain⟨g,q⟩:=aS q; cases q
  simp only[Sd.holds,Rw.uK] at hs
  simp only[Option.map_none,Option.map_some,Fz,Ap,V.aH,Rw.eH]
  exact⟨⟨eY g,hs⟩,trivial⟩
 ·obtain⟨g,q⟩:=aS q; cases q
  simp only[Sd.holds,Rw.uK] at hs
  simp only[Option.map_none,Option.map_some,Fz,Ap,V.aH,Rw.eH]
  exact⟨⟨eY g,hs.1,hs.2.1,hs.2.2.2⟩,trivial⟩
 ·cases q
theorem Yj{k i ty ko:Nat}{w:Rw}{xs:List V}{lo hi mx:Option V}{r:V}{sd:Sd}(q:Va k i ko w xs lo hi mx=some (r,sd))(hs:sd.holds) :
  Fz k ⟨ty,ko,w.aU++V.aU xs⟩ (lo.map V.aH) (hi.map V.aH) (mx.map V.aH)/\Ap i ⟨ty,ko,w.aU++V.aU xs⟩ (lo.map V.aH) (hi.map V.aH) (mx.map V.aH)=r.aH:=by
 unfold Va at q
 split at q
 ·obtain⟨g,q⟩:=aS q; cases q
  simp only[Sd.holds,Rw.uK] at hs
  simp only[Option.map_none,Option.map_some,Fz,Ap,V.aH]
  refine⟨⟨eY g,hs.1,?_⟩,trivial⟩
  have:=hs.2
  simp only[List.length_append,Rw.eH]; omega
 ·split at q
  ·simp only[V.aU,List.append_nil]; exact aaR q hs
  ·cases q
theorem Wx(R:Rp m s.fr){b:Bool}{k:Nat}{x:X}{lo hi mx:Option X}{r:V}{sd:Sd}(q:slX m h b k x lo hi mx=some (r,sd))(hs:sd.holds) :
  ∃ v lo' hi' mx' s',slZ h b k v lo' hi' mx'=some (r,s')/\s'.holds/\s.ev x=v.aH/\lo.map s.ev=lo'.map V.aH/\hi.map s.ev=hi'.map V.aH/\mx.map s.ev=mx'.map V.aH:=by
 obtain⟨v,s',q,hs,hv⟩:=ku R q hs
 split at q
 ·rename_i lo' s1 hi' s2 mx' s3 e1 e2 e3
  split at q
  ·rename_i u s4 e4
   cases q
   rw[Sd.lJ,Sd.lJ,Sd.lJ] at hs
   exact⟨v,lo',hi',mx',s4,e4,hs.2.2.2,hv,BP R e1 hs.1,BP R e2 hs.2.1,BP R e3 hs.2.2.1⟩
  ·cases q
 ·cases q
theorem agQ(R:Rp m s.fr){k:Nat}{x:X}{lo hi mx:Option X}{r:V}{sd:Sd}(q:slX m h false k x lo hi mx=some (r,sd))(hs:sd.holds):Ok s (.sl k x lo hi mx) r:=by
 obtain⟨v,lo',hi',mx',s',q,hs,hv,e1,e2,e3⟩:=Wx R q hs
 unfold Ok; simp only[qc,qt]; rw[hv,e1,e2,e3]
 unfold slZ at q
 split at q
 ·exact RP q hs
 ·cases q
 ·cases q
theorem afA(R:Rp m s.fr)(hh:s.hp=h.ay){k:Nat}{x:X}{lo hi mx:Option X}{r:V}{sd:Sd}(q:slX m h true k x lo hi mx=some (r,sd))(hs:sd.holds):Ok s (.XM k x lo hi mx) r:=by
 obtain⟨v,lo',hi',mx',s',q,hs,hv,e1,e2,e3⟩:=Wx R q hs
 unfold Ok; simp only[qc,qt]; rw[hv,e1,e2,e3]
 unfold slZ at q
 split at q
 ·exact RP q hs
 ·simp only[cond_true] at q
  split at q
  ·rename_i i _ ty ko w xs e
   simp only[V.aH,hh,aK e,OV.au]
   exact Yj q hs
  ·cases q
 ·cases q
theorem EF{t:Str}{a b:Nat}(hab:a<=b)(_hb:b<=t.length):(bs t).extract a b=bs ((t.take b).drop a):=by
 apply ByteArray.ext
 have h1:((bs t).extract a b).data=(bs t).data.extract a b:=ByteArray.data_extract
 rw[h1]
 apply Array.ext'
 simp[bs,List.extract,List.take_drop]
 rw[show a+(b-a)=b by omega]
theorem agR(R:Rp m s.fr){x:X}{lo hi:Option X}{r:V}{sd:Sd}(q:ssX m x lo hi=some (r,sd))(hs:sd.holds):Ok s (.ss x lo hi) r:=by
 obtain⟨v,s',q,hs,hv⟩:=ku R q hs
 split at q
 ·rename_i t lo' s1 hi' s2 e1 e2
  split at q
  ·rename_i u s4 e4
   cases q
   rw[Sd.lJ,Sd.lJ] at hs
   have f1:=BP R e1 hs.1
   have f2:=BP R e2 hs.2.1
   unfold Ok; simp only[qc,qt]; rw[hv,f1,f2]
   have hs4:=hs.2.2
   unfold ssZ at e4
   split at e4
   ·cases e4
    simp only[Sd.holds] at hs4
    simp only[Option.map_none,Option.map_some,V.aH,eS,zV]
    refine⟨hs4,?_⟩
    rw[EF (by omega) (Nat.le_refl _)]; simp
   ·cases e4
    simp only[Sd.holds] at hs4
    simp only[Option.map_none,Option.map_some,V.aH,eS,zV]
    refine⟨hs4,?_⟩
    rw[EF (by omega) (by omega)]; simp
   ·cases e4
    simp only[Sd.holds] at hs4
    simp only[Option.map_some,V.aH,eS,zV]
    refine⟨hs4,?_⟩
    rw[EF (by omega) (by omega)]
   ·cases e4
  ·cases q
 ·cases q
theorem afB(R:Rp m s.fr)(hh:s.hp=h.ay){f:FuncId}{cap:List X}{r:V}{sd:Sd}(q:mfZ m h f cap=some (r,sd))(hs:sd.holds):Ok s (.mf f cap) r:=by
 unfold mfZ at q
 split at q
 ·rename_i l s' hb
  obtain⟨g,q⟩:=aS q
  cases q
  simp only[Bool.and_eq_true] at g
  unfold Ok; simp only[qc,qt]
  rw[uM R hb hs,hh,Yi g.1.1 g.1.2,g.2]
  exact⟨rfl,rfl⟩
 ·cases q
theorem afC{f:FuncId}{x:X}{v r:V}{sd:Sd}(q:mbZ f v=some (r,sd))(h1:s.ev x=v.aH):Ok s (.mb f x) r:=by
 unfold mbZ at q
 split at q
 ·obtain⟨g,q⟩:=aS q; cases q
  unfold Ok; simp only[qc,qt]; rw[h1]; exact⟨Nat.blt_eq.mp g,rfl⟩
 ·obtain⟨g,q⟩:=aS q; cases q
  rename_i d
  unfold Ok; simp only[qc,qt]; rw[h1]; simp only[V.aH]; rw[Dat.Ij]; exact⟨Nat.blt_eq.mp g,rfl⟩
 ·cases q
theorem aaS(R:Rp m s.fr)(hh:s.hp=h.ay){op:oz}{r:V}{sd:Sd}(q:qz m h op=some (r,sd))(hs:sd.holds):bF op=true/\Ok s op r:=by
 unfold qz at q
 split at q
 ·split at q
  ·rename_i v e; cases q
   exact⟨rfl,trivial,R.ev e⟩
  ·cases q
 ·obtain⟨c,s',q,hs,hc⟩:=ku R q hs
  split at q
  ·rename_i t va vb e1 e2
   exact⟨rfl,aaN R e1 e2 q hs hc⟩
  ·cases q
 ·obtain⟨u,v,s',q,hs,h1,h2⟩:=zX R q hs
  exact⟨rfl,ada q hs h1 h2⟩
 ·obtain⟨u,v,s',q,hs,h1,h2⟩:=zX R q hs
  split at q
  ·cases q; refine⟨rfl,?_⟩; unfold Ok; simp only[qc,qt]; rw[h1,h2]; exact⟨rfl,rfl⟩
  ·cases q
 ·obtain⟨u,s',q,hs,h1⟩:=ku R q hs
  split at q
  ·cases q; refine⟨rfl,?_⟩; unfold Ok; simp only[qc,qt]; rw[h1]; exact⟨rfl,rfl⟩
  ·cases q
 ·obtain⟨u,s',q,hs,h1⟩:=ku R q hs
  split at q
  ·cases q; refine⟨rfl,?_⟩; unfold Ok; simp only[qc,qt]; rw[h1]; simp only[V.aH,true_and]; rw[Ws hs]
  ·cases q; refine⟨rfl,?_⟩; unfold Ok; simp only[qc,qt]; rw[h1]; simp only[V.aH,true_and]; rw[Ws hs]
  ·cases q; refine⟨rfl,?_⟩; unfold Ok; simp only[qc,qt]; rw[h1]; simp only[V.aH,true_and]; rw[Ws hs]
  ·cases q
 ·obtain⟨u,s',q,hs,h1⟩:=ku R q hs
  split at q
  ·cases q; refine⟨rfl,?_⟩; unfold Ok; simp only[qc,qt]; rw[h1]; simp only[V.aH,true_and]; rw[agP hs.1 hs.2]
  ·cases q; refine⟨rfl,?_⟩; unfold Ok; simp only[qc,qt]; rw[h1]; exact⟨trivial,rfl⟩
  ·cases q
 ·obtain⟨u,s',q,hs,h1⟩:=ku R q hs
  split at q
  ·cases q; refine⟨rfl,?_⟩; unfold Ok; simp only[qc,qt]; rw[h1]; simp only[V.aH,true_and]; rw[afp hs.1 hs.2]
  ·cases q
 ·obtain⟨u,s',q,hs,h1⟩:=ku R q hs; exact⟨rfl,afq hh q h1⟩
 ·obtain⟨u,s',q,hs,h1⟩:=ku R q hs; exact⟨rfl,afr q h1⟩
 ·obtain⟨u,v,s',q,hs,h1,h2⟩:=zX R q hs; exact⟨rfl,aaP hh q hs h1 h2⟩
 ·obtain⟨u,v,s',q,hs,h1,h2⟩:=zX R q hs; exact⟨rfl,afs q hs h1 h2⟩
 ·obtain⟨u,s',q,hs,h1⟩:=ku R q hs; exact⟨rfl,Ve hh q hs h1⟩
 ·obtain⟨u,s',q,hs,h1⟩:=ku R q hs; exact⟨rfl,aft hh q h1⟩
 ·obtain⟨u,s',q,hs,h1⟩:=ku R q hs; exact⟨rfl,Wu hh q h1⟩
 ·obtain⟨u,v,s',q,hs,h1,h2⟩:=zX R q hs; exact⟨rfl,afu q h1 h2⟩
 ·obtain⟨u,v,s',q,hs,h1,h2⟩:=zX R q hs; exact⟨rfl,afv q h1 h2⟩
 ·exact⟨rfl,afy R hh q hs⟩
 ·exact⟨rfl,afz R hh q hs⟩
 ·exact⟨rfl,agQ R q hs⟩
 ·exact⟨rfl,afA R hh q hs⟩
 ·exact⟨rfl,agR R q hs⟩
 ·obtain⟨u,s',q,hs,h1⟩:=ku R q hs; exact⟨rfl,afw q h1⟩
 ·exact⟨rfl,afB R hh q hs⟩
 ·obtain⟨u,v,s',q,hs,h1,h2⟩:=zX R q hs; exact⟨rfl,ade q h1 h2⟩
 ·obtain⟨u,s',q,hs,h1⟩:=ku R q hs; exact⟨rfl,adf q h1⟩
 ·obtain⟨u,s',q,hs,h1⟩:=ku R q hs; exact⟨rfl,afC q h1⟩
 ·obtain⟨u,s',q,hs,h1⟩:=ku R q hs; exact⟨rfl,afx q h1⟩
 ·cases q
end
structure ah(P:Program)(dr:Bool)(g:Option Bool)(f:FuncId)(args:List V)(h:Hz)(n:Nat)(K:V->Hz->Prop)(KW:Nat->V->Hz->Prop):Prop where
 ok:(match g with
  |none=>aQ P f (V.aU args) h.ay n fun t hp=> ∃ v h',t=v.aH/\hp=h'.ay/\(dr=true->h'=h/\t.free=true)/\K v h'
  |some b=>(∃ v,(b=true->aQ P f (V.aU args) h.ay n fun t hp=>t=v.aH/\hp=h.ay)/\v.free=true/\K v h) \/
   (dr=false/\(b=true->aQ P f (V.aU args) h.ay n fun t hp=> ∃ v h',t=v.aH/\hp=h'.ay/\K v h')/\(b=false->K (.int 0) h))) \/
  (g=none/\dr=false/\ ∃ k,jF P f (V.aU args) h.ay n k fun t hp=> ∃ v h',t=v.aH/\hp=h'.ay/\KW k v h') \/
  (g=none/\dr=true/\h.get n=none/\aQ P f (V.aU args) h.ay n fun t hp=> ∃ v o,t=v.aH/\hp=Hz.ay ((n,some o)::h)/\KW 0 v ((n,some o)::h))
structure agS(P:Program)(f:FuncId)(args:List V)(h:Hz)(n:Nat)(K:V->Hz->Prop):Prop where
 ok: ∃ (v:V) (o:Option OV),v.aH.ids (fun i=>i=n)/\(∀ ob,o=some ob->T.bZ ob.au.l=true) /\
  (∀ hp:Hp,(∀ i ob,h.ay i=some ob->hp i=some ob)->aQ P f (V.aU args) hp n fun t' h'=>t'=v.aH/\h'=jq hp n (o.map OV.au)) /\
  K v (match o with|none=>h|some o=>(n,some o)::h)
def EG(dr fl:Bool)(a b c:Prop):Prop :=
 match dr with
 |false=>a
 |true=>match fl with
  |false=>b
  |true=>c
inductive ZF(p a b:Prop):Prop where
 |mk:(p->a)->b->ZF p a b
inductive agT(o:Option (List Bool))(yes:List Bool->Prop)(no:Prop):Prop where
 |mk:(∀ l,o=some l->yes l)->(o=none->no)->agT o yes no
def V.seq(v:V)(K:V->Prop):Prop :=
 match v with
 | .int n=>K (.int n)
 | .bool b=>K (.bool b)
 | .u8 n=>K (.u8 n)
 | .str s=>K (.str s)
 | .dat d=>K (.dat d)
 | .agg l=>K (.agg l)
 | .row k f r=>K (.row k f r)
 | .Ii k f l=>K (.Ii k f l)
 | .ref k v=>K (.ref k v)
 | .own i=>K (.own i)
 | .inn i=>K (.inn i)
 | .pin i j o=>K (.pin i j o)
 | .ptr i j o=>K (.ptr i j o)
 | .pK i a b=>K (.pK i a b)
 | .fn f l=>K (.fn f l)
 | .dU l=>K (.dU l)
 | .cnd b v=>K (.cnd b v)
 | .raw t=>K (.raw t)
theorem V.seq_eq(v:V)(K:V->Prop):v.seq K=K v:=by cases v<;>rfl
def iJ(d:Option Nat)(v:V)(m:Fm):Fm :=
 match d with
 |some d=>(d,v)::m
 |none=>m
def sV:Option Bool->V->V
 |none,v=>v
 |some b,.cnd c v=>.cnd (b&&c) v
 |some b,v=>.cnd b v
theorem Ip(v:V):(sV (some true) v).aH=v.aH:=by cases v<;>rfl
theorem Vf(v:V):(sV (some false) v).aH=T.un:=by cases v<;>rfl
def Vg(m:Fm):Option (Nat×Bool)->Option (Option Bool)
 |none=>some none
 |some (g,w)=>match m.get g with
  |some (.bool b)=>some (some (bif w then b else !b))
  |some (.cnd c (.bool b))=>some (some (c&&(bif w then b else !b)))
  |_=>none
def ltX(nx:Nat)(m:Fm):List X->Bool
 |[]=>true
 |x::r=>(match zH m x with|some v=>T.lt nx v.aH|none=>false)&&ltX nx m r
def aaT(nx:Nat)(m:Fm):oz->Bool
 | .st _ x _=>match zH m x with|some v=>T.newer nx v.aH|none=>false
 | .app _ _ _ x _=>match zH m x with|some v=>T.newer nx v.aH|none=>false
 | .Ue _ _ _=>false
 | .UD _ _ _=>false
 | .call _ _=>true
 | .nZ _ _=>true
 |op=>ltX nx m op.xs
def adg(i:Nat)(m:Fm):List X->Bool
 |[]=>true
 |x::r=>(match zH m x with|some v=>T.nid i v.aH|none=>false)&&adg i m r
def neB(m:Fm)(xs:List X):List Nat->Bool
 |[]=>true
 |d::r=>(bif Nat.blt d 1000000 then(match m.get d with|some (.ptr i _ _)=>adg i m xs|_=>false)
   else bif Nat.beq d 1000000 then ltX 10000 m xs else(match xs with|x::_=>(match zH m x with|some v=>T.newer 10000 v.aH|none=>false)|[]=>false))&&neB m xs r
def F8(nx:Nat)(o:aI)(m:Fm):Bool:=(!o.fl||aaT nx m o.op)&&neB m o.op.xs o.ne
def isZero:V->Bool
 | .int (.ofNat 0)=>true
 |_=>false
def ZA(n:Nat):T->Option Rw
 | .lit (.int .i64 z)=>some (.ints (List.replicate n z))
 | .lit (.bool z)=>some (.bools (List.replicate n z))
 | .lit (.string z)=>some (.strs (List.replicate n z.data.toList))
 |_=>none
def Rw.set(j:Nat)(v:V)(r:Rw):Option Rw :=
 match r,v with
 | .ints l,.int n=>some (.ints (l.set j n))
 | .bools l,.bool n=>some (.bools (l.set j n))
 | .strs l,.str n=>some (.strs (l.set j n))
 | .rules l,.dat (.rule n)=>some (.rules (l.set j n))
 | .clauses l,.dat (.clause n)=>some (.clauses (l.set j n))
 | .elems l,.dat (.elem n)=>some (.elems (l.set j n))
 | .bG l,.row 0 false (.ints n)=>some (.bG (l.set j n))
 | .nS l,.row 0 false (.bools n)=>some (.nS (l.set j n))
 | .nT l,.row 0 false (.bG n)=>some (.nT (l.set j n))
 |_,_=>none
def afD(h:Hz)(k:Nat):V->Option (Rw×List V)
 | .row k' _ r=>dM (kOk k k' r) (some (r,[]))
 | .Ii k' _ l=>dM (Nat.beq k' k) (some (.nil,l))
 | .own o=>match h.get o with
  |some (.row _ ko r x)=>dM (Nat.beq ko k) (some (r,x))
  |_=>none
 |_=>none
def afE(r:Rw)(x:List V)(r':Rw)(x':List V):Option (Rw×List V) :=
 match x,r' with
 |[],r'=>match r.app r' with|some w=>some (w,x')|none=>none
 |x,.nil=>some (r,x++x')
 |_,_=>none
def kQ(r:Rw)(x:List V):Nat :=
 match x with
 |[]=>r.len
 |x=>r.len+x.length
def kH(bytes:Nat)(a b:Nat):Prop:=(a+b)*bytes<=140737488355328/\a+b<=1152921504606846976
def setCells(v:V)(off:Nat)(u:V):Option V :=
 match v.cells,u.cells with
 |some l,some c=>some (.agg (l.take off++c++l.drop (off+c.length)))
 |_,_=>none
def P7:List V->(List V->Prop)->Prop
 |[],K=>K []
 |v::r,K=>P7 r fun r'=>K (v::r')
def V.force(v:V)(K:V->Prop):Prop :=
 match v with
 | .agg l=>P7 l fun l=>K (.agg l)
 |v=>K v
theorem Yk: ∀ {l:List V} {K:List V->Prop},P7 l K=K l:=by
 intro l
 induction l with
 |nil=>intro K; rfl
 |cons v r ih=>intro K; show P7 r (fun r'=>K (v::r'))=_; rw[ih]
theorem V.force_eq(v:V)(K:V->Prop):v.force K=K v:=by
 cases v<;>first|rfl|exact Yk
structure adh(c p a b:Prop):Prop where
 ok:(c\/b)/\p/\a
theorem adh.one{c p a b:Prop}(h:c/\p)(k:a):adh c p a b:=⟨.inl h.1,h.2,k⟩
structure AtZ(y:List V)(j:Nat)(K:V->Prop):Prop where
 ok: ∃ v,y[j]? =some v/\K v
structure Oi(h:Hz)(i:Nat)(K:Nat->Rw->Prop):Prop where
 ok: ∃ ty k r,h.get i=some (.row ty k r [])/\K k r
structure Nj(h:Hz)(i j k:Nat)(v:V)(K:Hz->Prop):Prop where
 ok: ∃ ty r r' h',h.get i=some (.row ty k r [])/\r.set j v=some r'/\r.rng j/\h'.ay=upd h.ay i (some (OV.row ty k r' []).au)/\K h'
structure Lu(h:Hz)(i ty k:Nat)(K:Rw->Hz->Prop):Prop where
 ok: ∃ r h',h.get i=some (.row ty k r [])/\h'.ay=upd h.ay i none/\K r h'
def adi(dr:Bool)(d:Option Nat)(n:Nat)(m:Fm)(h:Hz)(K:Fm->Hz->Prop):oz->Prop
 | .box ty k x=>match zH m x with
  |some v=>match v.bare with
   |(v,s)=>bif Em k [v]&&v.kF h&&AA k then s.vc none (K (iJ d (.ptr n 0 0) m) ((n,some (.box ty k v))::h)) else False
  |none=>False
 | .al ty k z=>bif z.kd==k&&z.kF h.ay&&z.free&&AA k then K (iJ d (.ptr n 0 0) m) ((n,some (.box ty k (BN z)))::h) else False
 | .make ty k bytes z x y=>match zH m x,zH m y with
  |some (.int a),some (.int b)=>bif z.kd==k&&z.kF h.ay&&z.free&&AA k then
    (match (bif isZero (.int a) then some .nil else ZA a.toNat z) with
    |some r=>VC (0<=a/\a<=b/\b*bytes<=140737488355328/\b<=1152921504606846976) (K (iJ d (.own n) m) ((n,some (.row ty k r []))::h))
    |none=>VC (0<=a/\a<=b/\b*bytes<=140737488355328/\b<=1152921504606846976) (K (iJ d (.own n) m) ((n,some (.gen ty k (List.replicate a.toNat (BN z))))::h))) else False
  |_,_=>False
 | .st k x v=>match zH m x,zH m v with
  |some (.ptr i j off),some v=>match v.bare with
   |(v,s)=>bif Em k [v]&&v.kF h then
    (match h.get i with
    |some (.box ty ko w)=>bif Nat.beq j 0 then
      (bif Nat.beq off 0&&Nat.beq ko k then s.vc none (K m ((i,some (.box ty ko v))::h))
      else bif !(Nat.beq ko 0)&&oM (bC ko) off k then(match setCells w off v with
       |some w'=>w'.force fun w'=>s.vc none (K m ((i,some (.box ty ko w'))::h))
       |none=>False) else False) else False
    |some (.row ty ko r [])=>bif Nat.beq off 0&&Nat.beq ko k then(match r.set j v with
      |some r'=>s.vc none (VC (r.rng j) (K m ((i,some (.row ty ko r' []))::h)))
      |none=>s.vc none (VC (r.rng j) (K m ((i,some (.gen ty ko (r.vs.set j v)))::h)))) else False
    |some (.gen ty ko y)=>bif Nat.beq off 0&&Nat.beq ko k then s.vc none (VC (j<y.length) (K m ((i,some (.gen ty ko (y.set j v)))::h))) else False
    |_=>False) else False
  |some x,some v=>(match x.bare with
   |(.pin i j off,s0)=>match v.bare with
    |(v,s)=>bif Em k [v]&&v.kF h&&Nat.beq off 0 then(s0.and s).vc none (Nj h i j k v fun h'=>K m h') else False
   |_=>False)
  |_,_=>False
 | .ld k x=>match zH m x with
  |some v=>(match v.bare with
   |(.ptr i j off,s)=>(match h.get i with
    |some (.gen _ ko y)=>bif Nat.beq off 0&&Nat.beq ko k then s.vc none (AtZ y j fun v=>v.seq fun v=>K (iJ d v m) h) else False
    |_=>False)
   |(.pin i j off,s)=>s.vc none (Oi h i fun ko r=>match ldR k j off ko r with
    |some (v,s')=>s'.vc none (v.seq fun v=>K (iJ d v m) h)
    |none=>False)
   |_=>False)
  |none=>False
 | .ia k x i=>match zH m x,zH m i with
  |some v,some w=>(match v.bare,w.bare with
   |(.inn o,s),(.int n,s')=>(s.and s').vc none (Oi h o fun ko r=>bif Nat.beq ko k then VC (r.rng n) (K (iJ d (.pin o n.toNat 0) m) h) else False)
   |_,_=>False)
  |_,_=>False
 | .len str x=>match zH m x with
  |some v=>(match v.bare with
   |(.inn o,s)=>s.vc none (Oi h o fun ko r=>bif !str&& !(Nat.beq ko fQ) then r.lenV.seq fun v=>K (iJ d v m) h else False)
   |_=>False)
  |none=>False
 | .app ty k bytes x y=>match zH m x,zH m y with
  |some x,some y=>match afD h k y with
   |some (r',x')=>(match x with
    | .row _ true .nil=>VC (kH bytes 0 (kQ r' x')) (K (iJ d (.own n) m) ((n,some (.row ty k r' x'))::h))
    | .row k' true r=>bif Nat.beq k' k then(match r.app r' with
     |some w=>adh (r.len=0\/0<kQ r' x') (kH bytes r.len (kQ r' x')) (K (iJ d (.own n) m) ((n,some (.row ty k w x'))::h)) (dr=false/\K (iJ d (.row k' true r) m) h)
     |none=>False) else False
    | .own i=>(match h.get i with
     |some (.row ty' ko r x)=>bif Nat.beq ko k&&Nat.beq ty' ty then(match afE r x r' x' with
      |some (w,z)=>VC (kH bytes (kQ r x) (kQ r' x')) (K (iJ d (.own n) m) ((n,some (.row ty k w z))::(i,none)::h))
      |none=>False) else False
     |some (.gen ty' ko y)=>bif Nat.beq ko k&&Nat.beq ty' ty then VC (kH bytes y.length (kQ r' x')) (K (iJ d (.own n) m) ((n,some (.gen ty k (y++(r'.vs++x'))))::(i,none)::h)) else False
     |_=>False)
    | .inn i=>Lu h i ty k fun r h'=>match r.app r' with
     |some w=>VC (kH bytes r.len (kQ r' x')) (K (iJ d (.own n) m) ((n,some (.row ty k w x'))::h'))
     |none=>False
    |_=>False)
   |none=>False
  |_,_=>False
 | .UD k z x=>match zH m x with
  |some (.pK i lo hi)=>match h.get i with
   |some (.row ty ko r [])=>bif Nat.beq ko k&&z.kd==k&&z.kF h.ay&&z.free then
     VC (lo<=hi/\hi=r.len) (match d with
      |none=>K m ((i,some (.row ty ko (r.take lo) (List.replicate (hi-lo) (BN z))))::h)
      |some _=>K (iJ d (.raw T.un) m) ((i,some (.row ty ko (r.take lo) (List.replicate (hi-lo) (BN z))))::h)) else False
   |_=>False
  |_=>False
 | .C9 ty k z nn ps=>match BO m (ps.map fun p=>p.2) with
  |some (vs,s)=>match aaI nn ps vs (List.replicate nn (BN z)) with
   |some l=>bif (z.kd==k)&&z.free&&Em k vs&&DZ h vs&&Nat.ble (nn*bC k) 16777216&&AA k then s.vc none (K (iJ d (.own n) m) ((n,some (.row ty k .nil l))::h)) else False
   |none=>False
  |none=>False
 | .Am x=>match zH m x with
  |some (.row _ _ r)=>ZF (r.len=0) (K (iJ d (.bool true) m) h) (K (iJ d (.bool false) m) h)
  |some (.own i)=>match h.get i with
   |some (.row _ ko r [])=>bif Nat.beq ko fQ then False else ZF (r.len=0) (K (iJ d (.bool true) m) h) (K (iJ d (.bool false) m) h)
   |_=>False
  |_=>False
 | .Zt ty=>K (iJ d (.own n) m) ((n,some (.map ty [] []))::h)
 | .mlk z x i=>match zH m x,zH m i with
  |some (.own o),some (.int k)=>match h.get o with
   |some (.map _ es [])=>agT (Jc k es) (fun l=>K (iJ d (.dU [.row 0 false (.bools l),.bool true]) m) h) (K (iJ d (.dU [BN z,.bool false]) m) h)
   |_=>False
  |_,_=>False
 | .Ue x i v=>match zH m x,zH m i,zH m v with
  |some (.own o),some (.int k),some v=>match v.bare with
   |(v,s)=>match h.get o with
    |some (.map ty es [])=>bif Em 0 [v]&&v.kF h then s.vc none (VC (Jc k es=none) (K m ((o,some (.map ty es [(k,v)]))::h))) else False
    |_=>False
  |_,_,_=>False
 |_=>False
def phZ:oz->V
 | .not _=>.bool false
 |_=>.int 0
def afF(P:Program)(dr:Bool)(nx n:Nat)(o:aI)(KK:Nat->Fm->Hz->Prop)(m:Fm)(h:Hz):Prop :=
 match Vg m o.g with
 |none=>False
 |some g=>bif F8 nx o m then
   (match o.op with
   | .call f xs=>(match BO m xs with
    |some (l,s)=>s.vc g (match g with
     |none=>EG dr o.fl (ah P false none f l h n (fun v h'=>v.seq fun v=>KK 0 (iJ o.d v m) h') (fun k v h'=>v.seq fun v=>KK k (iJ o.d v m) h')) (ah P true none f l h n (fun v h'=>v.seq fun v=>KK 0 (iJ o.d v m) h') (fun _ _ _=>False)) (ah P false none f l h n (fun v h'=>v.seq fun v=>KK 0 (iJ o.d v m) h') (fun _ _ _=>False))
     |some b=>EG dr o.fl (ah P false (some b) f l h n (fun v h'=>v.seq fun v=>KK 0 (iJ o.d (sV (some b) v) m) h') (fun _ _ _=>False)) (ah P true (some b) f l h n (fun v h'=>v.seq fun v=>KK 0 (iJ o.d (sV (some b) v) m) h') (fun _ _ _=>False)) (ah P false (some b) f l h n (fun v h'=>v.seq fun v=>KK 0 (iJ o.d (sV (some b) v) m) h') (fun _ _ _=>False)))
    |none=>False)
   | .nZ x xs=>(match zH m x,BO m xs with
    |some v,some (l,s)=>(match v.bare with
     |(.fn f cap,s0)=>(s0.and s).vc g (bif Nat.blt f 4096 then EG dr o.fl (ah P false g f (l++cap) h n (fun v h'=>v.seq fun v=>KK 0 (iJ o.d (sV g v) m) h') (fun _ _ _=>False)) (ah P true g f (l++cap) h n (fun v h'=>v.seq fun v=>KK 0 (iJ o.d (sV g v) m) h') (fun _ _ _=>False)) (ah P false g f (l++cap) h n (fun v h'=>v.seq fun v=>KK 0 (iJ o.d (sV g v) m) h') (fun _ _ _=>False)) else EG dr o.fl (ah P false g (f % 4096) (.agg cap::l) h n (fun v h'=>v.seq fun v=>KK 0 (iJ o.d (sV g v) m) h') (fun _ _ _=>False)) (ah P true g (f % 4096) (.agg cap::l) h n (fun v h'=>v.seq fun v=>KK 0 (iJ o.d (sV g v) m) h') (fun _ _ _=>False)) (ah P false g (f % 4096) (.agg cap::l) h n (fun v h'=>v.seq fun v=>KK 0 (iJ o.d (sV g v) m) h') (fun _ _ _=>False)))
     |_=>False)
    |_,_=>False)
   |op=>(match qz m h op with
    |some (v,s)=>s.vc g (v.seq fun v=>KK 0 (iJ o.d (sV g v) m) h)
    |none=>(match g with
     |none=>adi dr o.d n m h (KK 0) op
     |some b=>Fork b (adi dr o.d n m h (KK 0) op) (KK 0 (iJ o.d (.cnd false (phZ op)) m) h))))
   else False
def adZ(P:Program)(nx n:Nat)(o:aI)(KK:Nat->Fm->Hz->Prop)(m:Fm)(h:Hz):Prop :=
 match o.op,o.g with
 | .call f xs,none=>bif o.fl&&F8 nx o m then
   (match BO m xs with
   |some (l,s)=>s.vc none (ah P true none f l h n (fun v h'=>v.seq fun v=>KK 0 (iJ o.d v m) h') (fun _ v h'=>v.seq fun v=>KK 0 (iJ o.d v m) h'))
   |none=>False)
   else False
 |_,_=>False
def arZ(P:Program)(nx n:Nat)(o:aI)(KK:Nat->Fm->Hz->Prop)(m:Fm)(h:Hz):Prop :=
 match o.op,o.g with
 | .call f xs,none=>bif o.fl&&F8 nx o m then
   (match BO m xs with
   |some (l,s)=>s.vc none (agS P f l h n (fun v h'=>v.seq fun v=>KK 0 (iJ o.d v m) h'))
   |none=>False)
   else False
 |_,_=>False
def opZ(P:Program)(dr:Bool)(nx n:Nat)(o:aI)(KK:Nat->Fm->Hz->Prop)(m:Fm)(h:Hz):Prop :=
 match o.ar with
 |true=>arZ P nx n o KK m h
 |false=>match o.ad with
 |true=>adZ P nx n o KK m h
 |false=>afF P dr nx n o KK m h
def RQ(P:Program)(dr:Bool)(ml:Nat)(nx:Nat)(K:Fm->Hz->Nat->Prop):List aI->Nat->Fm->Hz->Prop
 |[],_,m,h=>K m h (nx+ml)
 |o::r,i,m,h=>opZ P dr nx (nx+i) o (fun k=>RQ P dr ml (nx+k) K r (i+1)) m h
abbrev Qz:=rU->Fm->Hz->Nat->Prop
def Lift(N pn:Nat)(Q:Qz)(e:rU)(s:AS):Prop:= ∃ m h,s.fr.length=N/\Rp m s.fr/\s.hp=h.ay/\s.pin=pn/\Q e m h s.nx
structure aC(P:Program)(N pn:Nat)(b:fF)(Q:Qz)(m:Fm)(h:Hz)(nx:Nat):Prop where
 ok: ∀ fr,fr.length=N->Rp m fr->Aq (aw P b) (Lift N pn Q) ⟨fr,h.ay,nx,pn⟩
def az(P:Program)(N pn:Nat):fF->Qz->Fm->Hz->Nat->Prop
 | .skip,Q,m,h,nx=>Q .normal m h nx
 | .reg dr ops,Q,m,h,nx=>RQ P dr ops.length nx (fun m h nx=>Q .normal m h nx) ops 0 m h
 | .seq a b,Q,m,h,nx=>az P N pn a (fun e m h nx=>match e with| .normal=>az P N pn b Q m h nx|e=>Q e m h nx) m h nx
 | .cond c a b,Q,m,h,nx =>
  match zH m c with
  |some (.bool t)=>Fork t (az P N pn a Q m h nx) (az P N pn b Q m h nx)
  |_=>False
 | .blk id b,Q,m,h,nx=>az P N pn b (fun e m h nx=>match e with| .exit j=>(bif Nat.beq j id then Q .normal m h nx else Q (.exit j) m h nx)|e=>Q e m h nx) m h nx
 | .exit id,Q,m,h,nx=>Q (.exit id) m h nx
 | .ret,Q,m,h,nx=>Q .ret m h nx
 | .loop b,Q,m,h,nx=>aC P N pn b Q m h nx
def P8(N:Nat):List aI->Bool
 |[]=>true
 |o::r=>(match o.d with|some d=>Nat.blt d N|none=>true)&&P8 N r
def tu(N:Nat):fF->Bool
 | .skip=>true
 | .reg _ ops=>P8 N ops
 | .seq a b=>tu N a&&tu N b
 | .cond _ a b=>tu N a&&tu N b
 | .blk _ b=>tu N b
 | .exit _=>true
 | .ret=>true
 | .loop b=>tu N b
section
variable {P:Program} {m:Fm} {h:Hz}
theorem dh{i:Nat}{o:Option OV}:Hz.ay ((i,o)::h)=upd h.ay i (o.map OV.au):=by
 funext j
 simp only[Hz.ay,Hz.get,upd]
 by_cases e:j=i
 ·subst e; simp
 ·have:Nat.beq i j=false:=by
   cases hb:Nat.beq i j with
   |false=>rfl
   |true=>exact absurd (eY hb).symm e
  simp[this,e]
theorem Rp.put{fr:List T}(R:Rp m fr){d:Option Nat}{v:V}(hd: ∀ i,d=some i->i<fr.length){s:AS}(hs:s.fr=fr):Rp (iJ d v m) (s.put d v.aH).fr:=by
 subst hs
 cases d with
 |none=>exact R
 |some d =>
  intro i u hu
  simp only[iJ,Fm.get] at hu
  show(s.fr.set d v.aH)[i]? =_
  cases hb:Nat.beq d i with
  |true =>
   rw[hb] at hu; simp at hu; subst hu
   have:=eY hb; subst this
   rw[List.getElem?_set_self (hd d rfl)]
  |false =>
   rw[hb] at hu
   have hne:d≠i:=Nat.ne_of_beq_eq_false hb
   rw[List.getElem?_set_ne hne]
   exact R i u hu
theorem Wy{s:AS}{d:Option Nat}{t:T}:(s.put d t).fr.length=s.fr.length:=by cases d<;>simp[AS.put]
theorem kJ{g:Option Bool}{k:Prop}{s:Sd}(q:s.vc g k):((g=none\/g=some true)->s.holds)/\k:=by
 unfold Sd.vc at q
 split at q
 ·exact⟨fun _=>trivial,q⟩
 ·split at q
  ·obtain⟨a,b⟩:=q; exact⟨fun _=>a,b⟩
  ·obtain⟨a,b⟩:=q; exact⟨fun hg=>a (by rcases hg with e|e<;>cases e; rfl),b⟩
theorem Yl{s:AS}(R:Rp m s.fr){g:Option (Nat×Bool)}{g':Option Bool}(q:Vg m g=some g'):(gv g s=some true/\(g'=none\/g'=some true))\/(gv g s=some false/\g'=some false):=by
 unfold Vg at q
 split at q
 ·cases q; exact .inl ⟨rfl,.inl rfl⟩
 ·rename_i d w
  split at q
  ·rename_i b e
   cases q
   have hg:s.fr.getD d .any= .lit (.bool b):=R.getD e
   simp only[gv,hg]
   cases w<;>cases b<;>simp
  ·rename_i c b e
   cases q
   have hg:s.fr.getD d .any=bif c then .lit (.bool b) else T.un:=R.getD e
   cases c with
   |true=>simp only[gv,hg,cond_true]; cases w<;>cases b<;>simp
   |false=>simp only[gv,hg,cond_false]; simp
  ·cases q
theorem WA{s:AS}(R:Rp m s.fr){nx:Nat}: ∀ {xs:List X},ltX nx m xs=true->(xs.all fun x=>T.lt nx (s.ev x))=true:=by
 intro xs
 induction xs with
 |nil=>intro _; rfl
 |cons x r ih =>
  intro q
  simp only[ltX,Bool.and_eq_true] at q
  simp only[List.all_cons,Bool.and_eq_true]
  refine⟨?_,ih q.2⟩
  have:=q.1
  split at this
  ·rename_i v e; rw[R.ev e]; exact this
  ·cases this
theorem aaU{s:AS}(R:Rp m s.fr){i:Nat}: ∀ {xs:List X},adg i m xs=true->(xs.all fun x=>T.nid i (s.ev x))=true:=by
 intro xs
 induction xs with
 |nil=>intro _; rfl
 |cons x r ih =>
  intro q
  simp only[adg,Bool.and_eq_true] at q
  simp only[List.all_cons,Bool.and_eq_true]
  refine⟨?_,ih q.2⟩
  have:=q.1
  split at this
  ·rename_i v e; rw[R.ev e]; exact this
  ·cases this
theorem afG{s:AS}(R:Rp m s.fr){xs:List X}: ∀ {l:List Nat},neB m xs l=true->Hy s xs l=true:=by
 intro l
 induction l with
 |nil=>intro _; rfl
 |cons d r ih =>
  intro q
  simp only[neB,Bool.and_eq_true] at q
  simp only[Hy,Bool.and_eq_true]
  refine⟨?_,ih q.2⟩
  have:=q.1
  cases h1:Nat.blt d 1000000 with
  |true =>
   rw[h1,cond_true] at this
   rw[cond_true]
   split at this
   ·rename_i i j o e
    have hg:s.fr.getD d .any= .ptr i j o:=R.getD e
    simp only[AS.obj,hg]
    exact aaU R this
   ·cases this
  |false =>
   rw[h1,cond_false] at this
   rw[cond_false]
   cases h2:Nat.beq d 1000000 with
   |true=>rw[h2,cond_true] at this; rw[cond_true]; exact WA R this
   |false =>
    rw[h2,cond_false] at this
    rw[cond_false]
    cases xs with
    |nil=>cases this
    |cons x l =>
     simp only at this ⊢
     split at this
     ·rename_i v e; rw[R.ev e]; exact this
     ·cases this
theorem LC{s:AS}(R:Rp m s.fr){o:aI}(q:F8 s.nx o m=true):jo o s:=by
 unfold F8 at q
 simp only[Bool.and_eq_true,Bool.or_eq_true,Bool.not_eq_true'] at q
 refine⟨fun hf=>?_,afG R q.2⟩
 have h1:aaT s.nx m o.op=true:=by
  rcases q.1 with h|h
  ·rw[hf] at h; cases h
  ·exact h
 unfold aaT at h1
 split at h1
 ·rename_i k x v e
  rw[e]
  split at h1
  ·rename_i u hu; simp only; rw[R.ev hu]; exact h1
  ·cases h1
 ·rename_i e
  rw[e]
  split at h1
  ·rename_i u hu; simp only; rw[R.ev hu]; exact h1
  ·cases h1
 ·cases h1
 ·cases h1
 ·rename_i e; rw[e]
 ·rename_i e; rw[e]
 ·rename_i op h2 h3 h4 h5 h6 h7
  have:=WA R h1
  split
  ·rename_i e; exact absurd e (h2 _ _ _)
  ·rename_i e; exact absurd e (h3 _ _ _ _ _)
  ·rename_i e; exact absurd e (h4 _ _ _)
  ·rename_i e; exact absurd e (h5 _ _ _)
  ·rfl
  ·rfl
  ·exact this
def Kz(N pn nx:Nat)(K:Fm->Hz->Prop)(s:AS):Prop:= ∃ m h,s.fr.length=N/\Rp m s.fr/\s.hp=h.ay/\s.pin=pn/\s.nx=nx/\K m h
theorem P9{k:Nat}{v:V}(q:Em k [v]=true):v.aH.kd=k:=V.P6 (JO q v (by simp))
theorem adk{n:Nat}{z:T}{r:Rw}(q:ZA n z=some r):r.aU=List.replicate n z:=by
 unfold ZA at q
 split at q<;>cases q
 ·simp[Rw.aU]
 ·simp[Rw.aU]
 ·simp only[Rw.aU,List.map_replicate]; rw[aex]
theorem Rw.WB{j:Nat}{v:V}{r w:Rw}(q:r.set j v=some w):w.aU=r.aU.set j v.aH:=by
 unfold Rw.set at q
 split at q<;>first|(cases q; done)|(cases q; simp[Rw.aU,V.aH,Dat.aH,List.map_set])
theorem adl{k:Nat}{y:V}{r:Rw}{x:List V}(q:afD h k y=some (r,x)):UF h.ay k y.aH= .list (r.aU++V.aU x):=by
 unfold afD at q
 split at q
 ·rename_i k' f w
  obtain⟨g,q⟩:=aS q; cases q
  simp only[V.aH,UF,V.aU,List.append_nil]
  rcases Io g with rfl|e
  ·cases r.aU<;>simp
  ·rw[e]
 ·rename_i k' f l
  obtain⟨g,q⟩:=aS q; cases q
  have:=eY g; subst this
  simp only[V.aH,UF,Rw.aU,List.nil_append]
  cases hx:V.aU x<;>simp
 ·split at q
  ·rename_i o _ ty ko w z e
   obtain⟨g,q⟩:=aS q; cases q
   have:=eY g; subst this
   simp[V.aH,UF,aK e,OV.au]
  ·cases q
 ·cases q
theorem zl{r:Rw}{x:List V}:kQ r x=(r.aU++V.aU x).length:=by
 unfold kQ
 split
 ·simp[V.aU,Rw.eH]
 ·simp[dI,Rw.eH]
theorem adn{r r' w:Rw}{x x' z:List V}(q:afE r x r' x'=some (w,z)):w.aU++V.aU z=(r.aU++V.aU x)++(r'.aU++V.aU x'):=by
 unfold afE at q
 split at q
 ·split at q
  ·rename_i w' e; cases q; rw[Rw.JM e]; simp[V.aU]
  ·cases q
 ·cases q; simp[xB,Rw.aU]
 ·cases q
theorem afH{k:Int}: ∀ {es:List (Int×List Bool)},x8 k (es.map PX)=(Jc k es).map fun l=>.sl 0 false (l.map T.bool):=by
 intro es
 induction es with
 |nil=>rfl
 |cons e es ih =>
  obtain⟨m,l⟩:=e
  simp only[List.map_cons,PX,x8,T.int,Jc]
  cases k==m
  ·exact ih
  ·rfl
theorem agU{k:Int}{v:T}: ∀ {es:List (Int×List Bool)},Jc k es=none->Bo k v (es.map PX)=es.map PX++[.dU [.int k,v]]:=by
 intro es
 induction es with
 |nil=>intro _; rfl
 |cons e es ih =>
  obtain⟨m,l⟩:=e
  intro h
  simp only[Jc] at h
  cases hb:k==m with
  |true=>rw[hb] at h; cases h
  |false =>
   rw[hb] at h
   simp only[List.map_cons,PX,Bo,T.int,hb,cond_false,List.cons_append]
   rw[ih h]
theorem Oj{N pn n nx:Nat}{d:Option Nat}{op:oz}{K:Fm->Hz->Prop}{s:AS}{dr:Bool}(hl:s.fr.length=N)(hd: ∀ i,d=some i->i<N)(R:Rp m s.fr)(hh:s.hp=h.ay)(hp:s.pin=pn)(hn:s.nx=nx)(q:adi dr d n m h K op) :
  lY P dr n d op (Kz N pn nx K) s:=by
 have hd': ∀ i,d=some i->i<s.fr.length:=fun i e=>by rw[hl]; exact hd i e
 have fin: ∀ {v:V} {h':Hz},K (iJ d v m) h'->Kz N pn nx K {(s.put d v.aH) with hp:=h'.ay}:=fun {v h'} hk =>
  ⟨_,h',by show(s.put d v.aH).fr.length=N; rw[Wy,hl],R.put (v:=v) hd' rfl,rfl,by show(s.put d v.aH).pin=pn; cases d<;>exact hp,by show(s.put d v.aH).nx=nx; cases d<;>exact hn,hk⟩
 have ado: ∀ {op:oz} {v:V},bF op=true->Ok s op v->K (iJ d v m) h->lY P dr n d op (Kz N pn nx K) s:=fun {op v} hq ho hk=>by
  rw[bD hq]
  refine⟨ho.1,?_⟩
  rw[ho.2]
  have:=fin hk
  rw[<- hh] at this
  rw[show({(s.put d v.aH) with hp:=s.hp}:AS)=s.put d v.aH by cases d<;>rfl] at this
  exact this
 unfold adi at q
 split at q
 ·rename_i ty k x
  split at q
  ·rename_i v e
   split at q
   rename_i v' s' hb
   cases g:Em k [v']&&v'.kF h&&AA k with
   |false=>rw[g] at q; exact q.elim
   |true =>
    rw[g] at q
    simp only[Bool.and_eq_true] at g
    simp only[cond_true] at q
    obtain⟨hs,hk⟩:=kJ q
    have ev:s.ev x=v'.aH:=by rw[R.ev e]; exact dX hb (hs (.inl rfl))
    simp only[lY]
    rw[ev,P9 g.1.1,hh,V.rX g.1.2,g.2]
    refine⟨by simp,?_⟩
    have:=fin hk
    rw[dh] at this
    exact this
  ·exact q.elim
 ·rename_i ty k z
  cases g:z.kd==k&&z.kF h.ay&&z.free&&AA k with
  |false=>rw[g] at q; exact q.elim
  |true =>
   rw[g] at q
   simp only[lY]
   rw[hh,g]
   refine⟨rfl,?_⟩
   have:=fin q
   rw[dh] at this
   simp only[Option.map_some,OV.au,yw] at this
   exact this
 ·rename_i ty k bytes z x y
  split at q
  ·rename_i a b e1 e2
   cases g:z.kd==k&&z.kF h.ay&&z.free&&AA k with
   |false=>rw[g] at q; exact q.elim
   |true =>
    rw[g] at q
    simp only[cond_true] at q
    split at q
    ·rename_i r er
     obtain⟨c,hk⟩:=q
     simp only[lY]
     rw[R.ev e1,R.ev e2]
     simp only[V.aH]
     rw[hh,g]
     refine⟨rfl,c,?_⟩
     have:=fin hk
     rw[dh] at this
     simp only[Option.map_some,OV.au,V.aU,List.append_nil] at this
     have hr:r.aU=List.replicate a.toNat z:=by
      cases hz:isZero (.int a) with
      |false=>rw[hz] at er; exact adk er
      |true =>
       rw[hz] at er; cases er
       unfold isZero at hz
       split at hz
       ·rename_i e; cases e; rfl
       ·cases hz
     rw[hr] at this
     exact this
    ·obtain⟨c,hk⟩:=q
     simp only[lY]
     rw[R.ev e1,R.ev e2]
     simp only[V.aH]
     rw[hh,g]
     refine⟨rfl,c,?_⟩
     have:=fin hk
     rw[dh] at this
     simp only[Option.map_some,OV.au] at this
     rw[fD,List.map_replicate,yw] at this
     exact this
  ·exact q.elim
 ·rename_i k x v
  split at q
  ·rename_i i j off v0 e1 e2
   split at q
   rename_i v' s' hb
   cases g:Em k [v']&&v'.kF h with
   |false=>rw[g] at q; exact q.elim
   |true =>
    rw[g] at q
    simp only[Bool.and_eq_true] at g
    simp only[cond_true] at q
    have fin2: ∀ {h':Hz},K m h'->Kz N pn nx K {s with hp:=h'.ay}:=fun {h'} hk=>⟨m,h',hl,R,rfl,hp,hn,hk⟩
    have ex:s.ev x= .ptr i j off:=R.ev e1
    simp only[lY]
    rw[ex]
    simp only
    split at q
    ·rename_i ty ko w eo
     rw[hh,aK eo]
     simp only[OV.au]
     cases hj:Nat.beq j 0 with
     |false=>rw[hj] at q; exact q.elim
     |true =>
      have:=eY hj; subst this
      rw[hj] at q
      simp only[cond_true] at q
      cases hb2:(Nat.beq off 0&&Nat.beq ko k) with
      |true =>
       rw[hb2] at q
       simp only[cond_true] at q
       obtain⟨hs,hk⟩:=kJ q
       have ev:s.ev v=v'.aH:=by rw[R.ev e2]; exact dX hb (hs (.inl rfl))
       simp only[Bool.and_eq_true] at hb2
       have f1:=eY hb2.1; have f2:=eY hb2.2; subst f1; subst f2
       rw[ev,P9 g.1,V.rX g.2]
       refine⟨by simp,by simp,by simp,?_⟩
       have:=fin2 hk
       rw[dh] at this
       simp only[BEq.rfl,Bool.and_self,cond_true,List.set_cons_zero]
       exact this
      |false =>
       rw[hb2] at q
       simp only[cond_false] at q
       cases hc:(!(Nat.beq ko 0)&&oM (bC ko) off k) with
       |false=>rw[hc] at q; exact q.elim
       |true =>
        rw[hc] at q
        simp only[cond_true] at q
        split at q
        ·rename_i w' hw
         rw[V.force_eq] at q
         obtain⟨hs,hk⟩:=kJ q
         have ev:s.ev v=v'.aH:=by rw[R.ev e2]; exact dX hb (hs (.inl rfl))
         have hb':(off==0&&ko==k)=false:=by
          rw[Bool.and_eq_false_iff] at hb2 ⊢
          rcases hb2 with hb2|hb2
          ·left; simpa using Nat.ne_of_beq_eq_false hb2
          ·right; simpa using Nat.ne_of_beq_eq_false hb2
         simp only[Bool.and_eq_true] at hc
         rw[ev,P9 g.1,V.rX g.2]
         refine⟨by simp,by simp,?_,?_⟩
         ·simp only[hb',Bool.false_or,Bool.and_eq_true]; exact⟨aaO hc.1,hc.2⟩
         ·have:=fin2 hk
          rw[dh] at this
          simp only[hb',cond_false,List.set_cons_zero,List.getD_cons_zero]
          have ew:w.aH.splice off v'.aH=w'.aH:=by
           unfold setCells at hw
           split at hw
           ·rename_i l c f1 f2
            cases hw
            unfold T.splice
            rw[V.Ik f1,V.Ik f2]
            simp only[V.aH,xB,Lr,Ls,dI]
           ·cases hw
          rw[ew]
          exact this
        ·exact q.elim
    ·rename_i ty ko r eo
     rw[hh,aK eo]
     simp only[OV.au,V.aU,List.append_nil]
     cases hb2:(Nat.beq off 0&&Nat.beq ko k) with
     |false=>rw[hb2] at q; exact q.elim
     |true =>
      rw[hb2] at q
      simp only[cond_true] at q
      split at q
      ·rename_i r' hr
       obtain⟨hs,hk0⟩:=kJ q
       obtain⟨aaV,hk⟩:=hk0
       have ev:s.ev v=v'.aH:=by rw[R.ev e2]; exact dX hb (hs (.inl rfl))
       simp only[Bool.and_eq_true] at hb2
       have f1:=eY hb2.1; have f2:=eY hb2.2; subst f1; subst f2
       rw[Rw.zY] at aaV
       rw[ev,P9 g.1,V.rX g.2]
       refine⟨by simp,by rw[Rw.eH]; omega,by simp,?_⟩
       have:=fin2 hk
       rw[dh] at this
       simp only[Option.map_some,OV.au,V.aU,List.append_nil,Rw.WB hr] at this
       simp only[BEq.rfl,Bool.and_self,cond_true]
       exact this
      ·obtain⟨hs,hk0⟩:=kJ q
       obtain⟨aaV,hk⟩:=hk0
       have ev:s.ev v=v'.aH:=by rw[R.ev e2]; exact dX hb (hs (.inl rfl))
       simp only[Bool.and_eq_true] at hb2
       have f1:=eY hb2.1; have f2:=eY hb2.2; subst f1; subst f2
       rw[Rw.zY] at aaV
       rw[ev,P9 g.1,V.rX g.2]
       refine⟨by simp,by rw[Rw.eH]; omega,by simp,?_⟩
       have:=fin2 hk
       rw[dh] at this
       simp only[Option.map_some,OV.au] at this
       rw[fD,List.map_set,<- fD,Rw.aaL] at this
       simp only[BEq.rfl,Bool.and_self,cond_true]
       exact this
    ·rename_i ty ko y eo
     rw[hh,aK eo]
     simp only[OV.au]
     cases hb2:(Nat.beq off 0&&Nat.beq ko k) with
     |false=>rw[hb2] at q; exact q.elim
     |true =>
      rw[hb2] at q
      simp only[cond_true] at q
      obtain⟨hs,hk0⟩:=kJ q
      obtain⟨aaV,hk⟩:=hk0
      have ev:s.ev v=v'.aH:=by rw[R.ev e2]; exact dX hb (hs (.inl rfl))
      simp only[Bool.and_eq_true] at hb2
      have f1:=eY hb2.1; have f2:=eY hb2.2; subst f1; subst f2
      rw[ev,P9 g.1,V.rX g.2]
      refine⟨by simp,by rw[dI]; exact aaV,by simp,?_⟩
      have:=fin2 hk
      rw[dh] at this
      simp only[Option.map_some,OV.au] at this
      rw[fD,List.map_set,<- fD] at this
      simp only[BEq.rfl,Bool.and_self,cond_true]
      exact this
    ·exact q.elim
  ·rename_i x0 v0 _ e1 e2
   split at q
   ·rename_i i j off s0 hb0
    split at q
    rename_i v' s' hb
    cases g:Em k [v']&&v'.kF h&&Nat.beq off 0 with
    |false=>rw[g] at q; exact q.elim
    |true =>
     rw[g] at q
     simp only[Bool.and_eq_true] at g
     simp only[cond_true] at q
     obtain⟨hs,hk⟩:=kJ q
     have hs2:=Sd.lJ.1 (hs (.inl rfl))
     have ex:s.ev x= .ptr i j off:=by rw[R.ev e1,dX hb0 hs2.1]; rfl
     have ev:s.ev v=v'.aH:=by rw[R.ev e2]; exact dX hb hs2.2
     have f1:=eY g.2; subst f1
     obtain⟨ty,r,r',h',a1,a2,a3,a4,a5⟩:=hk.ok
     rw[Rw.zY] at a3
     simp only[lY]
     rw[ex]
     simp only
     rw[hh,aK a1]
     simp only[OV.au,V.aU,List.append_nil]
     rw[ev,P9 g.1.1,V.rX g.1.2]
     refine⟨by simp,by rw[Rw.eH]; omega,by simp,?_⟩
     simp only[BEq.rfl,Bool.and_self,cond_true]
     rw[<- Rw.WB a2]
     refine⟨m,h',hl,R,?_,hp,hn,a5⟩
     rw[a4]; simp only[OV.au,V.aU,List.append_nil]
   ·exact q.elim
  ·exact q.elim
 ·rename_i k x
  split at q
  ·rename_i v0 e1
   split at q
   ·rename_i i j off s0 hb0
    split at q
    ·rename_i ty ko y eo
     cases hb2:(Nat.beq off 0&&Nat.beq ko k) with
     |false=>rw[hb2] at q; exact q.elim
     |true =>
      rw[hb2] at q
      simp only[cond_true] at q
      obtain⟨hs,hk⟩:=kJ q
      have ex:s.ev x= .ptr i j off:=by rw[R.ev e1,dX hb0 (hs (.inl rfl))]; rfl
      simp only[Bool.and_eq_true] at hb2
      have f1:=eY hb2.1; have f2:=eY hb2.2; subst f1; subst f2
      obtain⟨v,hv,hk⟩:=hk.ok
      rw[V.seq_eq] at hk
      refine ado rfl ?_ hk
      have hj:j<y.length:=by
       rcases Nat.lt_or_ge j y.length with h|h
       ·exact h
       ·rw[List.getElem?_eq_none h] at hv; cases hv
      unfold Ok; simp only[qc,qt]; rw[ex]
      simp only[hh,aK eo,OV.au]
      simp only[BEq.rfl,Bool.and_self,Bool.true_or,cond_true,dI]
      exact⟨⟨hj,trivial⟩,yx hv⟩
    ·exact q.elim
   ·rename_i i j off s0 hb0
    obtain⟨hs,hk⟩:=kJ q
    have ex:s.ev x=(V.ptr i j off).aH:=by rw[R.ev e1,dX hb0 (hs (.inl rfl))]; rfl
    obtain⟨ty,ko,r,eo,hk⟩:=hk.ok
    split at hk
    ·rename_i v s' hq
     obtain⟨hs',hk⟩:=kJ hk
     rw[V.seq_eq] at hk
     exact ado rfl (Ve hh (u:=.ptr i j off) (by simp only[ldZ,eo]; exact hq) (hs' (.inl rfl)) ex) hk
    ·exact hk.elim
   ·exact q.elim
  ·exact q.elim
 ·rename_i k x i
  split at q
  ·rename_i v0 w0 e1 e2
   split at q
   ·rename_i o s0 n0 s1 hb0 hb1
    obtain⟨hs,hk⟩:=kJ q
    have hs2:=Sd.lJ.1 (hs (.inl rfl))
    have ex:s.ev x=(V.own o).aH:=by rw[R.ev e1,dX hb0 hs2.1]; rfl
    have ei:s.ev i=(V.int n0).aH:=by rw[R.ev e2,dX hb1 hs2.2]
    obtain⟨ty,ko,r,eo,hk⟩:=hk.ok
    cases hb2:Nat.beq ko k with
    |false=>rw[hb2] at hk; exact hk.elim
    |true =>
     rw[hb2] at hk
     simp only[cond_true] at hk
     obtain⟨hr,hk⟩:=hk
     have hok:Ok s (.ia k x i) (.ptr o n0.toNat 0):=aaP hh (u:=.own o) (v:=.int n0) (r:=.ptr o n0.toNat 0) (sd:=.yes (r.rng n0)) (by simp only[iaZ,eo,hb2,dM,cond_true]) hr ex ei
     exact ado (v:=.pin o n0.toNat 0) rfl ⟨hok.1,hok.2⟩ hk
   ·exact q.elim
  ·exact q.elim
 ·rename_i str x
  split at q
  ·rename_i v0 e1
   split at q
   ·rename_i o s0 hb0
    obtain⟨hs,hk⟩:=kJ q
    have ex:s.ev x=(V.own o).aH:=by rw[R.ev e1,dX hb0 (hs (.inl rfl))]; rfl
    obtain⟨ty,ko,r,eo,hk⟩:=hk.ok
    cases hb2:(!str&& !(Nat.beq ko fQ)) with
    |false=>rw[hb2] at hk; exact hk.elim
    |true =>
     rw[hb2] at hk
     simp only[cond_true] at hk
     rw[V.seq_eq] at hk
     exact ado rfl (Wu hh (u:=.own o) (r:=r.lenV) (sd:=.no) (by simp only[ac8,eo,hb2,dM,cond_true]) ex) hk
   ·exact q.elim
  ·exact q.elim
 ·rename_i ty k bytes x y
  split at q
  ·rename_i vx vy e1 e2
   split at q
   ·rename_i r' x' es
    simp only[lY]
    rw[R.ev e1,R.ev e2,hh,adl es]
    simp only
    split at q
    ·rename_i k'
     obtain⟨c,hk⟩:=q
     have e0:(V.row k' true Rw.nil).aH= .sl k' true []:=rfl
     rw[e0]
     unfold kH at c
     rw[zl] at c
     refine⟨.inr rfl,.inl (.inl rfl),by simpa using c.1,by simpa using c.2,?_⟩
     have:=fin hk
     rw[dh] at this
     exact this
    ·rename_i k' r hnn
     cases hb2:Nat.beq k' k with
     |false=>rw[hb2] at q; exact q.elim
     |true =>
      rw[hb2] at q
      have:=eY hb2; subst this
      simp only[cond_true] at q
      split at q
      ·rename_i w hw
       obtain⟨c1,c2,hk⟩:=q.ok
       simp only[V.aH]
       unfold kH at c2
       rw[zl] at c1 c2
       refine⟨.inl trivial,?_,by rw[Rw.eH]; exact c2.1,by rw[Rw.eH]; exact c2.2,?_⟩
       ·rcases c1 with (c|c)|⟨c,hk2⟩
        ·left; left; exact List.eq_nil_of_length_eq_zero (by rw[Rw.eH]; exact c)
        ·left; right; intro e; rw[e] at c; simp at c
        ·right
         refine⟨c,?_⟩
         have f1:=fin hk2
         rw[<- hh] at f1
         rw[show({(s.put d (V.row k' true r).aH) with hp:=s.hp}:AS)=s.put d (.sl k' true r.aU) by cases d<;>rfl] at f1
         exact f1
       ·have:=fin hk
        rw[dh] at this
        simp only[Option.map_some,OV.au,Rw.JM hw,List.append_assoc] at this
        exact this
      ·exact q.elim
    ·rename_i i
     split at q
     ·rename_i ty' ko r xx eo
      cases hb2:(Nat.beq ko k&&Nat.beq ty' ty) with
      |false=>rw[hb2] at q; exact q.elim
      |true =>
       rw[hb2] at q
       simp only[cond_true] at q
       simp only[Bool.and_eq_true] at hb2
       have f1:=eY hb2.1; have f2:=eY hb2.2; subst f1; subst f2
       split at q
       ·rename_i w z hw
        obtain⟨c,hk⟩:=q
        simp only[V.aH,aK eo,OV.au]
        unfold kH at c
        rw[zl,zl] at c
        refine⟨by simp,c.1,c.2,?_⟩
        have:=fin hk
        rw[dh,dh] at this
        simp only[Option.map_some,Option.map_none,OV.au,adn hw] at this
        exact this
       ·exact q.elim
     ·rename_i ty' ko y eo
      cases hb2:(Nat.beq ko k&&Nat.beq ty' ty) with
      |false=>rw[hb2] at q; exact q.elim
      |true =>
       rw[hb2] at q
       simp only[cond_true] at q
       simp only[Bool.and_eq_true] at hb2
       have f1:=eY hb2.1; have f2:=eY hb2.2; subst f1; subst f2
       obtain⟨c,hk⟩:=q
       simp only[V.aH,aK eo,OV.au]
       unfold kH at c
       rw[zl] at c
       refine⟨by simp,by rw[dI]; exact c.1,by rw[dI]; exact c.2,?_⟩
       have:=fin hk
       rw[dh,dh] at this
       simp only[Option.map_some,Option.map_none,OV.au,xB,Rw.aaL] at this
       exact this
     ·exact q.elim
    ·rename_i i
     obtain⟨r,h',a1,a2,hk⟩:=q.ok
     split at hk
     ·rename_i w hw
      obtain⟨c,hk⟩:=hk
      simp only[V.aH,aK a1,OV.au,V.aU,List.append_nil]
      unfold kH at c
      rw[zl] at c
      refine⟨by simp,by rw[Rw.eH]; exact c.1,by rw[Rw.eH]; exact c.2,?_⟩
      have:=fin hk
      rw[dh,a2] at this
      simp only[Option.map_some,OV.au,Rw.JM hw,List.append_assoc] at this
      exact this
     ·exact hk.elim
    ·exact q.elim
   ·exact q.elim
  ·exact q.elim
 ·rename_i k z x
  split at q
  ·rename_i i lo hi e
   split at q
   ·rename_i ty ko r eo
    cases g:(Nat.beq ko k&&z.kd==k&&z.kF h.ay&&z.free) with
    |false=>rw[g] at q; exact q.elim
    |true =>
     rw[g] at q
     simp only[cond_true] at q
     obtain⟨⟨c1,c2⟩,hk⟩:=q
     simp only[Bool.and_eq_true] at g
     obtain⟨⟨⟨g1,g2⟩,g3⟩,g4⟩:=g
     have f1:=eY g1; subst f1
     simp only[lY]
     rw[R.ev e]
     simp only[V.aH,hh,aK eo,OV.au]
     refine⟨by simp[g2,g3,g4],by simp[Rw.eH,c2,V.aU],?_⟩
     have el:(r.take lo).aU++V.aU (List.replicate (hi-lo) (BN z))=List.take lo (r.aU++V.aU [])++List.replicate (hi-lo) z++List.drop hi (r.aU++V.aU []):=by
      rw[Rw.F6,fD,List.map_replicate,yw]
      simp[V.aU,Rw.eH,c2]
     cases d with
     |none =>
      simp only at hk
      refine⟨_,_,hl,R,?_,hp,hn,hk⟩
      rw[dh]
      simp only[Option.map_some,OV.au,el]
     |some dd =>
      simp only at hk
      have:=fin hk
      rw[dh] at this
      simp only[Option.map_some,OV.au,el] at this
      exact this
   ·exact q.elim
  ·exact q.elim
 ·rename_i ty k z nn ps
  split at q
  ·rename_i vs s' hb
   split at q
   ·rename_i l hl
    cases g:((z.kd==k)&&z.free&&Em k vs&&DZ h vs&&Nat.ble (nn*bC k) 16777216&&AA k) with
    |false=>rw[g] at q; exact q.elim
    |true =>
     rw[g] at q
     simp only[cond_true] at q
     obtain⟨hs,hk⟩:=kJ q
     have he:=uM R hb (hs (.inl rfl))
     have he':(ps.map fun p=>s.ev p.2)=V.aU vs:=by rw[<- he]; simp
     simp only[Bool.and_eq_true] at g
     obtain⟨⟨⟨⟨⟨g1,g2⟩,g3⟩,g4⟩,g5⟩,g6⟩:=g
     obtain⟨i1,i2⟩:=Wv hl he' g3
     have e:V.aU (List.replicate nn (BN z))=List.replicate nn z:=by rw[fD,List.map_replicate,yw]
     rw[e] at i2
     simp only[lY]
     rw[i1,i2,he',hh,Il g4,g1,g2,g5,g6]
     refine⟨rfl,?_⟩
     have:=fin hk
     rw[dh] at this
     simp only[Option.map_some,OV.au,Rw.aU,List.nil_append] at this
     exact this
   ·exact q.elim
  ·exact q.elim
 ·rename_i x
  split at q
  ·rename_i k' f r e
   obtain⟨q1,q2⟩:=q
   simp only[lY]
   rw[R.ev e]
   have f1:=fun hz=>fin (q1 hz)
   have f2:=fin q2
   rw[<- hh] at f1 f2
   refine⟨fun hl=>?_,?_⟩
   ·have:=f1 (by rw[<- Rw.eH]; exact congrArg List.length hl)
    rw[show({(s.put d (V.bool true).aH) with hp:=s.hp}:AS)=s.put d (.lit (.bool true)) by cases d<;>rfl] at this
    exact this
   ·rw[show({(s.put d (V.bool false).aH) with hp:=s.hp}:AS)=s.put d (.lit (.bool false)) by cases d<;>rfl] at f2
    exact f2
  ·rename_i i e
   split at q
   ·rename_i ty ko r eo
    cases hb:Nat.beq ko fQ with
    |true=>rw[hb] at q; exact q.elim
    |false =>
     rw[hb] at q
     obtain⟨q1,q2⟩:=q
     simp only[lY]
     rw[R.ev e]
     have f1:=fun hz=>fin (q1 hz)
     have f2:=fin q2
     rw[<- hh] at f1 f2
     simp only[V.aH,hh,aK eo,OV.au]
     refine⟨fun hl=>?_,?_,Nat.ne_of_beq_eq_false hb⟩
     ·have:=f1 (by rw[<- Rw.eH]; simpa [V.aU] using congrArg List.length hl)
      rw[show({(s.put d (V.bool true).aH) with hp:=s.hp}:AS)=s.put d (.lit (.bool true)) by cases d<;>rfl] at this
      exact this
     ·rw[show({(s.put d (V.bool false).aH) with hp:=s.hp}:AS)=s.put d (.lit (.bool false)) by cases d<;>rfl] at f2
      exact f2
   ·exact q.elim
  ·exact q.elim
 ·rename_i ty
  simp only[lY]
  have:=fin q
  rw[dh] at this
  rw[hh]
  exact this
 ·rename_i z x i
  split at q
  ·rename_i o k e1 e2
   split at q
   ·rename_i ty es eo
    obtain⟨q1,q2⟩:=q
    rw[bD rfl]
    simp only[qc,qt]
    rw[R.ev e1,R.ev e2]
    simp only[V.aH,T.int,hh,aK eo,OV.au,List.map_nil,List.append_nil,afH]
    refine⟨trivial,?_⟩
    cases hg:Jc k es with
    |some l =>
     have f1:=fin (q1 l hg)
     rw[<- hh] at f1
     rw[show({(s.put d (V.dU [.row 0 false (.bools l),.bool true]).aH) with hp:=s.hp}:AS)=s.put d (.dU [.sl 0 false (l.map T.bool),.lit (.bool true)]) by cases d<;>rfl] at f1
     exact f1
    |none =>
     have f2:=fin (q2 hg)
     rw[<- hh] at f2
     rw[show({(s.put d (V.dU [BN z,.bool false]).aH) with hp:=s.hp}:AS)=s.put d (.dU [(BN z).aH,.lit (.bool false)]) by cases d<;>rfl,yw] at f2
     exact f2
   ·exact q.elim
  ·exact q.elim
 ·rename_i x i v
  split at q
  ·rename_i o k w e1 e2 e3
   split at q
   rename_i v' s' hb
   split at q
   ·rename_i ty es eo
    cases g:Em 0 [v']&&v'.kF h with
    |false=>rw[g] at q; exact q.elim
    |true =>
     rw[g] at q
     simp only[Bool.and_eq_true] at g
     simp only[cond_true] at q
     obtain⟨hs,c,hk⟩:=kJ q
     have ev:s.ev v=v'.aH:=by rw[R.ev e3]; exact dX hb (hs (.inl rfl))
     have hkd:=P9 g.1
     have hst:=V.rX g.2
     simp only[lY]
     rw[R.ev e1,R.ev e2,ev]
     simp only[V.aH,T.int,hh,aK eo,OV.au,List.map_nil,List.append_nil]
     refine⟨trivial,?_,?_⟩
     ·rw[hkd]
      have:v'.aH.yU h.ay=true:=by
       revert hst hkd
       cases v'.aH<;>simp[T.kF,T.kd]
      rw[this]; rfl
     ·have hK:Kz N pn nx K {s with hp:=Hz.ay ((o,some (.map ty es [(k,v')]))::h)}:=⟨m,_,hl,R,rfl,hp,hn,hk⟩
      rw[dh] at hK
      have:=agU (v:=v'.aH) c
      simp only[T.int] at this
      rw[this]
      exact hK
   ·exact q.elim
  ·exact q.elim
 ·exact q.elim
end
section
variable {P:Program} {m:Fm} {h:Hz}
theorem Kz.put{N pn nx:Nat}{K:Fm->Hz->Prop}{s:AS}{d:Option Nat}{v:V}{t:T}{h':Hz}(hl:s.fr.length=N)(hd: ∀ i,d=some i->i<N)(R:Rp m s.fr)(hp:s.pin=pn)(hn:s.nx=nx)(ht:t=v.aH)(hk:K (iJ d v m) h') :
  Kz N pn nx K {(s.put d t) with hp:=h'.ay}:=by
 subst ht
 exact⟨_,h',by show(s.put d v.aH).fr.length=N; rw[Wy,hl],R.put (v:=v) (fun i e=>by rw[hl]; exact hd i e) rfl,rfl,by show(s.put d v.aH).pin=pn; cases d<;>exact hp,by show(s.put d v.aH).nx=nx; cases d<;>exact hn,hk⟩
theorem LD{N pn nx n:Nat}{K:Fm->Hz->Prop}{KW:Nat->Fm->Hz->Prop}{s:AS}{d:Option Nat}{dr:Bool}{g:Option Bool}{f:FuncId}{l:List V}(hl:s.fr.length=N)(hd: ∀ i,d=some i->i<N)(R:Rp m s.fr)(hh:s.hp=h.ay)(hp:s.pin=pn)(hn:s.nx=nx)
  (hg:g=none\/g=some true) (q:ah P dr g f l h n (fun v h'=>v.seq fun v=>K (iJ d (sV g v) m) h') (fun k v h'=>v.seq fun v=>KW k (iJ d v m) h')) (hq:dr=true-> ∀ (v:V) (h':Hz),¬ (v.seq fun v=>KW 0 (iJ d v m) h')) :
  nC P dr n d f (V.aU l) (Kz N pn nx K) s\/(dr=false/\ ∃ k,jF P f (V.aU l) s.hp n k fun t hp=>Kz N pn (nx+k) (KW k) {(s.put d t) with hp:=hp,nx:=s.nx+k}):=by
 unfold nC
 rw[hh]
 rcases q.ok with q|⟨rfl,rfl,k,q⟩|⟨_,hdr,_,⟨_,_,v,o,_,_,hk⟩,_⟩
 rotate_left
 rotate_left
 ·exact absurd hk (hq hdr _ _)
 rotate_left
 ·refine .inr ⟨rfl,k,q.mono ?_⟩
  rintro t hp' ⟨v,h',rfl,rfl,hk⟩
  rw[V.seq_eq] at hk
  obtain⟨m',h'',a1,a2,a3,a4,_,a6⟩:=Kz.put (K:=KW k) hl hd R hp hn rfl hk
  exact⟨m',h'',a1,a2,a3,a4,by show s.nx+k=nx+k; rw[hn],a6⟩
 left
 rcases hg with rfl|rfl
 ·refine aQ.mono q ?_
  rintro t hp' ⟨v,h',e1,e2,e3,hk⟩
  rw[V.seq_eq] at hk
  subst e2
  refine⟨fun e=>⟨by rw[(e3 e).1],(e3 e).2⟩,Kz.put (v:=v) hl hd R hp hn e1 hk⟩
 ·rcases q with ⟨v,c,hf,hk⟩|⟨hdr,c,_⟩
  rotate_left
  ·refine aQ.mono (c rfl) ?_
   rintro t hp' ⟨v,h',e1,e2,hk⟩
   rw[V.seq_eq] at hk
   subst e2
   exact⟨fun e=>(by rw[hdr] at e; cases e),Kz.put (v:=sV (some true) v) hl hd R hp hn (e1.trans (Ip v).symm) hk⟩
  rw[V.seq_eq] at hk
  refine aQ.mono (c rfl) ?_
  rintro t hp' ⟨e1,e2⟩
  subst e2
  refine⟨fun _=>⟨rfl,by rw[e1]; exact V.oL v hf⟩,Kz.put (v:=sV (some true) v) hl hd R hp hn (by rw[e1]; exact(Ip v).symm) hk⟩
theorem yA{N pn nx n:Nat}{K:Fm->Hz->Prop}{s:AS}{d:Option Nat}{dr:Bool}{g:Option Bool}{f:FuncId}{l:List V}(hl:s.fr.length=N)(hd: ∀ i,d=some i->i<N)(R:Rp m s.fr)(hh:s.hp=h.ay)(hp:s.pin=pn)(hn:s.nx=nx)
  (hg:g=none\/g=some true) (q:ah P dr g f l h n (fun v h'=>v.seq fun v=>K (iJ d (sV g v) m) h') (fun _ _ _=>False)):nC P dr n d f (V.aU l) (Kz N pn nx K) s:=by
 rcases LD (KW:=fun _ _ _=>False) hl hd R hh hp hn hg ⟨q.ok.imp id fun h=>h.imp (fun⟨a,b,k,c⟩=>⟨a,b,k,c.mono fun _ _ ⟨_,_,_,_,h⟩=>h.elim⟩) (fun⟨a,b,d,c⟩=>⟨a,b,d,c.mono fun _ _ ⟨_,_,_,_,h⟩=>h.elim⟩)⟩ (fun _ v h' hk=>by rw[V.seq_eq] at hk; exact hk) with h|⟨_,k,⟨t,hp',hk⟩,_⟩
 ·exact h
 ·obtain⟨_,_,_,_,_,_,_,hk⟩:=hk; exact hk.elim
theorem ah.guard{dr:Bool}{f:FuncId}{args:List V}{n:Nat}{K:V->Hz->Prop}{KW:Nat->V->Hz->Prop}(q:ah P dr (some false) f args h n K KW): ∃ v,K v h:=by
 rcases q.ok with (⟨v,_,_,k⟩|⟨_,_,k⟩)|⟨h1,_⟩|⟨h1,_⟩
 ·exact⟨v,k⟩
 ·exact⟨_,k rfl⟩
 ·cases h1
 ·cases h1
theorem Ym{dr fl:Bool}{a b c:Prop}:EG dr fl a b c↔(dr=false/\a)\/(dr=true/\bif fl then c else b):=by
 cases dr<;>cases fl<;>simp[EG]
theorem uh{dr fl:Bool}{C:Bool->Prop}(q:EG dr fl (C false) (C true) (C false)):C (dr&& !fl):=by
 cases dr<;>cases fl<;>exact q
theorem Vh{N pn nx n:Nat}{KK:Nat->Fm->Hz->Prop}{s:AS}{o:aI}{dr:Bool}(hl:s.fr.length=N)(hd: ∀ i,o.d=some i->i<N)(R:Rp m s.fr)(hh:s.hp=h.ay)(hp:s.pin=pn)(hn:s.nx=nx)
  (q:afF P dr nx n o KK m h):(gv o.g s=some true/\jo o s/\(lY P (o.dr dr) n o.d o.op (Kz N pn nx (KK 0)) s\/opW P dr n o.d o.op (fun s'=> ∃ k,Kz N pn (nx+k) (KK k) s') s))\/(gv o.g s=some false/\Kz N pn nx (KK 0) (s.put o.d T.un)):=by
 unfold afF at q
 split at q
 ·exact q.elim
 ·rename_i g hg
  cases hf:F8 nx o m with
  |false=>rw[hf] at q; exact q.elim
  |true =>
   rw[hf] at q
   simp only[cond_true] at q
   have hfl:jo o s:=LC R (by rw[hn]; exact hf)
   have un: ∀ {v:V} {h':Hz},h'=h->KK 0 (iJ o.d (sV (some false) v) m) h'->Kz N pn nx (KK 0) (s.put o.d T.un):=fun {v h'} e hk=>by
    subst e
    have:=Kz.put (s:=s) (v:=sV (some false) v) (t:=T.un) hl hd R hp hn (Vf v).symm hk
    rw[<- hh] at this
    have e2:({(s.put o.d T.un) with hp:=s.hp}:AS)=s.put o.d T.un:=by
     cases o.d<;>rfl
    rw[e2] at this
    exact this
   rcases Yl R hg with ⟨h1,h2⟩|⟨h1,rfl⟩
   ·refine .inl ⟨h1,hfl,?_⟩
    split at q
    ·rename_i f xs eo
     split at q
     ·rename_i l sd hb
      obtain⟨hs,q⟩:=kJ q
      have ed:o.dr dr=(dr&& !o.fl):=by unfold aI.dr; rw[eo]
      rw[ed,eo]
      show nC P (dr&& !o.fl) n o.d f (xs.map s.ev) _ s\/(dr=false/\ ∃ k,jF P f (xs.map s.ev) s.hp n k _)
      rw[uM R hb (hs h2)]
      split at q
      ·rw[Ym] at q
       rcases q with ⟨e,q⟩|q
       ·rw[e]
        exact(LD (g:=none) hl hd R hh hp hn h2 q (fun e=>by cases e)).imp id fun⟨a,k,b⟩=>⟨a,k,b.mono fun _ _ hk=>⟨k,hk⟩⟩
       ·obtain⟨hdt,q⟩:=q
        refine .inl (yA (g:=none) hl hd R hh hp hn h2 ?_)
        rw[hdt]
        cases hf2:o.fl<;>rw[hf2] at q<;>exact q
      ·rename_i bb _
       exact .inl (yA hl hd R hh hp hn h2 (uh (C:=fun dr=>ah P dr (some bb) f l h n (fun v h'=>v.seq fun v=>KK 0 (iJ o.d (sV (some bb) v) m) h') (fun _ _ _=>False)) q))
     ·exact q.elim
    ·rename_i x xs eo
     split at q
     ·rename_i v0 l sd e1 hb
      split at q
      ·rename_i f cap s0 hb0
       obtain⟨hs,q⟩:=kJ q
       have hs2:=Sd.lJ.1 (hs h2)
       have ed:o.dr dr=(dr&& !o.fl):=by unfold aI.dr; rw[eo]
       rw[ed,eo]
       left
       simp only[lY]
       rw[R.ev e1,dX hb0 hs2.1]
       simp only[V.aH]
       rw[uM R hb hs2.2,<- xB]
       cases hbl:Nat.blt f 4096 with
       |true=>rw[hbl] at q; exact yA hl hd R hh hp hn h2 (uh (C:=fun dr=>ah P dr g f (l++cap) h n (fun v h'=>v.seq fun v=>KK 0 (iJ o.d (sV g v) m) h') (fun _ _ _=>False)) q)
       |false=>rw[hbl] at q; exact yA (l:=.agg cap::l) hl hd R hh hp hn h2 (uh (C:=fun dr=>ah P dr g (f % 4096) (.agg cap::l) h n (fun v h'=>v.seq fun v=>KK 0 (iJ o.d (sV g v) m) h') (fun _ _ _=>False)) q)
      ·exact q.elim
     ·exact q.elim
    ·rename_i hn1 hn2
     have ed:o.dr dr=dr:=by
      unfold aI.dr
      split
      ·rename_i e; exact absurd e (hn1 _ _)
      ·rename_i e; exact absurd e (hn2 _ _)
      ·rfl
     rw[ed]
     left
     split at q
     ·rename_i v sd hq
      obtain⟨hs,hk⟩:=kJ q
      rw[V.seq_eq] at hk
      obtain⟨hqu,hc,ht⟩:=aaS R hh hq (hs h2)
      rw[bD hqu]
      refine⟨hc,?_⟩
      have:=Kz.put (s:=s) (v:=sV g v) (t:=qt s o.op) hl hd R hp hn (by rw[ht]; rcases h2 with rfl|rfl; rfl; exact(Ip v).symm) hk
      rw[<- hh] at this
      have e2:({(s.put o.d (qt s o.op)) with hp:=s.hp}:AS)=s.put o.d (qt s o.op):=by cases o.d<;>rfl
      rw[e2] at this
      exact this
     ·split at q
      ·exact Oj hl hd R hh hp hn q
      ·rename_i b _
       rcases h2 with h2|h2
       ·cases h2
       ·cases h2
        obtain⟨qa,_⟩:=q
        exact Oj hl hd R hh hp hn (qa rfl)
   ·refine .inr ⟨h1,?_⟩
    split at q
    ·split at q
     ·obtain⟨hs,q⟩:=kJ q
      obtain⟨v,hk⟩:=ah.guard (uh (C:=fun dr=>ah P dr (some false) _ _ h n (fun v h'=>v.seq fun v=>KK 0 (iJ o.d (sV (some false) v) m) h') (fun _ _ _=>False)) q)
      rw[V.seq_eq] at hk
      exact un rfl hk
     ·exact q.elim
    ·split at q
     ·rename_i v0 l sd e1 hb
      split at q
      ·rename_i f cap s0 hb0
       obtain⟨hs,q⟩:=kJ q
       cases hbl:Nat.blt f 4096 with
       |true =>
        rw[hbl] at q
        obtain⟨v,hk⟩:=ah.guard (uh (C:=fun dr=>ah P dr (some false) f (l++cap) h n (fun v h'=>v.seq fun v=>KK 0 (iJ o.d (sV (some false) v) m) h') (fun _ _ _=>False)) q)
        rw[V.seq_eq] at hk
        exact un rfl hk
       |false =>
        rw[hbl] at q
        obtain⟨v,hk⟩:=ah.guard (uh (C:=fun dr=>ah P dr (some false) (f % 4096) (.agg cap::l) h n (fun v h'=>v.seq fun v=>KK 0 (iJ o.d (sV (some false) v) m) h') (fun _ _ _=>False)) q)
        rw[V.seq_eq] at hk
        exact un rfl hk
      ·exact q.elim
     ·exact q.elim
    ·split at q
     ·obtain⟨hs,hk⟩:=kJ q
      rw[V.seq_eq] at hk
      exact un rfl hk
     ·obtain⟨_,qb⟩:=q
      have e3:V.cnd false (phZ o.op)=sV (some false) (phZ o.op):=by cases o.op<;>rfl
      exact un (v:=phZ o.op) rfl (by rw[<- e3]; exact qb rfl)
theorem Yn{N pn nx n:Nat}{KK:Nat->Fm->Hz->Prop}{s:AS}{o:aI}{dr:Bool}(hl:s.fr.length=N)(hd: ∀ i,o.d=some i->i<N)(R:Rp m s.fr)(hh:s.hp=h.ay)(hp:s.pin=pn)(hn:s.nx=nx)
  (q:opZ P dr nx n o KK m h):(gv o.g s=some true/\jo o s/\(opR P dr n o (Kz N pn nx (KK 0)) s\/opW P dr n o.d o.op (fun s'=> ∃ k,Kz N pn (nx+k) (KK k) s') s))\/(gv o.g s=some false/\Kz N pn nx (KK 0) (s.put o.d T.un)):=by
 unfold opZ at q
 cases har:o.ar with
 |true =>
  rw[har] at q
  simp only at q
  unfold arZ at q
  split at q
  ·rename_i f xs eo eg
   cases hf:(o.fl&&F8 nx o m) with
   |false=>rw[hf] at q; exact q.elim
   |true =>
    rw[hf] at q
    simp only[cond_true] at q
    rw[Bool.and_eq_true] at hf
    have hfl:jo o s:=LC R (by rw[hn]; exact hf.2)
    refine .inl ⟨by rw[eg]; rfl,hfl,.inl (.inr ⟨har,hf.1,?_⟩)⟩
    split at q
    ·rename_i l sd hb
     obtain⟨hs,q⟩:=kJ q
     obtain⟨v,ob,c1,c2,c3,hk⟩:=q.ok
     rw[eo]
     refine⟨v.aH,ob.map OV.au,c1,?_,?_,?_⟩
     ·intro o' ho'
      cases ob with
      |none=>cases ho'
      |some ob=>cases ho'; exact c2 _ rfl
     ·intro hp' he _
      rw[uM R hb (hs (.inl rfl))]
      exact c3 hp' (by rw[<- hh]; exact he)
     ·rw[V.seq_eq] at hk
      cases ob with
      |none =>
       show Kz N pn nx (KK 0) {(s.put o.d v.aH) with hp:=s.hp}
       rw[hh]
       exact Kz.put (v:=v) hl hd R hp hn rfl hk
      |some ob =>
       have e:jq s.hp n (some ob.au)=Hz.ay ((n,some ob)::h):=by rw[dh,hh]; rfl
       show Kz N pn nx (KK 0) {(s.put o.d v.aH) with hp:=jq s.hp n (some ob.au)}
       rw[e]
       exact Kz.put (v:=v) hl hd R hp hn rfl hk
    ·exact q.elim
  ·exact q.elim
 |false =>
 rw[har] at q
 simp only at q
 cases had:o.ad with
 |false =>
  rw[had] at q
  rcases Vh hl hd R hh hp hn q with ⟨h1,h2,h3⟩|h1
  ·exact .inl ⟨h1,h2,h3.imp (fun h=>.inl ⟨har,jI (fun s' _ _ h=>⟨fun e=>(by rw[had] at e; cases e),h⟩) h⟩) id⟩
  ·exact .inr h1
 |true =>
  rw[had] at q
  simp only at q
  unfold adZ at q
  split at q
  ·rename_i f xs eo eg
   cases hf:(o.fl&&F8 nx o m) with
   |false=>rw[hf] at q; exact q.elim
   |true =>
    rw[hf] at q
    simp only[cond_true] at q
    rw[Bool.and_eq_true] at hf
    have hfl:jo o s:=LC R (by rw[hn]; exact hf.2)
    refine .inl ⟨by rw[eg]; rfl,hfl,.inl (.inl ⟨har,?_⟩)⟩
    split at q
    ·rename_i l sd hb
     obtain⟨hs,q⟩:=kJ q
     have ed:o.dr dr=false:=by unfold aI.dr; rw[eo,hf.1]; cases dr<;>rfl
     rw[ed,eo]
     show aQ P f (xs.map s.ev) s.hp n _
     rw[uM R hb (hs (.inl rfl)),hh]
     have hx: ∀ {h':Hz} {s':AS},s'.hp=h'.ay->(h'=h\/ ∃ o,h'=(n,some o)::h/\h.get n=none)-> ∀ i ob,s.hp i=some ob->s'.hp i=some ob:=by
      intro h' s' e1 e2 i ob hi
      rw[e1]
      rw[hh] at hi
      rcases e2 with rfl|⟨o',rfl,hn0⟩
      ·exact hi
      ·rw[dh]
       have hne:i≠n:=by
        rintro rfl
        simp only[Hz.ay,hn0] at hi; cases hi
       simp only[upd,if_neg hne]; exact hi
     rcases q.ok with q|⟨_,e,_⟩|⟨_,_,hn0,q⟩
     ·refine aQ.mono q ?_
      rintro t hp' ⟨v,h',e1,e2,e3,hk⟩
      rw[V.seq_eq] at hk
      subst e2
      exact⟨(fun e=>by cases e),fun _=>hx rfl (.inl (e3 rfl).1),Kz.put (v:=v) hl hd R hp hn e1 hk⟩
     ·cases e
     ·refine aQ.mono q ?_
      rintro t hp' ⟨v,o',e1,e2,hk⟩
      rw[V.seq_eq] at hk
      subst e2
      exact⟨(fun e=>by cases e),fun _=>hx rfl (.inr ⟨o',rfl,hn0⟩),Kz.put (v:=v) hl hd R hp hn e1 hk⟩
    ·exact q.elim
  ·exact q.elim
theorem RU{N pn ml:Nat}{K:Fm->Hz->Nat->Prop}{dr:Bool}: ∀ {nx:Nat} {ops:List aI} {i:Nat} {m:Fm} {h:Hz} {s:AS},P8 N ops=true->s.fr.length=N->Rp m s.fr->s.hp=h.ay->s.pin=pn->s.nx=nx ->
  RQ P dr ml nx K ops i m h->tq P dr ml (fun s=> ∃ m h,s.fr.length=N/\Rp m s.fr/\s.hp=h.ay/\s.pin=pn/\K m h s.nx) ops i s:=by
 intro nx ops
 induction ops generalizing nx with
 |nil =>
  intro i m h s _ hl R hh hp hn q
  exact⟨m,h,hl,R,hh,hp,by show K m h (s.nx+ml); rw[hn]; exact q⟩
 |cons o r ih =>
  intro i m h s hd hl R hh hp hn q
  simp only[P8,Bool.and_eq_true] at hd
  have hd1: ∀ j,o.d=some j->j<N:=fun j e=>by
   have:=hd.1
   rw[e] at this
   simpa using this
  simp only[tq]
  rw[Et]
  have next: ∀ s',s'.nx=s.nx->s'.pin=s.pin->Kz N pn nx (RQ P dr ml nx K r (i+1)) s'->tq P dr ml (fun s=> ∃ m h,s.fr.length=N/\Rp m s.fr/\s.hp=h.ay/\s.pin=pn/\K m h s.nx) r (i+1) s':=by
   rintro s' _ _ ⟨m',h',a1,a2,a3,a4,a5,a6⟩
   exact ih hd.2 a1 a2 a3 a4 a5 a6
  have agV: ∀ s',(∃ k,Kz N pn (nx+k) (RQ P dr ml (nx+k) K r (i+1)) s')->tq P dr ml (fun s=> ∃ m h,s.fr.length=N/\Rp m s.fr/\s.hp=h.ay/\s.pin=pn/\K m h s.nx) r (i+1) s':=by
   rintro s' ⟨k,m',h',a1,a2,a3,a4,a5,a6⟩
   exact ih hd.2 a1 a2 a3 a4 a5 a6
  rcases Yn hl hd1 R hh hp hn q with ⟨h1,h2,h3⟩|⟨h1,h2⟩
  ·refine .inl ⟨h1,h2,?_⟩
   rw[hn]
   exact h3.imp (fun h=>h.imp (fun h=>⟨h.1,jI (fun s' a b c=>⟨c.1,next s' a b c.2⟩) h.2⟩) fun h=>⟨h.1,h.2.1,KU (fun s' a b c=>next s' a b c) h.2.2⟩) (RD agV)
  ·exact .inr ⟨h1,next _ (fB _ _ _) (gX _ _ _) h2⟩
theorem pY{N pn:Nat}: ∀ {c:fF} {Q:Qz} {m:Fm} {h:Hz} {s:AS},tu N c=true->s.fr.length=N->Rp m s.fr->s.hp=h.ay->s.pin=pn->az P N pn c Q m h s.nx->aw P c (Lift N pn Q) s:=by
 intro c
 induction c with
 |skip=>intro Q m h s _ hl R hh hp q; exact⟨m,h,hl,R,hh,hp,q⟩
 |reg dr ops =>
  intro Q m h s hd hl R hh hp q
  exact RU hd hl R hh hp rfl q
 |seq a b ia ib =>
  intro Q m h s hd hl R hh hp q
  simp only[tu,Bool.and_eq_true] at hd
  simp only[aw]
  refine mM ?_ (ia hd.1 hl R hh hp q)
  rintro e s' ⟨m',h',b1,b2,b3,b4,b5⟩
  cases e with
  |normal=>exact ib hd.2 b1 b2 b3 b4 b5
  |exit j=>exact⟨m',h',b1,b2,b3,b4,b5⟩
  |ret=>exact⟨m',h',b1,b2,b3,b4,b5⟩
 |cond c a b ia ib =>
  intro Q m h s hd hl R hh hp q
  simp only[tu,Bool.and_eq_true] at hd
  simp only[az] at q
  simp only[aw]
  split at q
  ·rename_i t e
   rw[R.ev e]
   obtain⟨q1,q2⟩:=q
   exact⟨fun e=>ia hd.1 hl R hh hp (q1 e),fun e=>ib hd.2 hl R hh hp (q2 e)⟩
  ·exact q.elim
 |blk id b ib =>
  intro Q m h s hd hl R hh hp q
  simp only[aw]
  refine mM ?_ (ib hd hl R hh hp q)
  rintro e s' ⟨m',h',b1,b2,b3,b4,b5⟩
  cases e with
  |normal=>exact⟨m',h',b1,b2,b3,b4,b5⟩
  |ret=>exact⟨m',h',b1,b2,b3,b4,b5⟩
  |exit j =>
   simp only at b5 ⊢
   by_cases e:j=id
   ·subst e; simp at b5 ⊢; exact⟨m',h',b1,b2,b3,b4,b5⟩
   ·have e1:Nat.beq j id=false:=by
     cases hb:Nat.beq j id with
     |false=>rfl
     |true=>exact absurd (eY hb) e
    have e2:(j==id)=false:=by simpa using e
    rw[e1] at b5; rw[e2]
    exact⟨m',h',b1,b2,b3,b4,b5⟩
 |exit i=>intro Q m h s _ hl R hh hp q; exact⟨m,h,hl,R,hh,hp,q⟩
 |ret=>intro Q m h s _ hl R hh hp q; exact⟨m,h,hl,R,hh,hp,q⟩
 |loop b ib =>
  intro Q m h s _ hl R hh hp q
  have:=q.ok s.fr hl R
  rw[<- hh,<- hp] at this
  simp only[aw]
  rw[hp] at this
  have e:(⟨s.fr,s.hp,s.nx,pn⟩:AS)=s:=by rw[<- hp]
  rw[e] at this
  exact this
end
end Go.Ab
