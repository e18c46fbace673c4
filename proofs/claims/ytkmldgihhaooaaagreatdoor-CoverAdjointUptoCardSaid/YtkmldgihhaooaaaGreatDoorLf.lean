/-
 The typed layer, part 1: typed values, rows, objects. Definitions alone.
-/
import Derived.Test.YtkmldgihhaooaaaGreatDoorLd
import Derived.Test.YtkmldgihhaooaaaGreatDoorLc
namespace Go.Ab
inductive Dat where
 |lin (x:Lin)
 |RF (x:zT)
 |rule (x:Rule)
 |iU (x:aP)
 |cnt (x:Cnt)
 |prop (x:Prop')
 |clause (x:Clause)
 |elem (x:Elem)
@[reducible] def adu(l:List Bool):T:=.sl 0 false (l.map T.bool)
@[reducible] def adv(l:List (List Int)):T:=.sl 0 false (l.map Go.Ab.ints)
inductive Rw where
 |ints (l:List Int)
 |bools (l:List Bool)
 |strs (l:List Str)
 |dV (l:List (List Int))
 |nC (l:List (List Bool))
 |nD (l:List (List (List Int)))
 |AV (l:List Lin)
 |qH (l:List zT)
 |rules (l:List Rule)
 |cnts (l:List Cnt)
 |clauses (l:List Clause)
 |elems (l:List Elem)
 |nil
inductive V where
 |int (n:Int)
 |bool (b:Bool)
 |u8 (n:Int)
 |str (s:Str)
 |dat (d:Dat)
 |agg (l:List V)
 |row (k:Nat) (full:Bool) (r:Rw)
 |Gv (k:Nat) (full:Bool) (l:List V)
 |ref (k:Nat) (v:V)
 |own (i:Nat)
 |inn (i:Nat)
 |pin (i j off:Nat)
 |ptr (i j off:Nat)
 |oH (i lo hi:Nat)
 |fn (f:FuncId) (cap:List V)
 |cO (l:List V)
 |cnd (b:Bool) (v:V)
 |raw (t:T)
def Dat.aF:Dat->T
 | .lin x=>Tv x
 | .RF x=>Qh x
 | .rule x=>JQ x
 | .iU x=>YT x
 | .cnt x=>YU x
 | .prop x=>aeW x
 | .clause x=>IE x
 | .elem x=>gG x
def Dat.kd:Dat->Nat
 | .lin _=>5
 | .RF _=>7
 | .rule _=>19
 | .iU _=>11
 | .cnt _=>3
 | .prop _=>7
 | .clause _=>4
 | .elem _=>3
def Rw.aW:Rw->List T
 | .ints l=>l.map T.int
 | .bools l=>l.map T.bool
 | .strs l=>l.map eS
 | .dV l=>l.map Go.Ab.ints
 | .nC l=>l.map adu
 | .nD l=>l.map adv
 | .AV l=>l.map Tv
 | .qH l=>l.map Qh
 | .rules l=>l.map JQ
 | .cnts l=>l.map YU
 | .clauses l=>l.map IE
 | .elems l=>l.map gG
 | .nil=>[]
mutual
def V.aF:V->T
 | .int n=>.int n
 | .bool b=>.bool b
 | .u8 n=>.lit (.int .u8 n)
 | .str s=>eS s
 | .dat d=>d.aF
 | .agg l=>.agg (V.aW l)
 | .row k f r=>.sl k f r.aW
 | .Gv k f l=>.sl k f (V.aW l)
 | .ref k v=>.ref k v.aF
 | .own i=>.own i
 | .inn i=>.own i
 | .pin i j off=>.ptr i j off
 | .ptr i j off=>.ptr i j off
 | .oH i lo hi=>.oH i lo hi
 | .fn f cap=>.fn f (V.aW cap)
 | .cO l=>.cO (V.aW l)
 | .cnd b v=>bif b then v.aF else T.un
 | .raw t=>t
def V.aW:List V->List T
 |[]=>[]
 |v::r=>v.aF::V.aW r
end
def Dat.cells:Dat->List V
 | .lin x=>[.int x.c,.int x.n,.int x.t,.int x.f]
 | .RF x=>[.int x.message,.int x.ER,.int x.bound.c,.int x.bound.n,.int x.bound.t,.int x.bound.f]
 | .rule x=>[.str x.name,.int x.kind,.int x.fr,.int x.to,.int x.dS,.int x.wX,.row 0 false (.ints x.response),.row 7 false (.qH x.guards),.row 0 false (.ints x.ex),.row 0 false (.ints x.all),.int x.read,.int x.write,.row 0 false (.ints x.send),.int x.pos,.row 0 false (.ints x.left),.row 0 false (.ints x.right),.row 0 false (.ints x.parent),.int x.direction]
 | .iU x=>[.str x.name,.int x.topology,.row 0 false (.strs x.states),.row 0 false (.strs x.messages),.row 0 false (.strs x.values),.int x.fault,.row 5 false (.AV x.bZ),.row 0 false (.ints x.initial),.row 0 false (.ints x.leader),.row 19 false (.rules x.rules)]
 | .cnt x=>[.row 0 false (.ints x.states),.int x.least]
 | .prop x=>[.str x.name,.int x.kind,.row 0 false (.ints x.start),.row 3 false (.cnts x.bad),.row 0 false (.ints x.adjacent),.row 0 false (.ints x.goal)]
 | .clause x=>[.row 0 false (.dV x.each),.row 0 false (.ints x.values),.row 0 false (.ints x.some)]
 | .elem x=>[.int x.value,.row 0 false (.ints x.counts)]
theorem Dat.Gw(d:Dat):d.aF= .agg (V.aW d.cells):=by cases d<;>rfl
theorem Dat.adw(d:Dat):d.aF.kd=d.kd:=by cases d<;>rfl
def Rw.len:Rw->Nat
 | .ints l=>l.length
 | .bools l=>l.length
 | .strs l=>l.length
 | .dV l=>l.length
 | .nC l=>l.length
 | .nD l=>l.length
 | .AV l=>l.length
 | .qH l=>l.length
 | .rules l=>l.length
 | .cnts l=>l.length
 | .clauses l=>l.length
 | .elems l=>l.length
 | .nil=>0
def Rw.lenV:Rw->V
 | .ints l=>.int l.length
 | .bools l=>.int l.length
 | .strs l=>.int l.length
 | .dV l=>.int l.length
 | .nC l=>.int l.length
 | .nD l=>.int l.length
 | .AV l=>.int l.length
 | .qH l=>.int l.length
 | .rules l=>.int l.length
 | .cnts l=>.int l.length
 | .clauses l=>.int l.length
 | .elems l=>.int l.length
 | .nil=>.int 0
def Rw.rng(n:Int):Rw->Prop
 | .ints l=>0<=n/\n<l.length
 | .bools l=>0<=n/\n<l.length
 | .strs l=>0<=n/\n<l.length
 | .dV l=>0<=n/\n<l.length
 | .nC l=>0<=n/\n<l.length
 | .nD l=>0<=n/\n<l.length
 | .AV l=>0<=n/\n<l.length
 | .qH l=>0<=n/\n<l.length
 | .rules l=>0<=n/\n<l.length
 | .cnts l=>0<=n/\n<l.length
 | .clauses l=>0<=n/\n<l.length
 | .elems l=>0<=n/\n<l.length
 | .nil=>False
def Rw.rP(n:Int):Rw->Prop
 | .ints l=>0<=n/\n<=l.length
 | .bools l=>0<=n/\n<=l.length
 | .strs l=>0<=n/\n<=l.length
 | .dV l=>0<=n/\n<=l.length
 | .nC l=>0<=n/\n<=l.length
 | .nD l=>0<=n/\n<=l.length
 | .AV l=>0<=n/\n<=l.length
 | .qH l=>0<=n/\n<=l.length
 | .rules l=>0<=n/\n<=l.length
 | .cnts l=>0<=n/\n<=l.length
 | .clauses l=>0<=n/\n<=l.length
 | .elems l=>0<=n/\n<=l.length
 | .nil=>n=0
def Rw.get(i:Nat):Rw->V
 | .ints l=>.int (l.getD i 0)
 | .bools l=>.bool (l.getD i false)
 | .strs l=>.str (l.getD i [])
 | .dV l=>.row 0 false (.ints (l.getD i []))
 | .nC l=>.row 0 false (.bools (l.getD i []))
 | .nD l=>.row 0 false (.dV (l.getD i []))
 | .AV l=>.dat (.lin (l.getD i default))
 | .qH l=>.dat (.RF (l.getD i default))
 | .rules l=>.dat (.rule (l.getD i default))
 | .cnts l=>.dat (.cnt (l.getD i default))
 | .clauses l=>.dat (.clause (l.getD i default))
 | .elems l=>.dat (.elem (l.getD i default))
 | .nil=>.raw .any
def Rw.take(i:Nat):Rw->Rw
 | .ints l=>.ints (l.take i)
 | .bools l=>.bools (l.take i)
 | .strs l=>.strs (l.take i)
 | .dV l=>.dV (l.take i)
 | .nC l=>.nC (l.take i)
 | .nD l=>.nD (l.take i)
 | .AV l=>.AV (l.take i)
 | .qH l=>.qH (l.take i)
 | .rules l=>.rules (l.take i)
 | .cnts l=>.cnts (l.take i)
 | .clauses l=>.clauses (l.take i)
 | .elems l=>.elems (l.take i)
 | .nil=>.nil
def Rw.drop(i:Nat):Rw->Rw
 | .ints l=>.ints (l.drop i)
 | .bools l=>.bools (l.drop i)
 | .strs l=>.strs (l.drop i)
 | .dV l=>.dV (l.drop i)
 | .nC l=>.nC (l.drop i)
 | .nD l=>.nD (l.drop i)
 | .AV l=>.AV (l.drop i)
 | .qH l=>.qH (l.drop i)
 | .rules l=>.rules (l.drop i)
 | .cnts l=>.cnts (l.drop i)
 | .clauses l=>.clauses (l.drop i)
 | .elems l=>.elems (l.drop i)
 | .nil=>.nil
def Rw.app:Rw->Rw->Option Rw
 |r,.nil=>some r
 | .nil,r=>some r
 | .ints a,.ints b=>some (.ints (a++b))
 | .bools a,.bools b=>some (.bools (a++b))
 | .strs a,.strs b=>some (.strs (a++b))
 | .dV a,.dV b=>some (.dV (a++b))
 | .nC a,.nC b=>some (.nC (a++b))
 | .nD a,.nD b=>some (.nD (a++b))
 | .AV a,.AV b=>some (.AV (a++b))
 | .qH a,.qH b=>some (.qH (a++b))
 | .rules a,.rules b=>some (.rules (a++b))
 | .cnts a,.cnts b=>some (.cnts (a++b))
 | .clauses a,.clauses b=>some (.clauses (a++b))
 | .elems a,.elems b=>some (.elems (a++b))
 |_,_=>none
def Rw.kd:Rw->Nat
 | .ints _=>0
 | .bools _=>0
 | .strs _=>0
 | .dV _=>0
 | .nC _=>0
 | .nD _=>0
 | .AV _=>5
 | .qH _=>7
 | .rules _=>19
 | .cnts _=>3
 | .clauses _=>4
 | .elems _=>3
 | .nil=>0
def V.one:V->Option Rw
 | .int n=>some (.ints [n])
 | .bool b=>some (.bools [b])
 | .str s=>some (.strs [s])
 | .row 0 false (.ints l)=>some (.dV [l])
 | .row 0 false (.bools l)=>some (.nC [l])
 | .row 0 false (.dV l)=>some (.nD [l])
 | .dat (.lin x)=>some (.AV [x])
 | .dat (.RF x)=>some (.qH [x])
 | .dat (.rule x)=>some (.rules [x])
 | .dat (.cnt x)=>some (.cnts [x])
 | .dat (.clause x)=>some (.clauses [x])
 | .dat (.elem x)=>some (.elems [x])
 | .agg [.int a,.row 0 false (.ints c)]=>some (.elems [⟨a,c⟩])
 | .agg [.row 0 false (.ints c),.int a]=>some (.cnts [⟨c,a⟩])
 | .agg [.row 0 false (.dV e),.row 0 false (.ints v),.row 0 false (.ints s)]=>some (.clauses [⟨e,v,s⟩])
 |_=>none
def Rw.XO:List V->Option Rw
 |[]=>some .nil
 |v::r=>match v.one,Rw.XO r with
  |some a,some b=>a.app b
  |_,_=>none
def Rw.vs:Rw->List V
 | .ints l=>l.map .int
 | .bools l=>l.map .bool
 | .strs l=>l.map .str
 | .dV l=>l.map fun c=>.row 0 false (.ints c)
 | .nC l=>l.map fun c=>.row 0 false (.bools c)
 | .nD l=>l.map fun c=>.row 0 false (.dV c)
 | .AV l=>l.map fun c=>.dat (.lin c)
 | .qH l=>l.map fun c=>.dat (.RF c)
 | .rules l=>l.map fun c=>.dat (.rule c)
 | .cnts l=>l.map fun c=>.dat (.cnt c)
 | .clauses l=>l.map fun c=>.dat (.clause c)
 | .elems l=>l.map fun c=>.dat (.elem c)
 | .nil=>[]
inductive OV where
 |row (ty k:Nat) (r:Rw) (x:List V)
 |box (ty k:Nat) (v:V)
 |map (ty:Nat) (es:List (Int×List Bool)) (x:List (Int×V))
 |gen (ty k:Nat) (x:List V)
def Oi(e:Int×List Bool):T:=.cO [.int e.1,.sl 0 false (e.2.map T.bool)]
def abh(e:Int×V):T:=.cO [.int e.1,e.2.aF]
def OV.aA:OV->Ob
 | .row ty k r x=>⟨ty,k,r.aW++V.aW x⟩
 | .box ty k v=>⟨ty,k,[v.aF]⟩
 | .map ty es x=>⟨ty,fO,es.map Oi++x.map abh⟩
 | .gen ty k x=>⟨ty,k,V.aW x⟩
abbrev Fm:=List (Nat×V)
def Fm.get(i:Nat):Fm->Option V
 |[]=>none
 |(j,v)::r=>bif Nat.beq j i then some v else Fm.get i r
abbrev Hz:=List (Nat×Option OV)
def Hz.get(i:Nat):Hz->Option OV
 |[]=>none
 |(j,o)::r=>bif Nat.beq j i then o else Hz.get i r
def Hz.au(h:Hz):Hp:=fun i=>(h.get i).map OV.aA
mutual
def D9:T->V
 | .lit (.int .i64 n)=>.int n
 | .lit (.int .u8 n)=>.u8 n
 | .lit (.bool b)=>.bool b
 | .lit (.string b)=>.str b.data.toList
 | .sl k f []=>.row k f .nil
 | .agg l=>.agg (XO l)
 | .fn f l=>.fn f (XO l)
 |t=>.raw t
def XO:List T->List V
 |[]=>[]
 |t::r=>D9 t::XO r
end
def V.kd:V->Option Nat
 | .dat d=>some d.kd
 | .agg l=>some (l.length+1)
 | .cnd _ _=>none
 | .raw _=>none
 |_=>some 0
def V.cells:V->Option (List V)
 | .dat d=>some d.cells
 | .agg l=>some l
 | .cnd _ _=>none
 | .raw _=>none
 |v=>some [v]
def V.jX(h:Hz):V->Bool
 | .own i=>(h.get i).isSome
 | .ptr i _ _=>(h.get i).isSome
 | .oH i _ _=>(h.get i).isSome
 | .cnd _ _=>false
 | .raw _=>false
 | .cO _=>false
 | .inn _=>false
 | .pin _ _ _=>false
 |_=>true
def V.part(off:Nat):Nat->V->Option V
 |0,.dat d=>d.cells[off]?
 |0,.agg l=>l[off]?
 |k+1,.dat (.RF x)=>bif (Nat.beq off 2)&&(Nat.beq k 4) then some (.dat (.lin x.bound)) else none
 |k+1,.agg l=>some (.agg ((l.drop off).take k))
 |_,_=>none
inductive VC(p k:Prop):Prop where
 |mk:p->k->VC p k
inductive Fork(b:Bool)(x y:Prop):Prop where
 |mk:(b=true->x)->(b=false->y)->Fork b x y
inductive Sd where
 |no
 |yes (p:Prop)
def Sd.holds:Sd->Prop
 | .no=>True
 | .yes p=>p
def Sd.and:Sd->Sd->Sd
 | .no,b=>b
 |a,.no=>a
 | .yes p,.yes q=>.yes (p/\q)
def Sd.imp(t:Bool)(b:Bool):Sd->Sd
 | .no=>.no
 | .yes p=>.yes (t=b->p)
def Sd.vc(g:Option Bool)(k:Prop):Sd->Prop
 | .no=>k
 | .yes p=>match g with
  |none=>VC p k
  |some b=>VC (b=true->p) k
def V.bare:V->V×Sd
 | .cnd c v=>(v,.yes (c=true))
 |v=>(v,.no)
mutual
def V.free:V->Bool
 | .own _=>false
 | .ptr _ _ _=>false
 | .oH _ _ _=>false
 | .inn _=>false
 | .pin _ _ _=>false
 | .cnd _ _=>false
 | .raw t=>t.free
 | .agg l=>V.bY l
 | .fn _ l=>V.bY l
 | .cO l=>V.bY l
 |_=>true
def V.bY:List V->Bool
 |[]=>true
 |v::r=>V.free v&&V.bY r
end
def zU(m:Fm):X->Option V
 | .t n=>m.get n
 | .c t=>some (D9 t)
def evL(m:Fm):List X->Option (List V)
 |[]=>some []
 |x::r=>match zU m x,evL m r with
  |some v,some l=>some (v::l)
  |_,_=>none
abbrev zV:=Option (V×Sd)
def MK(m:Fm)(x:X)(f:V->zV):zV :=
 match zU m x with
 |some v=>match v.bare with
  |(u,s)=>match f u with
   |some (r,s')=>some (r,s.and s')
   |none=>none
 |none=>none
def qz2(m:Fm)(x y:X)(f:V->V->zV):zV:=MK m x fun u=>MK m y fun v=>f u v
def okI(n:Int):Prop:= -9223372036854775808<=n/\n<9223372036854775808
def RX(a b:Int):Int:=a.fdiv (2 ^ min b.toNat 64)
theorem Ai(a:Int):RX a 1=a / 2:=by
 show Int.fdiv a 2=_
 rw[Int.fdiv_eq_ediv_of_nonneg _ (by decide)]
def adx(op:BinOp):V->V->zV
 | .int a,.int b=>match op with
  | .add=>some (.int (a+b),.yes (okI (a+b)))
  | .sub=>some (.int (a-b),.yes (okI (a-b)))
  | .mul=>some (.int (a*b),.yes (okI (a*b)))
  | .eql=>some (.bool (a==b),.no)
  | .neq=>some (.bool (a !=b),.no)
  | .lss=>some (.bool (decide (a<b)),.no)
  | .leq=>some (.bool (decide (a<=b)),.no)
  | .gtr=>some (.bool (decide (b<a)),.no)
  | .geq=>some (.bool (decide (b<=a)),.no)
  |_=>none
 | .u8 a,.u8 b=>match op with
  | .eql=>some (.bool (a==b),.no)
  | .neq=>some (.bool (a !=b),.no)
  | .lss=>some (.bool (decide (a<b)),.no)
  | .leq=>some (.bool (decide (a<=b)),.no)
  | .gtr=>some (.bool (decide (b<a)),.no)
  | .geq=>some (.bool (decide (b<=a)),.no)
  |_=>none
 | .str a,.str b=>match op with
  | .eql=>some (.bool (a==b),.no)
  | .neq=>some (.bool (!(a==b)),.no)
  | .add=>some (.str (a++b),.yes (a.length+b.length<=9223372036854775807))
  |_=>none
 | .raw (.lit (.int .u64 a)),.raw (.lit (.int .u64 b))=>match op with
  | .shr=>some (.raw (.lit (.int .u64 (RX a b))),.yes (0<=b))
  | .and=>some (.raw (.lit (.int .u64 (acX .u64 a b))),.no)
  | .rem=>some (.raw (.lit (.int .u64 (a.tmod b))),.yes (b≠0))
  | .eql=>some (.bool (a==b),.no)
  | .geq=>some (.bool (decide (b<=a)),.no)
  |_=>none
 |_,_=>none
def BN:X->Bool
 | .c (.lit (.bool true))=>true
 |_=>false
def yQ:X->Bool
 | .c (.lit (.bool false))=>true
 |_=>false
def acD(t:Bool)(xa xb:X):V->V->Option V
 | .bool x,.bool y=>bif BN xa then some (.bool (t||y)) else bif yQ xb then some (.bool (t&&x)) else some (.bool (bif t then x else y))
 | .int x,.int y=>some (.int (bif t then x else y))
 | .str x,.str y=>some (.str (bif t then x else y))
 |_,_=>none
def YW(t:Bool)(xa xb:X)(a b:V×Sd):zV :=
 match a,b with
 |(a,sa),(b,sb)=>match acD t xa xb a b with
  |some v=>some (v,(sa.imp t true).and (sb.imp t false))
  |none=>none
def dI{α:Type}(b:Bool)(x:Option α):Option α:=bif b then x else none
def V.TA(k:Nat):Option V->zV
 |some u=>some (.ref k u,.no)
 |none=>none
def V.IG:Option V->zV
 |some u=>some (u,.no)
 |none=>none
def faZ(h:Hz)(off k:Nat):V->zV
 | .ref kt v=>dI (!(Nat.beq kt 0)&&og (bn kt) off k) (V.TA k (v.part off k))
 | .ptr i j o=>dI (h.get i).isSome (some (.ptr i j (o+off),.no))
 |_=>none
def fvZ(off k:Nat)(v:V):zV :=
 match v.kd with
 |some kt=>dI (!(Nat.beq kt 0)&&og (bn kt) off k) (V.IG (v.part off k))
 |none=>none
def ady:List V->Nat->Option V
 |[],_=>none
 |v::_,0=>some v
 |_::r,n+1=>ady r n
def iaZ(h:Hz)(k:Nat):V->V->zV
 | .Gv k' _ l,.int n=>match ady l n.toNat with
  |some v=>dI (Nat.beq k' k) (some (.ref k v,.yes (0<=n)))
  |none=>none
 | .row k' _ r,.int n=>dI (Nat.beq k' k) (some (.ref k (r.get n.toNat),.yes (r.rng n)))
 | .own o,.int n=>match h.get o with
  |some (.row _ k' r [])=>dI (Nat.beq k' k) (some (.ptr o n.toNat 0,.yes (r.rng n)))
  |some (.gen _ k' x)=>dI (Nat.beq k' k) (some (.ptr o n.toNat 0,.yes (0<=n/\n<x.length)))
  |_=>none
 | .oH o lo hi,.int n=>match h.get o with
  |some (.row _ k' _ [])=>dI (Nat.beq k' k) (some (.ptr o (lo+n.toNat) 0,.yes (0<=n/\n<(hi-lo:Nat))))
  |_=>none
 |_,_=>none
def chZ:V->V->zV
 | .str s,.int n=>some (.u8 (s.getD n.toNat 0).toNat,.yes (0<=n/\n<s.length))
 | .str s,.u8 n=>some (.u8 (s.getD n.toNat 0).toNat,.yes (0<=n/\n<s.length))
 |_,_=>none
def ldB(k j off ko:Nat)(v:V):zV :=
 bif Nat.beq j 0 then(bif Nat.beq off 0&&Nat.beq ko k then some (v,.no) else dI (!(Nat.beq ko 0)&&og (bn ko) off k) (V.IG (v.part off k))) else none
def ldR(k j off ko:Nat)(r:Rw):zV :=
 bif Nat.beq off 0&&Nat.beq ko k then some (r.get j,.yes (r.rng j)) else
  match (r.get j).part off k with
  |some u=>dI (!(Nat.beq ko 0)&&og (bn ko) off k) (some (u,.yes (r.rng j)))
  |none=>none
def ldZ(h:Hz)(k:Nat):V->zV
 | .ref k' v=>dI (Nat.beq k' k&&Nat.blt 0 (bn k)) (some (v,.no))
 | .ptr i j off=>match h.get i with
  |some (.box _ ko v)=>ldB k j off ko v
  |some (.row _ ko r [])=>ldR k j off ko r
  |_=>none
 |_=>none
def ncZ(h:Hz):V->zV
 | .ref k v=>some (.ref k v,.no)
 | .ptr i j o=>dI (h.get i).isSome (some (.ptr i j o,.no))
 | .fn f l=>some (.fn f l,.no)
 |_=>none
def abj(h:Hz)(str:Bool):V->zV
 | .row _ _ r=>dI (!str) (some (r.lenV,.no))
 | .Gv _ _ l=>dI (!str) (some (.int l.length,.no))
 | .str s=>dI str (some (.int s.length,.no))
 | .own o=>match h.get o with
  |some (.row _ k r x)=>dI (!str&& !(Nat.beq k fO)) (match x with|[]=>some (r.lenV,.no)|x=>some (.int (r.len+x.length),.no))
  |some (.gen _ k x)=>dI (!str&& !(Nat.beq k fO)) (some (.int x.length,.no))
  |_=>none
 | .oH o lo hi=>dI (!str&&(h.get o).isSome) (some (.int (hi-lo:Nat),.no))
 |_=>none
def mxZ:V->V->zV
 | .int a,.int b=>some (.int (max a b),.no)
 |_,_=>none
def mnZ:V->V->zV
 | .int a,.int b=>some (.int (min a b),.no)
 |_,_=>none
def AX(m:Fm):List X->Option (List V×Sd)
 |[]=>some ([],.no)
 |x::r=>match zU m x,AX m r with
  |some v,some (l,s)=>match v.bare with|(u,s')=>some (u::l,s'.and s)
  |_,_=>none
def UR:List (Nat×Nat×X)->List V->List V->Option (List V)
 |[],[],z=>some z
 |(off,n,_)::ps,v::vs,z=>match v.cells with
  |some c=>dI (Nat.beq c.length n&&Nat.ble (off+n) z.length) (UR ps vs (z.take off++c++z.drop (off+n)))
  |none=>none
 |_,_,_=>none
def CU(h:Hz):List V->Bool
 |[]=>true
 |v::r=>v.jX h&&CU h r
def mkZ(m:Fm)(h:Hz)(z:List T)(ps:List (Nat×Nat×X)):zV :=
 match AX m (ps.map fun p=>p.2.2) with
 |some (vs,s)=>match UR ps vs (XO z) with
  |some l=>dI (CU h vs) (some (.agg l,s))
  |none=>none
 |none=>none
def Es(k:Nat):List V->Bool
 |[]=>true
 |v::r=>(match v.kd with|some k'=>Nat.beq k' k|none=>false)&&Es k r
def YX(n:Nat):List (Nat×X)->List V->List V->Option (List V)
 |[],[],z=>some z
 |(i,_)::ps,v::vs,z=>dI (Nat.blt i n) (YX n ps vs (z.set i v))
 |_,_,_=>none
def msZ(m:Fm)(h:Hz)(k:Nat)(z:T)(n:Nat)(ps:List (Nat×X)):zV :=
 match AX m (ps.map fun p=>p.2) with
 |some (vs,s)=>match YX n ps vs (List.replicate n (D9 z)) with
  |some l=>dI ((z.kd==k)&&z.free&&Es k vs&&CU h vs&&V.bY vs&&Nat.ble (n*bn k) 16777216&&Nat.blt 0 (bn k))
    (match Rw.XO l with
    |some r=>some (.row k true r,s)
    |none=>some (.Gv k true l,s))
  |none=>none
 |none=>none
def kOk(k k':Nat):Rw->Bool
 | .nil=>true
 |_=>Nat.beq k' k
def JV(m:Fm):Option X->Option (Option V×Sd)
 |none=>some (none,.no)
 |some x=>match zU m x with
  |some v=>match v.bare with|(u,s)=>some (some u,s)
  |none=>none
def YZ(k k':Nat)(f:Bool)(r:Rw):Option V->Option V->Option V->zV
 |none,none,none=>dI (kOk k k' r) (some (.row k f r,.no))
 |some (.int a),none,none=>dI (kOk k k' r) (some (.row k f (r.drop a.toNat),.yes (r.rP a)))
 |none,some (.int b),none=>dI (kOk k k' r) (some (.row k (f&&decide (b=r.len)) (r.take b.toNat),.yes (r.rP b)))
 |some (.int a),some (.int b),none=>dI (kOk k k' r) (some (.row k false ((r.take b.toNat).drop a.toNat),.yes (0<=a/\a<=b/\r.rP b)))
 |none,some (.int b),some (.int c)=>dI (kOk k k' r) (some (.row k (decide (b=c)) (r.take b.toNat),.yes (0<=b/\b<=c/\r.rP c)))
 |_,_,_=>none
def Y0(k i ko:Nat)(r:Rw):Option V->Option V->Option V->zV
 |some (.int a),none,none=>dI (Nat.beq ko k) (some (.oH i a.toNat r.len,.yes (r.rP a)))
 |none,some (.int b),none=>dI (Nat.beq ko k) (some (.oH i 0 b.toNat,.yes (r.rP b)))
 |some (.int a),some (.int b),none=>dI (Nat.beq ko k) (some (.oH i a.toNat b.toNat,.yes (0<=a/\a<=b/\r.rP b)))
 |_,_,_=>none
def TB(k i ko:Nat)(r:Rw)(xs:List V):Option V->Option V->Option V->zV
 |none,some (.int b),none=>dI (Nat.beq ko k) (some (.oH i 0 b.toNat,.yes (r.rP b)))
 |lo,hi,mx=>match xs with|[]=>Y0 k i ko r lo hi mx|_=>none
def slZ(h:Hz)(x:Bool)(k:Nat)(v:V)(lo hi mx:Option V):zV :=
 match v with
 | .row k' f r=>YZ k k' f r lo hi mx
 | .own i=>bif x then(match h.get i with
  |some (.row _ ko r xs)=>TB k i ko r xs lo hi mx
  |_=>none) else none
 |_=>none
def slX(m:Fm)(h:Hz)(b:Bool)(k:Nat)(x:X)(lo hi mx:Option X):zV :=
 MK m x fun v=>match JV m lo,JV m hi,JV m mx with
  |some (lo,s1),some (hi,s2),some (mx,s3)=>match slZ h b k v lo hi mx with
   |some (u,s)=>some (u,s1.and (s2.and (s3.and s)))
   |none=>none
  |_,_,_=>none
def ssZ(s:Str):Option V->Option V->zV
 |some (.int a),none=>some (.str (s.drop a.toNat),.yes (0<=a/\a<=s.length))
 |none,some (.int b)=>some (.str (s.take b.toNat),.yes (0<=b/\b<=s.length))
 |some (.int a),some (.int b)=>some (.str ((s.take b.toNat).drop a.toNat),.yes (0<=a/\a<=b/\b<=s.length))
 |_,_=>none
def ssX(m:Fm)(x:X)(lo hi:Option X):zV :=
 MK m x fun v=>match v,JV m lo,JV m hi with
  | .str s,some (lo,s1),some (hi,s2)=>match ssZ s lo hi with
   |some (u,s)=>some (u,s1.and (s2.and s))
   |none=>none
  |_,_,_=>none
def exZ(i:Nat):V->zV
 | .cO l=>match l[i]? with|some v=>some (v,.no)|none=>none
 |_=>none
def adz(ne:Bool)(n:Nat):V->V->zV
 | .dat (.lin x),.dat (.lin y)=>dI (Nat.beq n 4) (some (.bool (bif ne then !(x==y) else x==y),.no))
 | .dat (.RF x),.dat (.RF y)=>dI (Nat.beq n 6) (some (.bool (bif ne then !(x==y) else x==y),.no))
 |_,_=>none
def Hw(n:Int):List (Int×List Bool)->Option (List Bool)
 |[]=>none
 |(m,v)::r=>bif n==m then some v else Hw n r
def mfZ(m:Fm)(h:Hz)(f:FuncId)(cap:List X):zV :=
 match AX m cap with
 |some (l,s)=>dI (CU h l&&Es 0 l&&Nat.blt f 4096) (some (.fn f l,s))
 |none=>none
def mbZ(f:FuncId):V->zV
 | .agg l=>dI (Nat.blt f 4096) (some (.fn (f+4096) l,.no))
 | .dat d=>dI (Nat.blt f 4096) (some (.fn (f+4096) d.cells,.no))
 |_=>none
def adA:V->zV
 | .row _ true r=>some (r.lenV,.no)
 |_=>none
def saZ(n:Nat):V->zV
 | .ref k (.agg l)=>match Rw.XO l with
  |some r=>dI (Nat.beq k (n+1)&&Nat.beq l.length n&&Nat.blt 0 n) (some (.row 0 true r,.no))
  |none=>none
 |_=>none
def qz(m:Fm)(h:Hz):nS->zV
 | .mv x=>match zU m x with|some v=>some (v,.no)|none=>none
 | .pick c a b=>MK m c fun c=>match c,zU m a,zU m b with
  | .bool t,some va,some vb=>YW t a b va.bare vb.bare
  |_,_,_=>none
 | .bin op x y=>qz2 m x y (adx op)
 | .bb ne x y=>qz2 m x y fun x y=>match x,y with
  | .bool a,.bool b=>some (.bool (bif ne then !(a==b) else a==b),.no)
  |_,_=>none
 | .not x=>MK m x fun v=>match v with| .bool b=>some (.bool !b,.no)|_=>none
 | .conv .i64 x=>MK m x fun v=>match v with
  | .int n=>some (.int n,.yes (okI n))
  | .u8 n=>some (.int n,.yes (okI n))
  | .raw (.lit (.int .u64 n))=>some (.int n,.yes (okI n))
  |_=>none
 | .conv .u64 x=>MK m x fun v=>match v with
  | .int n=>some (.raw (.lit (.int .u64 n)),.yes (0<=n/\n<18446744073709551616))
  | .raw (.lit (.int .i64 n))=>some (.raw (.lit (.int .u64 (IntKind.u64.wrap n))),.no)
  |_=>none
 | .conv .u8 x=>MK m x fun v=>match v with
  | .raw (.lit (.int .u64 n))=>some (.u8 n,.yes (0<=n/\n<256))
  |_=>none
 | .fa off k x=>MK m x (faZ h off k)
 | .fv off k x=>MK m x (fvZ off k)
 | .ia k x i=>qz2 m x i (iaZ h k)
 | .ch x i=>qz2 m x i chZ
 | .ld k x=>MK m x (ldZ h k)
 | .nc x=>MK m x (ncZ h)
 | .len s x=>MK m x (abj h s)
 | .mx x y=>qz2 m x y mxZ
 | .mn x y=>qz2 m x y mnZ
 | .mk z ps=>mkZ m h z ps
 | .ms _ k z n ps=>msZ m h k z n ps
 | .sl k x lo hi mx=>slX m h false k x lo hi mx
 | .XL k x lo hi mx=>slX m h true k x lo hi mx
 | .ss x lo hi=>ssX m x lo hi
 | .ex x i=>MK m x (exZ i)
 | .mf f cap=>mfZ m h f cap
 | .eqs ne n x y=>qz2 m x y (adz ne n)
 | .NC x=>MK m x adA
 | .mb f x=>MK m x (mbZ f)
 | .sa n x=>MK m x (saZ n)
 |_=>none
theorem acE(b:ByteArray):eS b.data.toList= .lit (.string b):=by
 unfold eS bs; simp
mutual
theorem xJ:(t:T)->(D9 t).aF=t
 | .lit v=>by
  cases v with
  |int k n=>cases k<;>simp[D9,V.aF]
  |bool b=>simp[D9,V.aF]
  |string b=>simp only[D9,V.aF]; exact acE b
  |_=>simp[D9,V.aF]
 | .agg l=>by simp only[D9,V.aF]; rw[zx l]
 | .sl k f l=>by cases l<;>simp[D9,V.aF,Rw.aW]
 | .ref k t=>by simp[D9,V.aF]
 | .own i=>by simp[D9,V.aF]
 | .ptr i j k=>by simp[D9,V.aF]
 | .oH i j k=>by simp[D9,V.aF]
 | .fn f l=>by simp only[D9,V.aF]; rw[zx l]
 | .cO l=>by simp[D9,V.aF]
 | .any=>by simp[D9,V.aF]
theorem zx:(l:List T)->V.aW (XO l)=l
 |[]=>rfl
 |t::r=>by simp only[XO,V.aW]; rw[xJ t,zx r]
end
theorem iO(l:List V):V.aW l=l.map V.aF:=by
 induction l with
 |nil=>rfl
 |cons v r ih=>simp[V.aW,ih]
theorem dL(l:List V):(V.aW l).length=l.length:=by rw[iO]; simp
theorem wP(a b:List V):V.aW (a++b)=V.aW a++V.aW b:=by simp[iO]
theorem JW(a:List V)(n:Nat):V.aW (a.take n)=(V.aW a).take n:=by simp[iO]
theorem JX(a:List V)(n:Nat):V.aW (a.drop n)=(V.aW a).drop n:=by simp[iO]
def Rp(m:Fm)(fr:List T):Prop:= ∀ i v,m.get i=some v->fr[i]? =some v.aF
theorem Rp.getD{m:Fm}{fr:List T}(R:Rp m fr){i:Nat}{v:V}{d:T}(h:m.get i=some v):fr.getD i d=v.aF:=by
 rw[List.getD_eq_getElem?_getD,R i v h]; rfl
theorem Rp.ev{m:Fm}{s:AS}(R:Rp m s.fr){x:X}{v:V}(h:zU m x=some v):s.ev x=v.aF:=by
 cases x with
 |t n=>exact R.getD h
 |c t=>simp only[zU,Option.some.injEq] at h; subst h; exact(xJ t).symm
theorem dQ{v u:V}{s:Sd}(h:v.bare=(u,s))(hs:s.holds):v.aF=u.aF:=by
 unfold V.bare at h
 split at h
 ·cases h; simp only[Sd.holds] at hs; simp[V.aF,hs]
 ·cases h; rfl
theorem Sd.lD{a b:Sd}:(a.and b).holds↔a.holds/\b.holds:=by cases a<;>cases b<;>simp[Sd.and,Sd.holds]
theorem Sd.ML{t b:Bool}{s:Sd}:(s.imp t b).holds↔(t=b->s.holds):=by cases s<;>simp[Sd.imp,Sd.holds]
theorem jT{m:Fm}{s:AS}(R:Rp m s.fr){x:X}{f:V->zV}{r:V}{sd:Sd}(h:MK m x f=some (r,sd))(hs:sd.holds): ∃ u s',f u=some (r,s')/\s'.holds/\s.ev x=u.aF:=by
 unfold MK at h
 split at h
 ·rename_i v hv
  split at h
  rename_i u s0 hb
  split at h
  ·rename_i r' s' hf
   cases h
   rw[Sd.lD] at hs
   exact⟨u,s',hf,hs.2,by rw[R.ev hv,dQ hb hs.1]⟩
  ·cases h
 ·cases h
theorem zy{m:Fm}{s:AS}(R:Rp m s.fr){x y:X}{f:V->V->zV}{r:V}{sd:Sd}(h:qz2 m x y f=some (r,sd))(hs:sd.holds): ∃ u v s',f u v=some (r,s')/\s'.holds/\s.ev x=u.aF/\s.ev y=v.aF:=by
 obtain⟨u,s',h1,h2,h3⟩:=jT R h hs
 obtain⟨v,s'',h4,h5,h6⟩:=jT R h1 h2
 exact⟨u,v,s'',h4,h5,h3,h6⟩
theorem aU{α:Type}{b:Bool}{x:Option α}{y:α}(h:dI b x=some y):b=true/\x=some y:=by
 cases b<;>simp[dI] at h; exact⟨rfl,h⟩
theorem aeZ{n:Int}(h1:0<=n)(h2:n<18446744073709551616):IntKind.u64.wrap n=n:=by
 have e:IntKind.u64.wrap n=(if(false&&decide (n % 18446744073709551616>=9223372036854775808))=true then n % 18446744073709551616-18446744073709551616 else n % 18446744073709551616):=rfl
 rw[e]
 simp only[Bool.false_and,Bool.false_eq_true,if_false]
 omega
theorem adB{n:Int}(h1:0<=n)(h2:n<256):IntKind.u8.wrap n=n:=by
 have e:IntKind.u8.wrap n=(if(false&&decide (n % 256>=128))=true then n % 256-256 else n % 256):=rfl
 rw[e]
 simp only[Bool.false_and,Bool.false_eq_true,if_false]
 omega
theorem UU{n:Int}(h:okI n):IntKind.i64.wrap n=n:=wrap64 h.1 h.2
theorem Rw.dZ(r:Rw):r.aW.length=r.len:=by cases r<;>simp[Rw.aW,Rw.len]
theorem Rw.Oj(r:Rw):r.lenV= .int r.len:=by cases r<;>rfl
theorem Rw.zA{n:Int}{r:Rw}:r.rng n↔(0<=n/\n<r.len):=by cases r<;>simp[Rw.rng,Rw.len]<;>omega
theorem Rw.uq{n:Int}{r:Rw}:r.rP n↔(0<=n/\n<=r.len):=by cases r<;>simp[Rw.rP,Rw.len]<;>omega
theorem getD_map'{α:Type}{f:α->T}{l:List α}{i:Nat}{d:α}(h:i<l.length):(l.map f).getD i .any=f (l.getD i d):=by
 simp[List.getD_eq_getElem?_getD,h]
theorem Rw.Ol{r:Rw}{i:Nat}(h:i<r.len):r.aW.getD i .any=(r.get i).aF:=by
 cases r<;>simp only[Rw.len] at h<;>simp only[Rw.aW,Rw.get,V.aF,Dat.aF,Rw.aW]<;>first|exact getD_map' h|omega
theorem Rw.ET(r:Rw)(n:Nat):(r.take n).aW=r.aW.take n:=by cases r<;>simp[Rw.take,Rw.aW]
theorem Rw.Ql(r:Rw)(n:Nat):(r.drop n).aW=r.aW.drop n:=by cases r<;>simp[Rw.drop,Rw.aW]
theorem Rw.Y3(r:Rw):V.aW r.vs=r.aW:=by
 rw[iO]
 cases r<;>simp[Rw.vs,Rw.aW,V.aF,Dat.aF]
theorem Rw.II{a b c:Rw}(h:a.app b=some c):c.aW=a.aW++b.aW:=by
 unfold Rw.app at h
 split at h<;>first|(cases h; done)|(cases h; simp[Rw.aW])
theorem V.abk{v:V}{r:Rw}(h:v.one=some r):r.aW=[v.aF]:=by
 unfold V.one at h
 split at h<;>first|(cases h; done)|(cases h; simp[Rw.aW,V.aF,V.aW,Dat.aF,gG,YU,IE])
theorem Rw.zx: ∀ {l:List V} {r:Rw},Rw.XO l=some r->r.aW=V.aW l:=by
 intro l
 induction l with
 |nil=>intro r h; cases h; rfl
 |cons v l ih =>
  intro r h
  simp only[Rw.XO] at h
  split at h
  ·rename_i a b h1 h2
   rw[Rw.II h,V.abk h1,ih h2]; rfl
  ·cases h
theorem V.Om{v:V}{k:Nat}(h:v.kd=some k):v.aF.kd=k:=by
 cases v with
 |dat d=>cases h; exact Dat.adw d
 |_=>simp only[V.kd,Option.some.injEq,reduceCtorEq] at h<;>subst h<;>simp[V.aF,T.kd,eS,dL]
theorem V.Gx{v:V}{l:List V}(h:v.cells=some l):v.aF.cells=V.aW l:=by
 cases v<;>simp only[V.cells,Option.some.injEq,reduceCtorEq] at h<;>subst h<;>simp[V.aF,Dat.Gw,T.cells,eS,V.aW]
theorem Hz.yR{h:Hz}{i:Nat}:(h.au i).isSome=(h.get i).isSome:=by simp[Hz.au]
theorem V.qZ{h:Hz}{v:V}(hv:v.jX h=true):v.aF.jX h.au=true:=by
 cases v<;>simp only[V.jX,Bool.false_eq_true] at hv<;>simp[V.aF,T.jX,T.yF,eS,Value.oneCell',Hz.yR,hv]
 rename_i d
 cases d<;>rfl
theorem V.Y4{h:Hz}{v:V}(hv:v.jX h=true)(hk:v.kd=some 0):v.aF.yF h.au=true:=by
 cases v<;>simp only[V.jX,Bool.false_eq_true] at hv<;>simp only[V.kd,Option.some.injEq,Nat.succ_ne_zero] at hk<;>simp[V.aF,T.yF,eS,Value.oneCell',Hz.yR,hv]
 rename_i d
 cases d<;>cases hk
theorem Dat.free(d:Dat):d.aF.free=true:=by cases d<;>rfl
mutual
theorem V.nZ:(v:V)->v.free=true->v.aF.free=true
 | .int _,_=>by simp[V.aF,T.free]
 | .bool _,_=>by simp[V.aF,T.free]
 | .u8 _,_=>by simp[V.aF,T.free]
 | .str _,_=>by simp[V.aF,T.free,eS]
 | .dat d,_=>by simp only[V.aF]; exact d.free
 | .agg l,h=>by simp only[V.aF,T.free]; simp only[V.free] at h; exact V.iC l h
 | .row _ _ _,_=>by simp[V.aF,T.free]
 | .Gv _ _ _,_=>by simp[V.aF,T.free]
 | .ref _ _,_=>by simp[V.aF,T.free]
 | .own _,h=>by simp[V.free] at h
 | .inn _,h=>by simp[V.free] at h
 | .pin _ _ _,h=>by simp[V.free] at h
 | .ptr _ _ _,h=>by simp[V.free] at h
 | .oH _ _ _,h=>by simp[V.free] at h
 | .fn _ l,h=>by simp only[V.aF,T.free]; simp only[V.free] at h; exact V.iC l h
 | .cO l,h=>by simp only[V.aF,T.free]; simp only[V.free] at h; exact V.iC l h
 | .cnd _ _,h=>by simp[V.free] at h
 | .raw t,h=>by simp only[V.aF]; simpa only[V.free] using h
theorem V.iC:(l:List V)->V.bY l=true->T.bY (V.aW l)=true
 |[],_=>by simp[V.aW,T.bY]
 |v::r,h=>by
  simp only[V.bY,Bool.and_eq_true] at h
  simp only[V.aW,T.bY,Bool.and_eq_true]
  exact⟨V.nZ v h.1,V.iC r h.2⟩
end
theorem xK{l:List V}{i:Nat}{u:V}(h:l[i]? =some u):(V.aW l).getD i .any=u.aF:=by
 rw[iO,List.getD_eq_getElem?_getD,List.getElem?_map,h]; rfl
theorem V.EU{off k:Nat}{v u:V}(h:v.part off k=some u):v.aF.part off k=u.aF:=by
 unfold V.part at h
 split at h
 ·simp only[V.aF,Dat.Gw,T.part,T.cells]; exact xK h
 ·simp only[V.aF,T.part,T.cells]; exact xK h
 ·rename_i k x
  cases hb:(Nat.beq off 2)&&(Nat.beq k 4) with
  |false=>rw[hb] at h; cases h
  |true =>
   rw[hb] at h
   simp only[Bool.and_eq_true,Nat.beq_eq] at hb
   obtain⟨rfl,rfl⟩:=hb
   cases h; rfl
 ·cases h
  simp only[V.aF,T.part,T.cells,JW,JX]
 ·cases h
theorem eY{a b:Nat}(h:Nat.beq a b=true):a=b:=Nat.eq_of_beq_eq_true h
section
variable {m:Fm} {h:Hz} {s:AS}
def Ok(s:AS)(op:nS)(v:V):Prop:=qc s op/\qt s op=v.aF
theorem abl{op:BinOp}{x y:X}{u v r:V}{sd:Sd}(q:adx op u v=some (r,sd))(hs:sd.holds)(h1:s.ev x=u.aF)(h2:s.ev y=v.aF):Ok s (.bin op x y) r:=by
 unfold Ok; simp only[qc,qt]; rw[h1,h2]
 unfold adx at q
 split at q
 ·rename_i a b
  split at q<;>first|(cases q; done)|(cases q; simp only[Sd.holds] at hs; simp[V.aF,BZ,kEq,UU,hs])
 ·split at q<;>first|(cases q; done)|(cases q; simp[V.aF,BZ,kEq])
 ·split at q
  ·cases q; simp[V.aF,BZ,eS,BM]
  ·cases q; simp[V.aF,BZ,eS,BM]
  ·rename_i a b _
   cases q
   simp only[Sd.holds] at hs
   have hsz:(((bs a).size+(bs b).size:Nat):Int)<=9223372036854775807:=by
    have e1:(bs a).size=a.length:=by simp[bs,ByteArray.size]
    have e2:(bs b).size=b.length:=by simp[bs,ByteArray.size]
    rw[e1,e2]; exact Int.ofNat_le.2 hs
   have hap:bs a++bs b=bs (a++b):=by apply ByteArray.ext; simp[bs]
   have hsz2:((bs a).size:Int)+(bs b).size<=9223372036854775807:=by omega
   simp[V.aF,BZ,eS,hsz2,hap]
  ·cases q
 ·split at q
  ·cases q
   simp only[Sd.holds] at hs
   refine⟨?_,?_⟩
   ·simp only[V.aF,BZ,hs,decide_true,cond_true,Option.isSome]
   ·simp only[V.aF,BZ,hs,decide_true,cond_true]; rfl
  ·cases q; simp[V.aF,BZ,kEq]
  ·cases q
   simp only[Sd.holds] at hs
   simp[V.aF,BZ,kEq,hs]
  ·cases q; simp[V.aF,BZ,kEq]
  ·cases q; simp[V.aF,BZ,kEq]
  ·cases q
 ·cases q
theorem TD{x:X}(hx:BN x=true):x= .c (.lit (.bool true)):=by
 unfold BN at hx
 split at hx
 ·rfl
 ·cases hx
theorem Qm{x:X}(hx:yQ x=true):x= .c (.lit (.bool false)):=by
 unfold yQ at hx
 split at hx
 ·rfl
 ·cases hx
theorem Y5{c xa xb:X}{t:Bool}{va vb r:V}{sd:Sd}(R:Rp m s.fr)(ha:zU m xa=some va)(hb:zU m xb=some vb)(q:YW t xa xb va.bare vb.bare=some (r,sd))(hs:sd.holds)(hc:s.ev c= .lit (.bool t)):Ok s (.pick c xa xb) r:=by
 unfold Ok; simp only[qc,qt]; rw[hc]
 refine⟨rfl,?_⟩
 unfold YW at q
 split at q
 rename_i a sa b sb ea eb
 split at q
 ·rename_i v hp
  cases q
  rw[Sd.lD,Sd.ML,Sd.ML] at hs
  have h1:t=true->s.ev xa=a.aF:=fun e=>by rw[R.ev ha,dQ ea (hs.1 e)]
  have h2:t=false->s.ev xb=b.aF:=fun e=>by rw[R.ev hb,dQ eb (hs.2 e)]
  unfold acD at hp
  split at hp
  ·rename_i x y
   have hp':r= .bool (bif BN xa then t||y else bif yQ xb then t&&x else bif t then x else y):=by
    cases e1:BN xa<;>cases e2:yQ xb<;>simp[e1,e2] at hp ⊢ <;>exact hp.symm
   subst hp'
   have key:Am (.lit (.bool t)) (s.ev xa) (s.ev xb)= .lit (.bool (bif t then x else y)):=by
    cases t with
    |true =>
     rw[h1 rfl]; simp only[V.aF,Am]
     split<;>simp_all
    |false =>
     rw[h2 rfl]; simp only[V.aF,Am]
     split<;>simp_all
   rw[key]
   simp only[V.aF]
   congr 2
   cases e1:BN xa with
   |true =>
    have:=TD e1; subst this
    simp only[zU,Option.some.injEq] at ha; subst ha
    simp only[D9,V.bare,Prod.mk.injEq] at ea
    have:=ea.1; cases this
    cases t<;>rfl
   |false =>
    cases e2:yQ xb with
    |true =>
     have:=Qm e2; subst this
     simp only[zU,Option.some.injEq] at hb; subst hb
     simp only[D9,V.bare,Prod.mk.injEq] at eb
     have:=eb.1; cases this
     cases t<;>simp
    |false=>rfl
  ·cases hp
   cases t with
   |true=>rw[h1 rfl]; simp only[V.aF,Am,cond_true]
   |false=>rw[h2 rfl]; simp only[V.aF,Am,cond_false]; split<;>simp_all
  ·cases hp
   cases t with
   |true=>rw[h1 rfl]; simp only[V.aF,Am,cond_true,eS]
   |false=>rw[h2 rfl]; simp only[V.aF,Am,cond_false,eS]; split<;>simp_all
  ·cases hp
 ·cases q
theorem TF{k:Nat}{p:Option V}{r:V}{sd:Sd}(q:V.TA k p=some (r,sd)): ∃ u,p=some u/\r= .ref k u:=by
 unfold V.TA at q
 split at q
 ·cases q; exact⟨_,rfl,rfl⟩
 ·cases q
theorem Hy{p:Option V}{r:V}{sd:Sd}(q:V.IG p=some (r,sd)):p=some r:=by
 unfold V.IG at q
 split at q
 ·cases q; rfl
 ·cases q
theorem Y6{k:Nat}(h:(!(Nat.beq k 0))=true):(!(k==0))=true:=by
 cases k<;>simp_all
theorem adC(hh:s.hp=h.au){off k:Nat}{x:X}{u r:V}{sd:Sd}(q:faZ h off k u=some (r,sd))(h1:s.ev x=u.aF):Ok s (.fa off k x) r:=by
 unfold Ok; simp only[qc,qt]; rw[h1]
 unfold faZ at q
 split at q
 ·obtain⟨g,q⟩:=aU q
  obtain⟨u,e,rfl⟩:=TF q
  simp only[Bool.and_eq_true] at g
  simp only[V.aF,V.EU e,Bool.and_eq_true]
  exact⟨⟨Y6 g.1,g.2⟩,trivial⟩
 ·obtain⟨g,q⟩:=aU q
  cases q
  simp only[V.aF,hh,Hz.yR,g,and_self]
 ·cases q
theorem adD{off k:Nat}{x:X}{u r:V}{sd:Sd}(q:fvZ off k u=some (r,sd))(h1:s.ev x=u.aF):Ok s (.fv off k x) r:=by
 unfold Ok; simp only[qc,qt]; rw[h1]
 unfold fvZ at q
 split at q
 ·rename_i kt hk
  obtain⟨g,q⟩:=aU q
  rw[V.Om hk,V.EU (Hy q)]
  simp only[Bool.and_eq_true] at g ⊢
  exact⟨⟨Y6 g.1,g.2⟩,trivial⟩
 ·cases q
theorem aQ{i:Nat}{o:OV}(e:h.get i=some o):h.au i=some o.aA:=by simp[Hz.au,e]
theorem abm: ∀ {l:List V} {i:Nat} {v:V},ady l i=some v->i<l.length/\(V.aW l).getD i .any=v.aF:=by
 intro l
 induction l with
 |nil=>intro i v h; cases h
 |cons u r ih =>
  intro i v h
  cases i with
  |zero=>cases h; exact⟨Nat.succ_pos _,rfl⟩
  |succ i =>
   obtain⟨a,b⟩:=ih h
   exact⟨Nat.succ_lt_succ a,by simpa [V.aW] using b⟩
theorem Y7(hh:s.hp=h.au){k:Nat}{x i:X}{u v r:V}{sd:Sd}(q:iaZ h k u v=some (r,sd))(hs:sd.holds)(h1:s.ev x=u.aF)(h2:s.ev i=v.aF):Ok s (.ia k x i) r:=by
 unfold Ok; simp only[qc,qt]; rw[h1,h2]
 unfold iaZ at q
 split at q
 ·rename_i k' f l n
  split at q
  ·rename_i v hv
   obtain⟨g,q⟩:=aU q
   cases q
   have:=eY g; subst this
   simp only[Sd.holds] at hs
   obtain⟨a,b⟩:=abm hv
   simp only[V.aF,Yq,dL]
   exact⟨⟨trivial,hs,by omega⟩,by rw[b]⟩
  ·cases q
 ·rename_i k' f w n
  obtain⟨g,q⟩:=aU q
  cases q
  have:=eY g; subst this
  simp only[Sd.holds,Rw.zA] at hs
  simp only[V.aF,Yq,Rw.dZ]
  refine⟨⟨trivial,hs⟩,?_⟩
  rw[Rw.Ol (by omega)]
 ·rename_i o n
  split at q
  ·rename_i ty k' w e
   obtain⟨g,q⟩:=aU q
   cases q
   have:=eY g; subst this
   simp only[Sd.holds,Rw.zA] at hs
   simp only[V.aF,hh,aQ e,OV.aA,V.aW,List.append_nil,Yq,Rw.dZ]
   exact⟨⟨trivial,hs⟩,trivial⟩
  ·rename_i ty k' x e
   obtain⟨g,q⟩:=aU q
   cases q
   have:=eY g; subst this
   simp only[Sd.holds] at hs
   simp only[V.aF,hh,aQ e,OV.aA,Yq,dL]
   exact⟨⟨trivial,hs⟩,trivial⟩
  ·cases q
 ·rename_i o lo hi n
  split at q
  ·rename_i ty k' w e
   obtain⟨g,q⟩:=aU q
   cases q
   have:=eY g; subst this
   simp only[Sd.holds] at hs
   simp only[V.aF,hh,aQ e,OV.aA,Yq]
   exact⟨⟨trivial,hs⟩,trivial⟩
  ·cases q
 ·cases q
theorem adE{x i:X}{u v r:V}{sd:Sd}(q:chZ u v=some (r,sd))(hs:sd.holds)(h1:s.ev x=u.aF)(h2:s.ev i=v.aF):Ok s (.ch x i) r:=by
 unfold Ok; simp only[qc,qt]; rw[h1,h2]
 unfold chZ at q
 split at q
 ·cases q
  simp only[Sd.holds] at hs
  simp only[V.aF,eS,Yq,zu,YV]
  exact⟨hs,trivial⟩
 ·cases q
  simp only[Sd.holds] at hs
  simp only[V.aF,eS,Yq,zu,YV]
  exact⟨hs,trivial⟩
 ·cases q
theorem TG(hh:s.hp=h.au){k:Nat}{x:X}{u r:V}{sd:Sd}(q:ldZ h k u=some (r,sd))(hs:sd.holds)(h1:s.ev x=u.aF):Ok s (.ld k x) r:=by
 unfold Ok; simp only[qc,qt]; rw[h1]
 unfold ldZ at q
 split at q
 ·obtain⟨g,q⟩:=aU q
  cases q
  simp only[Bool.and_eq_true] at g
  have:=eY g.1; subst this
  simp[V.aF,g.2]
 ·rename_i i j off
  split at q
  ·rename_i ty ko v e
   simp only[V.aF,hh,aQ e,OV.aA]
   unfold ldB at q
   cases hj:Nat.beq j 0 with
   |false=>rw[hj] at q; cases q
   |true =>
    have:=eY hj; subst this
    rw[hj] at q
    simp only[cond_true] at q
    cases hb:(Nat.beq off 0&&Nat.beq ko k) with
    |true =>
     rw[hb] at q; cases q
     simp only[Bool.and_eq_true] at hb
     have e1:=eY hb.1; have e2:=eY hb.2; subst e1; subst e2
     simp
    |false =>
     rw[hb] at q
     simp only[cond_false] at q
     obtain⟨g,q⟩:=aU q
     have hb':(off==0&&ko==k)=false:=by
      rw[Bool.and_eq_false_iff] at hb ⊢
      rcases hb with hb|hb
      ·left; simpa using Nat.ne_of_beq_eq_false hb
      ·right; simpa using Nat.ne_of_beq_eq_false hb
     simp only[hb',cond_false,Bool.false_or,List.getD_cons_zero,V.EU (Hy q),List.length_cons,List.length_nil]
     simp only[Bool.and_eq_true] at g ⊢
     exact⟨⟨by omega,Y6 g.1,g.2⟩,trivial⟩
  ·rename_i ty ko w e
   simp only[V.aF,hh,aQ e,OV.aA,V.aW,List.append_nil]
   unfold ldR at q
   cases hb:(Nat.beq off 0&&Nat.beq ko k) with
   |true =>
    rw[hb] at q; cases q
    simp only[Bool.and_eq_true] at hb
    have e1:=eY hb.1; have e2:=eY hb.2; subst e1; subst e2
    simp only[Sd.holds,Rw.zA] at hs
    have hlt:j<w.len:=by omega
    simp only[BEq.rfl,Bool.and_self,Bool.true_or,cond_true,Rw.dZ,Rw.Ol hlt]
    exact⟨⟨hlt,trivial⟩,trivial⟩
   |false =>
    rw[hb] at q
    simp only[cond_false] at q
    split at q
    ·rename_i u hu
     obtain⟨g,q⟩:=aU q
     cases q
     have hb':(off==0&&ko==k)=false:=by
      rw[Bool.and_eq_false_iff] at hb ⊢
      rcases hb with hb|hb
      ·left; simpa using Nat.ne_of_beq_eq_false hb
      ·right; simpa using Nat.ne_of_beq_eq_false hb
     simp only[Sd.holds,Rw.zA] at hs
     have hlt:j<w.len:=by omega
     simp only[hb',cond_false,Bool.false_or,Rw.dZ,Rw.Ol hlt,V.EU hu]
     simp only[Bool.and_eq_true] at g ⊢
     exact⟨⟨hlt,Y6 g.1,g.2⟩,trivial⟩
    ·cases q
  ·cases q
 ·cases q
theorem adF(hh:s.hp=h.au){x:X}{u r:V}{sd:Sd}(q:ncZ h u=some (r,sd))(h1:s.ev x=u.aF):Ok s (.nc x) r:=by
 unfold Ok; simp only[qc,qt]; rw[h1]
 unfold ncZ at q
 split at q
 ·cases q; simp[V.aF]
 ·obtain⟨g,q⟩:=aU q; cases q; simp[V.aF,hh,Hz.yR,g]
 ·cases q; simp[V.aF]
 ·cases q
theorem UW(hh:s.hp=h.au){str:Bool}{x:X}{u r:V}{sd:Sd}(q:abj h str u=some (r,sd))(h1:s.ev x=u.aF):Ok s (.len str x) r:=by
 unfold Ok; simp only[qc,qt]; rw[h1]
 unfold abj at q
 split at q
 ·obtain⟨g,q⟩:=aU q; cases q
  simp only[Bool.not_eq_true'] at g
  simp[V.aF,Rw.Oj,Rw.dZ,g]
 ·obtain⟨g,q⟩:=aU q; cases q
  simp only[Bool.not_eq_true'] at g
  simp[V.aF,dL,g]
 ·obtain⟨g,q⟩:=aU q; cases q
  simp[V.aF,eS,zu,g]
 ·rename_i o
  split at q
  ·rename_i ty k w y e
   obtain⟨g,q⟩:=aU q
   simp only[Bool.and_eq_true,Bool.not_eq_true'] at g
   have hk:k≠fO:=Nat.ne_of_beq_eq_false g.2
   split at q
   ·cases q
    simp only[V.aF,hh,aQ e,OV.aA,V.aW,List.append_nil,Rw.Oj,Rw.dZ]
    exact⟨⟨g.1,hk⟩,trivial⟩
   ·cases q
    simp only[V.aF,hh,aQ e,OV.aA,List.length_append,dL,Rw.dZ]
    exact⟨⟨g.1,hk⟩,by simp⟩
  ·rename_i ty k x e
   obtain⟨g,q⟩:=aU q
   cases q
   simp only[Bool.and_eq_true,Bool.not_eq_true'] at g
   simp only[V.aF,hh,aQ e,OV.aA,dL]
   exact⟨⟨g.1,Nat.ne_of_beq_eq_false g.2⟩,trivial⟩
  ·cases q
 ·rename_i o lo hi
  obtain⟨g,q⟩:=aU q; cases q
  simp only[Bool.and_eq_true,Bool.not_eq_true'] at g
  simp[V.aF,hh,Hz.yR,g]
 ·cases q
theorem adG{x y:X}{u v r:V}{sd:Sd}(q:mxZ u v=some (r,sd))(h1:s.ev x=u.aF)(h2:s.ev y=v.aF):Ok s (.mx x y) r:=by
 unfold Ok; simp only[qc,qt]; rw[h1,h2]
 unfold mxZ at q
 split at q
 ·rename_i a b
  cases q; simp only[V.aF,true_and]; congr 2; split<;>omega
 ·cases q
theorem adH{x y:X}{u v r:V}{sd:Sd}(q:mnZ u v=some (r,sd))(h1:s.ev x=u.aF)(h2:s.ev y=v.aF):Ok s (.mn x y) r:=by
 unfold Ok; simp only[qc,qt]; rw[h1,h2]
 unfold mnZ at q
 split at q
 ·rename_i a b
  cases q; simp only[V.aF,true_and]; congr 2; split<;>omega
 ·cases q
theorem adI{i:Nat}{x:X}{u r:V}{sd:Sd}(q:exZ i u=some (r,sd))(h1:s.ev x=u.aF):Ok s (.ex x i) r:=by
 unfold Ok; simp only[qc,qt]; rw[h1]
 unfold exZ at q
 split at q
 ·split at q
  ·rename_i l _ v e
   cases q
   have hi:i<l.length:=(List.getElem?_eq_some_iff.1 e).1
   simp only[V.aF,Nat.blt_eq,dL,xK e]
   exact⟨hi,trivial⟩
  ·cases q
 ·cases q
theorem abn{ne:Bool}{n:Nat}{x y:X}{u v r:V}{sd:Sd}(q:adz ne n u v=some (r,sd))(h1:s.ev x=u.aF)(h2:s.ev y=v.aF):Ok s (.eqs ne n x y) r:=by
 unfold Ok; simp only[qc,qt]; rw[h1,h2]
 unfold adz at q
 split at q
 ·rename_i x y
  obtain⟨g,q⟩:=aU q; cases q
  have:=eY g; subst this
  have e:sO [.int x.c,.int x.n,.int x.t,.int x.f] [.int y.c,.int y.n,.int y.t,.int y.f]=(x==y):=by
   cases x; cases y; simp[sO,BEq.beq]
  simp only[V.aF,Dat.aF,Tv,e]
  exact⟨rfl,trivial⟩
 ·rename_i x y
  obtain⟨g,q⟩:=aU q; cases q
  have:=eY g; subst this
  have e:sO [.int x.message,.int x.ER,.int x.bound.c,.int x.bound.n,.int x.bound.t,.int x.bound.f] [.int y.message,.int y.ER,.int y.bound.c,.int y.bound.n,.int y.bound.t,.int y.bound.f]=(x==y):=by
   obtain⟨a,b,c,d,e,f⟩:=x; obtain⟨a',b',c',d',e',f'⟩:=y; simp[sO,BEq.beq]
  simp only[V.aF,Dat.aF,Qh,e]
  exact⟨rfl,trivial⟩
 ·cases q
theorem adJ{n:Nat}{x:X}{u r:V}{sd:Sd}(q:saZ n u=some (r,sd))(h1:s.ev x=u.aF):Ok s (.sa n x) r:=by
 unfold Ok; simp only[qc,qt]; rw[h1]
 unfold saZ at q
 split at q
 ·rename_i k l
  split at q
  ·rename_i w hw
   obtain⟨g,q⟩:=aU q; cases q
   simp only[V.aF,dL]
   exact⟨g,by rw[Rw.zx hw]⟩
  ·cases q
 ·cases q
theorem abo{x:X}{u r:V}{sd:Sd}(q:adA u=some (r,sd))(h1:s.ev x=u.aF):Ok s (.NC x) r:=by
 unfold Ok; simp only[qc,qt]; rw[h1]
 unfold adA at q
 split at q
 ·cases q; simp[V.aF,Rw.Oj,Rw.dZ]
 ·cases q
end
section
variable {m:Fm} {h:Hz} {s:AS}
theorem uw(R:Rp m s.fr): ∀ {xs:List X} {l:List V} {sd:Sd},AX m xs=some (l,sd)->sd.holds->xs.map s.ev=V.aW l:=by
 intro xs
 induction xs with
 |nil=>intro l sd q _; cases q; rfl
 |cons x r ih =>
  intro l sd q hs
  simp only[AX] at q
  split at q
  ·rename_i v l' s' h1 h2
   cases q
   rw[Sd.lD] at hs
   simp only[List.map_cons,V.aW]
   rw[R.ev h1,dQ (v:=v) (u:=v.bare.1) (s:=v.bare.2) rfl hs.1,ih h2 hs.2]
  ·cases q
theorem Gy: ∀ {l:List V},CU h l=true->wu h.au (V.aW l)=true:=by
 intro l
 induction l with
 |nil=>intro _; rfl
 |cons v r ih =>
  intro q
  simp only[CU,Bool.and_eq_true] at q
  simp only[V.aW,wu,Bool.and_eq_true]
  exact⟨V.qZ q.1,ih q.2⟩
theorem IJ{k:Nat}: ∀ {l:List V},Es k l=true-> ∀ v∈l,v.kd=some k:=by
 intro l
 induction l with
 |nil=>intro _ v hv; cases hv
 |cons u r ih =>
  intro q v hv
  simp only[Es,Bool.and_eq_true] at q
  rcases List.mem_cons.1 hv with rfl|hv
  ·have:=q.1
   split at this
   ·rename_i k' e; rw[e,eY this]
   ·cases this
  ·exact ih q.2 v hv
theorem WG: ∀ {l:List V},CU h l=true->Es 0 l=true->zf h.au (V.aW l)=true:=by
 intro l
 induction l with
 |nil=>intro _ _; rfl
 |cons v r ih =>
  intro q k
  have hk:=IJ k v (by simp)
  simp only[CU,Es,Bool.and_eq_true] at q k
  simp only[V.aW,zf,Bool.and_eq_true]
  exact⟨V.Y4 q.1 hk,ih q.2 k.2⟩
theorem Y8: ∀ {ps:List (Nat×Nat×X)} {vs z l:List V},UR ps vs z=some l->(ps.map fun p=>s.ev p.2.2)=V.aW vs ->
  F9 (V.aW z) (ps.map fun p=>(p.1,p.2.1,s.ev p.2.2))=true/\Hg (V.aW z) (ps.map fun p=>(p.1,p.2.1,s.ev p.2.2))=V.aW l:=by
 intro ps
 induction ps with
 |nil =>
  intro vs z l q he
  cases vs with
  |nil=>cases q; exact⟨rfl,rfl⟩
  |cons v vs=>simp[V.aW] at he
 |cons p ps ih =>
  intro vs z l q he
  obtain⟨off,n,x⟩:=p
  cases vs with
  |nil=>simp[V.aW] at he
  |cons v vs =>
   simp only[UR] at q
   split at q
   ·rename_i c hc
    obtain⟨g,q⟩:=aU q
    simp only[List.map_cons,V.aW,List.cons.injEq] at he
    simp only[Bool.and_eq_true] at g
    have e1:=eY g.1
    obtain⟨i1,i2⟩:=ih q he.2
    simp only[List.map_cons,F9,Hg,Bool.and_eq_true]
    have ec:(s.ev x).cells=V.aW c:=by rw[he.1]; exact V.Gx hc
    simp only[wP,JW,JX] at i1 i2
    simp only[ec,dL]
    refine⟨⟨⟨by simpa using e1,g.2⟩,i1⟩,i2⟩
   ·cases q
theorem adK(R:Rp m s.fr)(hh:s.hp=h.au){z:List T}{ps:List (Nat×Nat×X)}{r:V}{sd:Sd}(q:mkZ m h z ps=some (r,sd))(hs:sd.holds):Ok s (.mk z ps) r:=by
 unfold mkZ at q
 split at q
 ·rename_i vs s' hb
  split at q
  ·rename_i l hl
   obtain⟨g,q⟩:=aU q
   cases q
   have he:=uw R hb hs
   have he':(ps.map fun p=>s.ev p.2.2)=V.aW vs:=by rw[<- he]; simp
   obtain⟨i1,i2⟩:=Y8 hl he'
   rw[zx] at i1 i2
   unfold Ok; simp only[qc,qt]
   rw[i1,i2,he',hh,Gy g]
   exact⟨rfl,rfl⟩
  ·cases q
 ·cases q
theorem UY{k n:Nat}: ∀ {ps:List (Nat×X)} {vs z l:List V},YX n ps vs z=some l->(ps.map fun p=>s.ev p.2)=V.aW vs->Es k vs=true ->
  Ji k n (ps.map fun p=>(p.1,s.ev p.2))=true/\qV (V.aW z) (ps.map fun p=>(p.1,s.ev p.2))=V.aW l:=by
 intro ps
 induction ps with
 |nil =>
  intro vs z l q he _
  cases vs with
  |nil=>cases q; exact⟨rfl,rfl⟩
  |cons v vs=>simp[V.aW] at he
 |cons p ps ih =>
  intro vs z l q he hk
  obtain⟨i,x⟩:=p
  cases vs with
  |nil=>simp[V.aW] at he
  |cons v vs =>
   simp only[YX] at q
   obtain⟨g,q⟩:=aU q
   simp only[List.map_cons,V.aW,List.cons.injEq] at he
   have hkv:=IJ hk v (by simp)
   simp only[Es,Bool.and_eq_true] at hk
   obtain⟨i1,i2⟩:=ih q he.2 hk.2
   have e:V.aW (z.set i v)=(V.aW z).set i (s.ev x):=by rw[he.1]; simp[iO,List.map_set]
   rw[e] at i2
   simp only[List.map_cons,Ji,qV,Bool.and_eq_true]
   refine⟨⟨⟨?_,g⟩,i1⟩,i2⟩
   rw[he.1,V.Om hkv]; simp
theorem adL(R:Rp m s.fr)(hh:s.hp=h.au){ty k:Nat}{z:T}{n:Nat}{ps:List (Nat×X)}{r:V}{sd:Sd}(q:msZ m h k z n ps=some (r,sd))(hs:sd.holds):Ok s (.ms ty k z n ps) r:=by
 unfold msZ at q
 split at q
 ·rename_i vs s' hb
  split at q
  ·rename_i l hl
   obtain⟨g,q⟩:=aU q
   have hs':s'.holds/\r.aF= .sl k true (V.aW l):=by
    split at q
    ·rename_i w hw
     cases q; exact⟨hs,by simp only[V.aF]; rw[Rw.zx hw]⟩
    ·cases q; exact⟨hs,rfl⟩
   have he:=uw R hb hs'.1
   have he':(ps.map fun p=>s.ev p.2)=V.aW vs:=by rw[<- he]; simp
   simp only[Bool.and_eq_true] at g
   obtain⟨⟨⟨⟨⟨⟨g1,g2⟩,g3⟩,g4⟩,g5⟩,g6⟩,g7⟩:=g
   obtain⟨i1,i2⟩:=UY hl he' g3
   have e:V.aW (List.replicate n (D9 z))=List.replicate n z:=by rw[iO,List.map_replicate,xJ]
   rw[e] at i2
   unfold Ok; simp only[qc,qt]
   rw[i1,i2,he',hh,Gy g4,V.iC _ g5,g1,g2,g6,g7,hs'.2]
   exact⟨rfl,rfl⟩
  ·cases q
 ·cases q
theorem AY(R:Rp m s.fr){x:Option X}{v:Option V}{sd:Sd}(q:JV m x=some (v,sd))(hs:sd.holds):x.map s.ev=v.map V.aF:=by
 cases x with
 |none=>cases q; rfl
 |some x =>
  simp only[JV] at q
  split at q
  ·rename_i u hu
   cases q
   simp only[Option.map_some]; rw[R.ev hu,dQ (v:=u) (u:=u.bare.1) (s:=u.bare.2) rfl hs]
  ·cases q
theorem Gz{k k':Nat}{r:Rw}(g:kOk k k' r=true):k'=k\/r.aW=[]:=by
 unfold kOk at g
 split at g
 ·exact .inr rfl
 ·exact .inl (eY g)
theorem Qn{k k':Nat}{f:Bool}{w:Rw}{lo hi mx:Option V}{r:V}{sd:Sd}(q:YZ k k' f w lo hi mx=some (r,sd))(hs:sd.holds) :
  slC k (.sl k' f w.aW) (lo.map V.aF) (hi.map V.aF) (mx.map V.aF)/\PI k (.sl k' f w.aW) (lo.map V.aF) (hi.map V.aF) (mx.map V.aF)=r.aF:=by
 unfold YZ at q
 split at q
 ·obtain⟨g,q⟩:=aU q; cases q
  simp only[Option.map_none,slC,PI,V.aF]
  exact⟨Gz g,trivial⟩
 ·obtain⟨g,q⟩:=aU q; cases q
  simp only[Sd.holds,Rw.uq] at hs
  simp only[Option.map_none,Option.map_some,slC,PI,V.aF,Rw.Ql,Rw.dZ]
  exact⟨⟨Gz g,hs⟩,trivial⟩
 ·obtain⟨g,q⟩:=aU q; cases q
  simp only[Sd.holds,Rw.uq] at hs
  simp only[Option.map_none,Option.map_some,slC,PI,V.aF,Rw.ET,Rw.dZ]
  exact⟨⟨Gz g,hs⟩,trivial⟩
 ·obtain⟨g,q⟩:=aU q; cases q
  simp only[Sd.holds,Rw.uq] at hs
  simp only[Option.map_none,Option.map_some,slC,PI,V.aF,Rw.ET,Rw.Ql,Rw.dZ]
  exact⟨⟨Gz g,hs.1,hs.2.1,hs.2.2.2⟩,trivial⟩
 ·obtain⟨g,q⟩:=aU q; cases q
  simp only[Sd.holds,Rw.uq] at hs
  simp only[Option.map_none,Option.map_some,slC,PI,V.aF,Rw.ET,Rw.dZ]
  exact⟨⟨Gz g,hs.1,hs.2.1,hs.2.2.2⟩,trivial⟩
 ·cases q
theorem Y9{k i ty ko:Nat}{w:Rw}{lo hi mx:Option V}{r:V}{sd:Sd}(q:Y0 k i ko w lo hi mx=some (r,sd))(hs:sd.holds) :
  Eu k ⟨ty,ko,w.aW⟩ (lo.map V.aF) (hi.map V.aF) (mx.map V.aF)/\zK i ⟨ty,ko,w.aW⟩ (lo.map V.aF) (hi.map V.aF) (mx.map V.aF)=r.aF:=by
 unfold Y0 at q
 split at q
 ·obtain⟨g,q⟩:=aU q; cases q
  simp only[Sd.holds,Rw.uq] at hs
  simp only[Option.map_none,Option.map_some,Eu,zK,V.aF,Rw.dZ]
  exact⟨⟨eY g,hs⟩,trivial⟩
 ·obtain⟨g,q⟩:=aU q; cases q
  simp only[Sd.holds,Rw.uq] at hs
  simp only[Option.map_none,Option.map_some,Eu,zK,V.aF,Rw.dZ]
  exact⟨⟨eY g,hs⟩,trivial⟩
 ·obtain⟨g,q⟩:=aU q; cases q
  simp only[Sd.holds,Rw.uq] at hs
  simp only[Option.map_none,Option.map_some,Eu,zK,V.aF,Rw.dZ]
  exact⟨⟨eY g,hs.1,hs.2.1,hs.2.2.2⟩,trivial⟩
 ·cases q
theorem WH{k i ty ko:Nat}{w:Rw}{xs:List V}{lo hi mx:Option V}{r:V}{sd:Sd}(q:TB k i ko w xs lo hi mx=some (r,sd))(hs:sd.holds) :
  Eu k ⟨ty,ko,w.aW++V.aW xs⟩ (lo.map V.aF) (hi.map V.aF) (mx.map V.aF)/\zK i ⟨ty,ko,w.aW++V.aW xs⟩ (lo.map V.aF) (hi.map V.aF) (mx.map V.aF)=r.aF:=by
 unfold TB at q
 split at q
 ·obtain⟨g,q⟩:=aU q; cases q
  simp only[Sd.holds,Rw.uq] at hs
  simp only[Option.map_none,Option.map_some,Eu,zK,V.aF]
  refine⟨⟨eY g,hs.1,?_⟩,trivial⟩
  have:=hs.2
  simp only[List.length_append,Rw.dZ]; omega
 ·split at q
  ·simp only[V.aW,List.append_nil]; exact Y9 q hs
  ·cases q
theorem UZ(R:Rp m s.fr){b:Bool}{k:Nat}{x:X}{lo hi mx:Option X}{r:V}{sd:Sd}(q:slX m h b k x lo hi mx=some (r,sd))(hs:sd.holds) :
  ∃ v lo' hi' mx' s',slZ h b k v lo' hi' mx'=some (r,s')/\s'.holds/\s.ev x=v.aF/\lo.map s.ev=lo'.map V.aF/\hi.map s.ev=hi'.map V.aF/\mx.map s.ev=mx'.map V.aF:=by
 obtain⟨v,s',q,hs,hv⟩:=jT R q hs
 split at q
 ·rename_i lo' s1 hi' s2 mx' s3 e1 e2 e3
  split at q
  ·rename_i u s4 e4
   cases q
   rw[Sd.lD,Sd.lD,Sd.lD] at hs
   exact⟨v,lo',hi',mx',s4,e4,hs.2.2.2,hv,AY R e1 hs.1,AY R e2 hs.2.1,AY R e3 hs.2.2.1⟩
  ·cases q
 ·cases q
theorem ae0(R:Rp m s.fr){k:Nat}{x:X}{lo hi mx:Option X}{r:V}{sd:Sd}(q:slX m h false k x lo hi mx=some (r,sd))(hs:sd.holds):Ok s (.sl k x lo hi mx) r:=by
 obtain⟨v,lo',hi',mx',s',q,hs,hv,e1,e2,e3⟩:=UZ R q hs
 unfold Ok; simp only[qc,qt]; rw[hv,e1,e2,e3]
 unfold slZ at q
 split at q
 ·exact Qn q hs
 ·cases q
 ·cases q
theorem adM(R:Rp m s.fr)(hh:s.hp=h.au){k:Nat}{x:X}{lo hi mx:Option X}{r:V}{sd:Sd}(q:slX m h true k x lo hi mx=some (r,sd))(hs:sd.holds):Ok s (.XL k x lo hi mx) r:=by
 obtain⟨v,lo',hi',mx',s',q,hs,hv,e1,e2,e3⟩:=UZ R q hs
 unfold Ok; simp only[qc,qt]; rw[hv,e1,e2,e3]
 unfold slZ at q
 split at q
 ·exact Qn q hs
 ·simp only[cond_true] at q
  split at q
  ·rename_i i _ ty ko w xs e
   simp only[V.aF,hh,aQ e,OV.aA]
   exact WH q hs
  ·cases q
 ·cases q
theorem DL{t:Str}{a b:Nat}(hab:a<=b)(_hb:b<=t.length):(bs t).extract a b=bs ((t.take b).drop a):=by
 apply ByteArray.ext
 have h1:((bs t).extract a b).data=(bs t).data.extract a b:=ByteArray.data_extract
 rw[h1]
 apply Array.ext'
 simp[bs,List.extract,List.take_drop]
 rw[show a+(b-a)=b by omega]
theorem ae1(R:Rp m s.fr){x:X}{lo hi:Option X}{r:V}{sd:Sd}(q:ssX m x lo hi=some (r,sd))(hs:sd.holds):Ok s (.ss x lo hi) r:=by
 obtain⟨v,s',q,hs,hv⟩:=jT R q hs
 split at q
 ·rename_i t lo' s1 hi' s2 e1 e2
  split at q
  ·rename_i u s4 e4
   cases q
   rw[Sd.lD,Sd.lD] at hs
   have f1:=AY R e1 hs.1
   have f2:=AY R e2 hs.2.1
   unfold Ok; simp only[qc,qt]; rw[hv,f1,f2]
   have hs4:=hs.2.2
   unfold ssZ at e4
   split at e4
   ·cases e4
    simp only[Sd.holds] at hs4
    simp only[Option.map_none,Option.map_some,V.aF,eS,zu]
    refine⟨hs4,?_⟩
    rw[DL (by omega) (Nat.le_refl _)]; simp
   ·cases e4
    simp only[Sd.holds] at hs4
    simp only[Option.map_none,Option.map_some,V.aF,eS,zu]
    refine⟨hs4,?_⟩
    rw[DL (by omega) (by omega)]; simp
   ·cases e4
    simp only[Sd.holds] at hs4
    simp only[Option.map_some,V.aF,eS,zu]
    refine⟨hs4,?_⟩
    rw[DL (by omega) (by omega)]
   ·cases e4
  ·cases q
 ·cases q
theorem adN(R:Rp m s.fr)(hh:s.hp=h.au){f:FuncId}{cap:List X}{r:V}{sd:Sd}(q:mfZ m h f cap=some (r,sd))(hs:sd.holds):Ok s (.mf f cap) r:=by
 unfold mfZ at q
 split at q
 ·rename_i l s' hb
  obtain⟨g,q⟩:=aU q
  cases q
  simp only[Bool.and_eq_true] at g
  unfold Ok; simp only[qc,qt]
  rw[uw R hb hs,hh,WG g.1.1 g.1.2,g.2]
  exact⟨rfl,rfl⟩
 ·cases q
theorem adO{f:FuncId}{x:X}{v r:V}{sd:Sd}(q:mbZ f v=some (r,sd))(h1:s.ev x=v.aF):Ok s (.mb f x) r:=by
 unfold mbZ at q
 split at q
 ·obtain⟨g,q⟩:=aU q; cases q
  unfold Ok; simp only[qc,qt]; rw[h1]; exact⟨Nat.blt_eq.mp g,rfl⟩
 ·obtain⟨g,q⟩:=aU q; cases q
  rename_i d
  unfold Ok; simp only[qc,qt]; rw[h1]; simp only[V.aF]; rw[Dat.Gw]; exact⟨Nat.blt_eq.mp g,rfl⟩
 ·cases q
theorem Za(R:Rp m s.fr)(hh:s.hp=h.au){op:nS}{r:V}{sd:Sd}(q:qz m h op=some (r,sd))(hs:sd.holds):bG op=true/\Ok s op r:=by
 unfold qz at q
 split at q
 ·split at q
  ·rename_i v e; cases q
   exact⟨rfl,trivial,R.ev e⟩
  ·cases q
 ·obtain⟨c,s',q,hs,hc⟩:=jT R q hs
  split at q
  ·rename_i t va vb e1 e2
   exact⟨rfl,Y5 R e1 e2 q hs hc⟩
  ·cases q
 ·obtain⟨u,v,s',q,hs,h1,h2⟩:=zy R q hs
  exact⟨rfl,abl q hs h1 h2⟩
 ·obtain⟨u,v,s',q,hs,h1,h2⟩:=zy R q hs
  split at q
  ·cases q; refine⟨rfl,?_⟩; unfold Ok; simp only[qc,qt]; rw[h1,h2]; exact⟨rfl,rfl⟩
  ·cases q
 ·obtain⟨u,s',q,hs,h1⟩:=jT R q hs
  split at q
  ·cases q; refine⟨rfl,?_⟩; unfold Ok; simp only[qc,qt]; rw[h1]; exact⟨rfl,rfl⟩
  ·cases q
 ·obtain⟨u,s',q,hs,h1⟩:=jT R q hs
  split at q
  ·cases q; refine⟨rfl,?_⟩; unfold Ok; simp only[qc,qt]; rw[h1]; simp only[V.aF,true_and]; rw[UU hs]
  ·cases q; refine⟨rfl,?_⟩; unfold Ok; simp only[qc,qt]; rw[h1]; simp only[V.aF,true_and]; rw[UU hs]
  ·cases q; refine⟨rfl,?_⟩; unfold Ok; simp only[qc,qt]; rw[h1]; simp only[V.aF,true_and]; rw[UU hs]
  ·cases q
 ·obtain⟨u,s',q,hs,h1⟩:=jT R q hs
  split at q
  ·cases q; refine⟨rfl,?_⟩; unfold Ok; simp only[qc,qt]; rw[h1]; simp only[V.aF,true_and]; rw[aeZ hs.1 hs.2]
  ·cases q; refine⟨rfl,?_⟩; unfold Ok; simp only[qc,qt]; rw[h1]; exact⟨trivial,rfl⟩
  ·cases q
 ·obtain⟨u,s',q,hs,h1⟩:=jT R q hs
  split at q
  ·cases q; refine⟨rfl,?_⟩; unfold Ok; simp only[qc,qt]; rw[h1]; simp only[V.aF,true_and]; rw[adB hs.1 hs.2]
  ·cases q
 ·obtain⟨u,s',q,hs,h1⟩:=jT R q hs; exact⟨rfl,adC hh q h1⟩
 ·obtain⟨u,s',q,hs,h1⟩:=jT R q hs; exact⟨rfl,adD q h1⟩
 ·obtain⟨u,v,s',q,hs,h1,h2⟩:=zy R q hs; exact⟨rfl,Y7 hh q hs h1 h2⟩
 ·obtain⟨u,v,s',q,hs,h1,h2⟩:=zy R q hs; exact⟨rfl,adE q hs h1 h2⟩
 ·obtain⟨u,s',q,hs,h1⟩:=jT R q hs; exact⟨rfl,TG hh q hs h1⟩
 ·obtain⟨u,s',q,hs,h1⟩:=jT R q hs; exact⟨rfl,adF hh q h1⟩
 ·obtain⟨u,s',q,hs,h1⟩:=jT R q hs; exact⟨rfl,UW hh q h1⟩
 ·obtain⟨u,v,s',q,hs,h1,h2⟩:=zy R q hs; exact⟨rfl,adG q h1 h2⟩
 ·obtain⟨u,v,s',q,hs,h1,h2⟩:=zy R q hs; exact⟨rfl,adH q h1 h2⟩
 ·exact⟨rfl,adK R hh q hs⟩
 ·exact⟨rfl,adL R hh q hs⟩
 ·exact⟨rfl,ae0 R q hs⟩
 ·exact⟨rfl,adM R hh q hs⟩
 ·exact⟨rfl,ae1 R q hs⟩
 ·obtain⟨u,s',q,hs,h1⟩:=jT R q hs; exact⟨rfl,adI q h1⟩
 ·exact⟨rfl,adN R hh q hs⟩
 ·obtain⟨u,v,s',q,hs,h1,h2⟩:=zy R q hs; exact⟨rfl,abn q h1 h2⟩
 ·obtain⟨u,s',q,hs,h1⟩:=jT R q hs; exact⟨rfl,abo q h1⟩
 ·obtain⟨u,s',q,hs,h1⟩:=jT R q hs; exact⟨rfl,adO q h1⟩
 ·obtain⟨u,s',q,hs,h1⟩:=jT R q hs; exact⟨rfl,adJ q h1⟩
 ·cases q
end
structure ah(P:Program)(dr:Bool)(g:Option Bool)(f:FuncId)(args:List V)(h:Hz)(n:Nat)(K:V->Hz->Prop)(KW:Nat->V->Hz->Prop):Prop where
 ok:(match g with
  |none=>aT P f (V.aW args) h.au n fun t hp=> ∃ v h',t=v.aF/\hp=h'.au/\(dr=true->h'=h/\t.free=true)/\K v h'
  |some b=>(∃ v,(b=true->aT P f (V.aW args) h.au n fun t hp=>t=v.aF/\hp=h.au)/\v.free=true/\K v h) \/
   (dr=false/\(b=true->aT P f (V.aW args) h.au n fun t hp=> ∃ v h',t=v.aF/\hp=h'.au/\K v h')/\(b=false->K (.int 0) h))) \/
  (g=none/\dr=false/\ ∃ k,jw P f (V.aW args) h.au n k fun t hp=> ∃ v h',t=v.aF/\hp=h'.au/\KW k v h') \/
  (g=none/\dr=true/\h.get n=none/\aT P f (V.aW args) h.au n fun t hp=> ∃ v o,t=v.aF/\hp=Hz.au ((n,some o)::h)/\KW 0 v ((n,some o)::h))
structure ae2(P:Program)(f:FuncId)(args:List V)(h:Hz)(n:Nat)(K:V->Hz->Prop):Prop where
 ok: ∃ (v:V) (o:Option OV),v.aF.ids (fun i=>i=n)/\(∀ ob,o=some ob->T.bY ob.aA.l=true) /\
  (∀ hp:Hp,(∀ i ob,h.au i=some ob->hp i=some ob)->aT P f (V.aW args) hp n fun t' h'=>t'=v.aF/\h'=jh hp n (o.map OV.aA)) /\
  K v (match o with|none=>h|some o=>(n,some o)::h)
def DN(dr fl:Bool)(a b c:Prop):Prop :=
 match dr with
 |false=>a
 |true=>match fl with
  |false=>b
  |true=>c
inductive X6(p a b:Prop):Prop where
 |mk:(p->a)->b->X6 p a b
inductive ae3(o:Option (List Bool))(yes:List Bool->Prop)(no:Prop):Prop where
 |mk:(∀ l,o=some l->yes l)->(o=none->no)->ae3 o yes no
def V.seq(v:V)(K:V->Prop):Prop :=
 match v with
 | .int n=>K (.int n)
 | .bool b=>K (.bool b)
 | .u8 n=>K (.u8 n)
 | .str s=>K (.str s)
 | .dat d=>K (.dat d)
 | .agg l=>K (.agg l)
 | .row k f r=>K (.row k f r)
 | .Gv k f l=>K (.Gv k f l)
 | .ref k v=>K (.ref k v)
 | .own i=>K (.own i)
 | .inn i=>K (.inn i)
 | .pin i j o=>K (.pin i j o)
 | .ptr i j o=>K (.ptr i j o)
 | .oH i a b=>K (.oH i a b)
 | .fn f l=>K (.fn f l)
 | .cO l=>K (.cO l)
 | .cnd b v=>K (.cnd b v)
 | .raw t=>K (.raw t)
theorem V.seq_eq(v:V)(K:V->Prop):v.seq K=K v:=by cases v<;>rfl
def iE(d:Option Nat)(v:V)(m:Fm):Fm :=
 match d with
 |some d=>(d,v)::m
 |none=>m
def rQ:Option Bool->V->V
 |none,v=>v
 |some b,.cnd c v=>.cnd (b&&c) v
 |some b,v=>.cnd b v
theorem GH(v:V):(rQ (some true) v).aF=v.aF:=by cases v<;>rfl
theorem TI(v:V):(rQ (some false) v).aF=T.un:=by cases v<;>rfl
def TJ(m:Fm):Option (Nat×Bool)->Option (Option Bool)
 |none=>some none
 |some (g,w)=>match m.get g with
  |some (.bool b)=>some (some (bif w then b else !b))
  |some (.cnd c (.bool b))=>some (some (c&&(bif w then b else !b)))
  |_=>none
def ltX(nx:Nat)(m:Fm):List X->Bool
 |[]=>true
 |x::r=>(match zU m x with|some v=>T.lt nx v.aF|none=>false)&&ltX nx m r
def Zb(nx:Nat)(m:Fm):nS->Bool
 | .st _ x _=>match zU m x with|some v=>T.newer nx v.aF|none=>false
 | .app _ _ _ x _=>match zU m x with|some v=>T.newer nx v.aF|none=>false
 | .RD _ _ _=>false
 | .SB _ _ _=>false
 | .call _ _=>true
 | .nM _ _=>true
 |op=>ltX nx m op.xs
def abp(i:Nat)(m:Fm):List X->Bool
 |[]=>true
 |x::r=>(match zU m x with|some v=>T.nid i v.aF|none=>false)&&abp i m r
def neB(m:Fm)(xs:List X):List Nat->Bool
 |[]=>true
 |d::r=>(match m.get d with|some (.ptr i _ _)=>abp i m xs|_=>false)&&neB m xs r
def HY(nx:Nat)(o:aJ)(m:Fm):Bool:=(!o.fl||Zb nx m o.op)&&neB m o.op.xs o.ne
def isZero:V->Bool
 | .int (.ofNat 0)=>true
 |_=>false
def aaD(n:Nat):T->Option Rw
 | .lit (.int .i64 z)=>some (.ints (List.replicate n z))
 | .lit (.bool z)=>some (.bools (List.replicate n z))
 | .lit (.string z)=>some (.strs (List.replicate n z.data.toList))
 |_=>none
def Rw.set(j:Nat)(v:V)(r:Rw):Option Rw :=
 match r,v with
 | .ints l,.int n=>some (.ints (l.set j n))
 | .bools l,.bool n=>some (.bools (l.set j n))
 | .strs l,.str n=>some (.strs (l.set j n))
 | .rules l,.dat (.rule n)=>some (.rules (l.set j n))
 | .clauses l,.dat (.clause n)=>some (.clauses (l.set j n))
 | .elems l,.dat (.elem n)=>some (.elems (l.set j n))
 | .dV l,.row 0 false (.ints n)=>some (.dV (l.set j n))
 | .nC l,.row 0 false (.bools n)=>some (.nC (l.set j n))
 | .nD l,.row 0 false (.dV n)=>some (.nD (l.set j n))
 |_,_=>none
def adP(h:Hz)(k:Nat):V->Option (Rw×List V)
 | .row k' _ r=>dI (kOk k k' r) (some (r,[]))
 | .Gv k' _ l=>dI (Nat.beq k' k) (some (.nil,l))
 | .own o=>match h.get o with
  |some (.row _ ko r x)=>dI (Nat.beq ko k) (some (r,x))
  |_=>none
 |_=>none
def adQ(r:Rw)(x:List V)(r':Rw)(x':List V):Option (Rw×List V) :=
 match x,r' with
 |[],r'=>match r.app r' with|some w=>some (w,x')|none=>none
 |x,.nil=>some (r,x++x')
 |_,_=>none
def nT(r:Rw)(x:List V):Nat :=
 match x with
 |[]=>r.len
 |x=>r.len+x.length
def nK(bytes:Nat)(a b:Nat):Prop:=(a+b)*bytes<=140737488355328/\a+b<=1152921504606846976
def setCells(v:V)(off:Nat)(u:V):Option V :=
 match v.cells,u.cells with
 |some l,some c=>some (.agg (l.take off++c++l.drop (off+c.length)))
 |_,_=>none
def Oo:List V->(List V->Prop)->Prop
 |[],K=>K []
 |v::r,K=>Oo r fun r'=>K (v::r')
def V.force(v:V)(K:V->Prop):Prop :=
 match v with
 | .agg l=>Oo l fun l=>K (.agg l)
 |v=>K v
theorem WI: ∀ {l:List V} {K:List V->Prop},Oo l K=K l:=by
 intro l
 induction l with
 |nil=>intro K; rfl
 |cons v r ih=>intro K; show Oo r (fun r'=>K (v::r'))=_; rw[ih]
theorem V.force_eq(v:V)(K:V->Prop):v.force K=K v:=by
 cases v<;>first|rfl|exact WI
structure abq(c p a b:Prop):Prop where
 ok:(c\/b)/\p/\a
theorem abq.one{c p a b:Prop}(h:c/\p)(k:a):abq c p a b:=⟨.inl h.1,h.2,k⟩
structure AtZ(y:List V)(j:Nat)(K:V->Prop):Prop where
 ok: ∃ v,y[j]? =some v/\K v
structure MN(h:Hz)(i:Nat)(K:Nat->Rw->Prop):Prop where
 ok: ∃ ty k r,h.get i=some (.row ty k r [])/\K k r
structure Le(h:Hz)(i j k:Nat)(v:V)(K:Hz->Prop):Prop where
 ok: ∃ ty r r' h',h.get i=some (.row ty k r [])/\r.set j v=some r'/\r.rng j/\h'.au=upd h.au i (some (OV.row ty k r' []).aA)/\K h'
structure ae4(h:Hz)(i ty k:Nat)(K:Rw->Hz->Prop):Prop where
 ok: ∃ r h',h.get i=some (.row ty k r [])/\h'.au=upd h.au i none/\K r h'
def abr(dr:Bool)(d:Option Nat)(n:Nat)(m:Fm)(h:Hz)(K:Fm->Hz->Prop):nS->Prop
 | .box ty k x=>match zU m x with
  |some v=>match v.bare with
   |(v,s)=>bif Es k [v]&&v.jX h&&zS k then s.vc none (K (iE d (.ptr n 0 0) m) ((n,some (.box ty k v))::h)) else False
  |none=>False
 | .al ty k z=>bif z.kd==k&&z.jX h.au&&z.free&&zS k then K (iE d (.ptr n 0 0) m) ((n,some (.box ty k (D9 z)))::h) else False
 | .make ty k bytes z x y=>match zU m x,zU m y with
  |some (.int a),some (.int b)=>bif z.kd==k&&z.jX h.au&&z.free&&zS k then
    (match (bif isZero (.int a) then some .nil else aaD a.toNat z) with
    |some r=>VC (0<=a/\a<=b/\b*bytes<=140737488355328/\b<=1152921504606846976) (K (iE d (.own n) m) ((n,some (.row ty k r []))::h))
    |none=>VC (0<=a/\a<=b/\b*bytes<=140737488355328/\b<=1152921504606846976) (K (iE d (.own n) m) ((n,some (.gen ty k (List.replicate a.toNat (D9 z))))::h))) else False
  |_,_=>False
 | .st k x v=>match zU m x,zU m v with
  |some (.ptr i j off),some v=>match v.bare with
   |(v,s)=>bif Es k [v]&&v.jX h then
    (match h.get i with
    |some (.box ty ko w)=>bif Nat.beq j 0 then
      (bif Nat.beq off 0&&Nat.beq ko k then s.vc none (K m ((i,some (.box ty ko v))::h))
      else bif !(Nat.beq ko 0)&&og (bn ko) off k then(match setCells w off v with
       |some w'=>w'.force fun w'=>s.vc none (K m ((i,some (.box ty ko w'))::h))
       |none=>False) else False) else False
    |some (.row ty ko r [])=>bif Nat.beq off 0&&Nat.beq ko k then(match r.set j v with
      |some r'=>s.vc none (VC (r.rng j) (K m ((i,some (.row ty ko r' []))::h)))
      |none=>s.vc none (VC (r.rng j) (K m ((i,some (.gen ty ko (r.vs.set j v)))::h)))) else False
    |some (.gen ty ko y)=>bif Nat.beq off 0&&Nat.beq ko k then s.vc none (VC (j<y.length) (K m ((i,some (.gen ty ko (y.set j v)))::h))) else False
    |_=>False) else False
  |some x,some v=>(match x.bare with
   |(.pin i j off,s0)=>match v.bare with
    |(v,s)=>bif Es k [v]&&v.jX h&&Nat.beq off 0 then(s0.and s).vc none (Le h i j k v fun h'=>K m h') else False
   |_=>False)
  |_,_=>False
 | .ld k x=>match zU m x with
  |some v=>(match v.bare with
   |(.ptr i j off,s)=>(match h.get i with
    |some (.gen _ ko y)=>bif Nat.beq off 0&&Nat.beq ko k then s.vc none (AtZ y j fun v=>v.seq fun v=>K (iE d v m) h) else False
    |_=>False)
   |(.pin i j off,s)=>s.vc none (MN h i fun ko r=>match ldR k j off ko r with
    |some (v,s')=>s'.vc none (v.seq fun v=>K (iE d v m) h)
    |none=>False)
   |_=>False)
  |none=>False
 | .ia k x i=>match zU m x,zU m i with
  |some v,some w=>(match v.bare,w.bare with
   |(.inn o,s),(.int n,s')=>(s.and s').vc none (MN h o fun ko r=>bif Nat.beq ko k then VC (r.rng n) (K (iE d (.pin o n.toNat 0) m) h) else False)
   |_,_=>False)
  |_,_=>False
 | .len str x=>match zU m x with
  |some v=>(match v.bare with
   |(.inn o,s)=>s.vc none (MN h o fun ko r=>bif !str&& !(Nat.beq ko fO) then r.lenV.seq fun v=>K (iE d v m) h else False)
   |_=>False)
  |none=>False
 | .app ty k bytes x y=>match zU m x,zU m y with
  |some x,some y=>match adP h k y with
   |some (r',x')=>(match x with
    | .row _ true .nil=>VC (nK bytes 0 (nT r' x')) (K (iE d (.own n) m) ((n,some (.row ty k r' x'))::h))
    | .row k' true r=>bif Nat.beq k' k then(match r.app r' with
     |some w=>abq (r.len=0\/0<nT r' x') (nK bytes r.len (nT r' x')) (K (iE d (.own n) m) ((n,some (.row ty k w x'))::h)) (dr=false/\K (iE d (.row k' true r) m) h)
     |none=>False) else False
    | .own i=>(match h.get i with
     |some (.row ty' ko r x)=>bif Nat.beq ko k&&Nat.beq ty' ty then(match adQ r x r' x' with
      |some (w,z)=>VC (nK bytes (nT r x) (nT r' x')) (K (iE d (.own n) m) ((n,some (.row ty k w z))::(i,none)::h))
      |none=>False) else False
     |some (.gen ty' ko y)=>bif Nat.beq ko k&&Nat.beq ty' ty then VC (nK bytes y.length (nT r' x')) (K (iE d (.own n) m) ((n,some (.gen ty k (y++(r'.vs++x'))))::(i,none)::h)) else False
     |_=>False)
    | .inn i=>ae4 h i ty k fun r h'=>match r.app r' with
     |some w=>VC (nK bytes r.len (nT r' x')) (K (iE d (.own n) m) ((n,some (.row ty k w x'))::h'))
     |none=>False
    |_=>False)
   |none=>False
  |_,_=>False
 | .SB k z x=>match zU m x with
  |some (.oH i lo hi)=>match h.get i with
   |some (.row ty ko r [])=>bif Nat.beq ko k&&z.kd==k&&z.jX h.au&&z.free then
     VC (lo<=hi/\hi=r.len) (match d with
      |none=>K m ((i,some (.row ty ko (r.take lo) (List.replicate (hi-lo) (D9 z))))::h)
      |some _=>K (iE d (.raw T.un) m) ((i,some (.row ty ko (r.take lo) (List.replicate (hi-lo) (D9 z))))::h)) else False
   |_=>False
  |_=>False
 | .F8 ty k z nn ps=>match AX m (ps.map fun p=>p.2) with
  |some (vs,s)=>match YX nn ps vs (List.replicate nn (D9 z)) with
   |some l=>bif (z.kd==k)&&z.free&&Es k vs&&CU h vs&&Nat.ble (nn*bn k) 16777216&&zS k then s.vc none (K (iE d (.own n) m) ((n,some (.row ty k .nil l))::h)) else False
   |none=>False
  |none=>False
 | .zJ x=>match zU m x with
  |some (.row _ _ r)=>X6 (r.len=0) (K (iE d (.bool true) m) h) (K (iE d (.bool false) m) h)
  |some (.own i)=>match h.get i with
   |some (.row _ ko r [])=>bif Nat.beq ko fO then False else X6 (r.len=0) (K (iE d (.bool true) m) h) (K (iE d (.bool false) m) h)
   |_=>False
  |_=>False
 | .XK ty=>K (iE d (.own n) m) ((n,some (.map ty [] []))::h)
 | .mlk z x i=>match zU m x,zU m i with
  |some (.own o),some (.int k)=>match h.get o with
   |some (.map _ es [])=>ae3 (Hw k es) (fun l=>K (iE d (.cO [.row 0 false (.bools l),.bool true]) m) h) (K (iE d (.cO [D9 z,.bool false]) m) h)
   |_=>False
  |_,_=>False
 | .RD x i v=>match zU m x,zU m i,zU m v with
  |some (.own o),some (.int k),some v=>match v.bare with
   |(v,s)=>match h.get o with
    |some (.map ty es [])=>bif Es 0 [v]&&v.jX h then s.vc none (VC (Hw k es=none) (K m ((o,some (.map ty es [(k,v)]))::h))) else False
    |_=>False
  |_,_,_=>False
 |_=>False
def phZ:nS->V
 | .not _=>.bool false
 |_=>.int 0
def adR(P:Program)(dr:Bool)(nx n:Nat)(o:aJ)(KK:Nat->Fm->Hz->Prop)(m:Fm)(h:Hz):Prop :=
 match TJ m o.g with
 |none=>False
 |some g=>bif HY nx o m then
   (match o.op with
   | .call f xs=>(match AX m xs with
    |some (l,s)=>s.vc g (match g with
     |none=>DN dr o.fl (ah P false none f l h n (fun v h'=>v.seq fun v=>KK 0 (iE o.d v m) h') (fun k v h'=>v.seq fun v=>KK k (iE o.d v m) h')) (ah P true none f l h n (fun v h'=>v.seq fun v=>KK 0 (iE o.d v m) h') (fun _ _ _=>False)) (ah P false none f l h n (fun v h'=>v.seq fun v=>KK 0 (iE o.d v m) h') (fun _ _ _=>False))
     |some b=>DN dr o.fl (ah P false (some b) f l h n (fun v h'=>v.seq fun v=>KK 0 (iE o.d (rQ (some b) v) m) h') (fun _ _ _=>False)) (ah P true (some b) f l h n (fun v h'=>v.seq fun v=>KK 0 (iE o.d (rQ (some b) v) m) h') (fun _ _ _=>False)) (ah P false (some b) f l h n (fun v h'=>v.seq fun v=>KK 0 (iE o.d (rQ (some b) v) m) h') (fun _ _ _=>False)))
    |none=>False)
   | .nM x xs=>(match zU m x,AX m xs with
    |some v,some (l,s)=>(match v.bare with
     |(.fn f cap,s0)=>(s0.and s).vc g (bif Nat.blt f 4096 then DN dr o.fl (ah P false g f (l++cap) h n (fun v h'=>v.seq fun v=>KK 0 (iE o.d (rQ g v) m) h') (fun _ _ _=>False)) (ah P true g f (l++cap) h n (fun v h'=>v.seq fun v=>KK 0 (iE o.d (rQ g v) m) h') (fun _ _ _=>False)) (ah P false g f (l++cap) h n (fun v h'=>v.seq fun v=>KK 0 (iE o.d (rQ g v) m) h') (fun _ _ _=>False)) else DN dr o.fl (ah P false g (f % 4096) (.agg cap::l) h n (fun v h'=>v.seq fun v=>KK 0 (iE o.d (rQ g v) m) h') (fun _ _ _=>False)) (ah P true g (f % 4096) (.agg cap::l) h n (fun v h'=>v.seq fun v=>KK 0 (iE o.d (rQ g v) m) h') (fun _ _ _=>False)) (ah P false g (f % 4096) (.agg cap::l) h n (fun v h'=>v.seq fun v=>KK 0 (iE o.d (rQ g v) m) h') (fun _ _ _=>False)))
     |_=>False)
    |_,_=>False)
   |op=>(match qz m h op with
    |some (v,s)=>s.vc g (v.seq fun v=>KK 0 (iE o.d (rQ g v) m) h)
    |none=>(match g with
     |none=>abr dr o.d n m h (KK 0) op
     |some b=>Fork b (abr dr o.d n m h (KK 0) op) (KK 0 (iE o.d (.cnd false (phZ op)) m) h))))
   else False
def adZ(P:Program)(nx n:Nat)(o:aJ)(KK:Nat->Fm->Hz->Prop)(m:Fm)(h:Hz):Prop :=
 match o.op,o.g with
 | .call f xs,none=>bif o.fl&&HY nx o m then
   (match AX m xs with
   |some (l,s)=>s.vc none (ah P true none f l h n (fun v h'=>v.seq fun v=>KK 0 (iE o.d v m) h') (fun _ v h'=>v.seq fun v=>KK 0 (iE o.d v m) h'))
   |none=>False)
   else False
 |_,_=>False
def arZ(P:Program)(nx n:Nat)(o:aJ)(KK:Nat->Fm->Hz->Prop)(m:Fm)(h:Hz):Prop :=
 match o.op,o.g with
 | .call f xs,none=>bif o.fl&&HY nx o m then
   (match AX m xs with
   |some (l,s)=>s.vc none (ae2 P f l h n (fun v h'=>v.seq fun v=>KK 0 (iE o.d v m) h'))
   |none=>False)
   else False
 |_,_=>False
def opZ(P:Program)(dr:Bool)(nx n:Nat)(o:aJ)(KK:Nat->Fm->Hz->Prop)(m:Fm)(h:Hz):Prop :=
 match o.ar with
 |true=>arZ P nx n o KK m h
 |false=>match o.ad with
 |true=>adZ P nx n o KK m h
 |false=>adR P dr nx n o KK m h
def Qo(P:Program)(dr:Bool)(ml:Nat)(nx:Nat)(K:Fm->Hz->Nat->Prop):List aJ->Nat->Fm->Hz->Prop
 |[],_,m,h=>K m h (nx+ml)
 |o::r,i,m,h=>opZ P dr nx (nx+i) o (fun k=>Qo P dr ml (nx+k) K r (i+1)) m h
abbrev Qz:=qW->Fm->Hz->Nat->Prop
def Lift(N pn:Nat)(Q:Qz)(e:qW)(s:AS):Prop:= ∃ m h,s.fr.length=N/\Rp m s.fr/\s.hp=h.au/\s.pin=pn/\Q e m h s.nx
structure aG(P:Program)(N pn:Nat)(b:fC)(Q:Qz)(m:Fm)(h:Hz)(nx:Nat):Prop where
 ok: ∀ fr,fr.length=N->Rp m fr->zL (aw P b) (Lift N pn Q) ⟨fr,h.au,nx,pn⟩
def az(P:Program)(N pn:Nat):fC->Qz->Fm->Hz->Nat->Prop
 | .skip,Q,m,h,nx=>Q .normal m h nx
 | .reg dr ops,Q,m,h,nx=>Qo P dr ops.length nx (fun m h nx=>Q .normal m h nx) ops 0 m h
 | .seq a b,Q,m,h,nx=>az P N pn a (fun e m h nx=>match e with| .normal=>az P N pn b Q m h nx|e=>Q e m h nx) m h nx
 | .cond c a b,Q,m,h,nx =>
  match zU m c with
  |some (.bool t)=>Fork t (az P N pn a Q m h nx) (az P N pn b Q m h nx)
  |_=>False
 | .blk id b,Q,m,h,nx=>az P N pn b (fun e m h nx=>match e with| .exit j=>(bif Nat.beq j id then Q .normal m h nx else Q (.exit j) m h nx)|e=>Q e m h nx) m h nx
 | .exit id,Q,m,h,nx=>Q (.exit id) m h nx
 | .ret,Q,m,h,nx=>Q .ret m h nx
 | .loop b,Q,m,h,nx=>aG P N pn b Q m h nx
def Oq(N:Nat):List aJ->Bool
 |[]=>true
 |o::r=>(match o.d with|some d=>Nat.blt d N|none=>true)&&Oq N r
def rW(N:Nat):fC->Bool
 | .skip=>true
 | .reg _ ops=>Oq N ops
 | .seq a b=>rW N a&&rW N b
 | .cond _ a b=>rW N a&&rW N b
 | .blk _ b=>rW N b
 | .exit _=>true
 | .ret=>true
 | .loop b=>rW N b
section
variable {P:Program} {m:Fm} {h:Hz}
theorem cu{i:Nat}{o:Option OV}:Hz.au ((i,o)::h)=upd h.au i (o.map OV.aA):=by
 funext j
 simp only[Hz.au,Hz.get,upd]
 by_cases e:j=i
 ·subst e; simp
 ·have:Nat.beq i j=false:=by
   cases hb:Nat.beq i j with
   |false=>rfl
   |true=>exact absurd (eY hb).symm e
  simp[this,e]
theorem Rp.put{fr:List T}(R:Rp m fr){d:Option Nat}{v:V}(hd: ∀ i,d=some i->i<fr.length){s:AS}(hs:s.fr=fr):Rp (iE d v m) (s.put d v.aF).fr:=by
 subst hs
 cases d with
 |none=>exact R
 |some d =>
  intro i u hu
  simp only[iE,Fm.get] at hu
  show(s.fr.set d v.aF)[i]? =_
  cases hb:Nat.beq d i with
  |true =>
   rw[hb] at hu; simp at hu; subst hu
   have:=eY hb; subst this
   rw[List.getElem?_set_self (hd d rfl)]
  |false =>
   rw[hb] at hu
   have hne:d≠i:=Nat.ne_of_beq_eq_false hb
   rw[List.getElem?_set_ne hne]
   exact R i u hu
theorem U0{s:AS}{d:Option Nat}{t:T}:(s.put d t).fr.length=s.fr.length:=by cases d<;>simp[AS.put]
theorem ku{g:Option Bool}{k:Prop}{s:Sd}(q:s.vc g k):((g=none\/g=some true)->s.holds)/\k:=by
 unfold Sd.vc at q
 split at q
 ·exact⟨fun _=>trivial,q⟩
 ·split at q
  ·obtain⟨a,b⟩:=q; exact⟨fun _=>a,b⟩
  ·obtain⟨a,b⟩:=q; exact⟨fun hg=>a (by rcases hg with e|e<;>cases e; rfl),b⟩
theorem WJ{s:AS}(R:Rp m s.fr){g:Option (Nat×Bool)}{g':Option Bool}(q:TJ m g=some g'):(gv g s=some true/\(g'=none\/g'=some true))\/(gv g s=some false/\g'=some false):=by
 unfold TJ at q
 split at q
 ·cases q; exact .inl ⟨rfl,.inl rfl⟩
 ·rename_i d w
  split at q
  ·rename_i b e
   cases q
   have hg:s.fr.getD d .any= .lit (.bool b):=R.getD e
   simp only[gv,hg]
   cases w<;>cases b<;>simp
  ·rename_i c b e
   cases q
   have hg:s.fr.getD d .any=bif c then .lit (.bool b) else T.un:=R.getD e
   cases c with
   |true=>simp only[gv,hg,cond_true]; cases w<;>cases b<;>simp
   |false=>simp only[gv,hg,cond_false]; simp
  ·cases q
theorem abt{s:AS}(R:Rp m s.fr){nx:Nat}: ∀ {xs:List X},ltX nx m xs=true->(xs.all fun x=>T.lt nx (s.ev x))=true:=by
 intro xs
 induction xs with
 |nil=>intro _; rfl
 |cons x r ih =>
  intro q
  simp only[ltX,Bool.and_eq_true] at q
  simp only[List.all_cons,Bool.and_eq_true]
  refine⟨?_,ih q.2⟩
  have:=q.1
  split at this
  ·rename_i v e; rw[R.ev e]; exact this
  ·cases this
theorem Zc{s:AS}(R:Rp m s.fr){i:Nat}: ∀ {xs:List X},abp i m xs=true->(xs.all fun x=>T.nid i (s.ev x))=true:=by
 intro xs
 induction xs with
 |nil=>intro _; rfl
 |cons x r ih =>
  intro q
  simp only[abp,Bool.and_eq_true] at q
  simp only[List.all_cons,Bool.and_eq_true]
  refine⟨?_,ih q.2⟩
  have:=q.1
  split at this
  ·rename_i v e; rw[R.ev e]; exact this
  ·cases this
theorem adS{s:AS}(R:Rp m s.fr){xs:List X}: ∀ {l:List Nat},neB m xs l=true->ND s xs l=true:=by
 intro l
 induction l with
 |nil=>intro _; rfl
 |cons d r ih =>
  intro q
  simp only[neB,Bool.and_eq_true] at q
  simp only[ND,Bool.and_eq_true]
  refine⟨?_,ih q.2⟩
  have:=q.1
  split at this
  ·rename_i i j o e
   have hg:s.fr.getD d .any= .ptr i j o:=R.getD e
   simp only[AS.obj,hg]
   exact Zc R this
  ·cases this
theorem JY{s:AS}(R:Rp m s.fr){o:aJ}(q:HY s.nx o m=true):jg o s:=by
 unfold HY at q
 simp only[Bool.and_eq_true,Bool.or_eq_true,Bool.not_eq_true'] at q
 refine⟨fun hf=>?_,adS R q.2⟩
 have h1:Zb s.nx m o.op=true:=by
  rcases q.1 with h|h
  ·rw[hf] at h; cases h
  ·exact h
 unfold Zb at h1
 split at h1
 ·rename_i k x v e
  rw[e]
  split at h1
  ·rename_i u hu; simp only; rw[R.ev hu]; exact h1
  ·cases h1
 ·rename_i e
  rw[e]
  split at h1
  ·rename_i u hu; simp only; rw[R.ev hu]; exact h1
  ·cases h1
 ·cases h1
 ·cases h1
 ·rename_i e; rw[e]
 ·rename_i e; rw[e]
 ·rename_i op h2 h3 h4 h5 h6 h7
  have:=abt R h1
  split
  ·rename_i e; exact absurd e (h2 _ _ _)
  ·rename_i e; exact absurd e (h3 _ _ _ _ _)
  ·rename_i e; exact absurd e (h4 _ _ _)
  ·rename_i e; exact absurd e (h5 _ _ _)
  ·rfl
  ·rfl
  ·exact this
def Kz(N pn nx:Nat)(K:Fm->Hz->Prop)(s:AS):Prop:= ∃ m h,s.fr.length=N/\Rp m s.fr/\s.hp=h.au/\s.pin=pn/\s.nx=nx/\K m h
theorem Ot{k:Nat}{v:V}(q:Es k [v]=true):v.aF.kd=k:=V.Om (IJ q v (by simp))
theorem abu{n:Nat}{z:T}{r:Rw}(q:aaD n z=some r):r.aW=List.replicate n z:=by
 unfold aaD at q
 split at q<;>cases q
 ·simp[Rw.aW]
 ·simp[Rw.aW]
 ·simp only[Rw.aW,List.map_replicate]; rw[acE]
theorem Rw.U3{j:Nat}{v:V}{r w:Rw}(q:r.set j v=some w):w.aW=r.aW.set j v.aF:=by
 unfold Rw.set at q
 split at q<;>first|(cases q; done)|(cases q; simp[Rw.aW,V.aF,Dat.aF,List.map_set])
theorem abv{k:Nat}{y:V}{r:Rw}{x:List V}(q:adP h k y=some (r,x)):SE h.au k y.aF= .list (r.aW++V.aW x):=by
 unfold adP at q
 split at q
 ·rename_i k' f w
  obtain⟨g,q⟩:=aU q; cases q
  simp only[V.aF,SE,V.aW,List.append_nil]
  rcases Gz g with rfl|e
  ·cases r.aW<;>simp
  ·rw[e]
 ·rename_i k' f l
  obtain⟨g,q⟩:=aU q; cases q
  have:=eY g; subst this
  simp only[V.aF,SE,Rw.aW,List.nil_append]
  cases hx:V.aW x<;>simp
 ·split at q
  ·rename_i o _ ty ko w z e
   obtain⟨g,q⟩:=aU q; cases q
   have:=eY g; subst this
   simp[V.aF,SE,aQ e,OV.aA]
  ·cases q
 ·cases q
theorem yS{r:Rw}{x:List V}:nT r x=(r.aW++V.aW x).length:=by
 unfold nT
 split
 ·simp[V.aW,Rw.dZ]
 ·simp[dL,Rw.dZ]
theorem abw{r r' w:Rw}{x x' z:List V}(q:adQ r x r' x'=some (w,z)):w.aW++V.aW z=(r.aW++V.aW x)++(r'.aW++V.aW x'):=by
 unfold adQ at q
 split at q
 ·split at q
  ·rename_i w' e; cases q; rw[Rw.II e]; simp[V.aW]
  ·cases q
 ·cases q; simp[wP,Rw.aW]
 ·cases q
theorem adT{k:Int}: ∀ {es:List (Int×List Bool)},xA k (es.map Oi)=(Hw k es).map fun l=>.sl 0 false (l.map T.bool):=by
 intro es
 induction es with
 |nil=>rfl
 |cons e es ih =>
  obtain⟨m,l⟩:=e
  simp only[List.map_cons,Oi,xA,T.int,Hw]
  cases k==m
  ·exact ih
  ·rfl
theorem ae5{k:Int}{v:T}: ∀ {es:List (Int×List Bool)},Hw k es=none->Ap k v (es.map Oi)=es.map Oi++[.cO [.int k,v]]:=by
 intro es
 induction es with
 |nil=>intro _; rfl
 |cons e es ih =>
  obtain⟨m,l⟩:=e
  intro h
  simp only[Hw] at h
  cases hb:k==m with
  |true=>rw[hb] at h; cases h
  |false =>
   rw[hb] at h
   simp only[List.map_cons,Oi,Ap,T.int,hb,cond_false,List.cons_append]
   rw[ih h]
theorem MO{N pn n nx:Nat}{d:Option Nat}{op:nS}{K:Fm->Hz->Prop}{s:AS}{dr:Bool}(hl:s.fr.length=N)(hd: ∀ i,d=some i->i<N)(R:Rp m s.fr)(hh:s.hp=h.au)(hp:s.pin=pn)(hn:s.nx=nx)(q:abr dr d n m h K op) :
  lN P dr n d op (Kz N pn nx K) s:=by
 have hd': ∀ i,d=some i->i<s.fr.length:=fun i e=>by rw[hl]; exact hd i e
 have fin: ∀ {v:V} {h':Hz},K (iE d v m) h'->Kz N pn nx K {(s.put d v.aF) with hp:=h'.au}:=fun {v h'} hk =>
  ⟨_,h',by show(s.put d v.aF).fr.length=N; rw[U0,hl],R.put (v:=v) hd' rfl,rfl,by show(s.put d v.aF).pin=pn; cases d<;>exact hp,by show(s.put d v.aF).nx=nx; cases d<;>exact hn,hk⟩
 have abx: ∀ {op:nS} {v:V},bG op=true->Ok s op v->K (iE d v m) h->lN P dr n d op (Kz N pn nx K) s:=fun {op v} hq ho hk=>by
  rw[bD hq]
  refine⟨ho.1,?_⟩
  rw[ho.2]
  have:=fin hk
  rw[<- hh] at this
  rw[show({(s.put d v.aF) with hp:=s.hp}:AS)=s.put d v.aF by cases d<;>rfl] at this
  exact this
 unfold abr at q
 split at q
 ·rename_i ty k x
  split at q
  ·rename_i v e
   split at q
   rename_i v' s' hb
   cases g:Es k [v']&&v'.jX h&&zS k with
   |false=>rw[g] at q; exact q.elim
   |true =>
    rw[g] at q
    simp only[Bool.and_eq_true] at g
    simp only[cond_true] at q
    obtain⟨hs,hk⟩:=ku q
    have ev:s.ev x=v'.aF:=by rw[R.ev e]; exact dQ hb (hs (.inl rfl))
    simp only[lN]
    rw[ev,Ot g.1.1,hh,V.qZ g.1.2,g.2]
    refine⟨by simp,?_⟩
    have:=fin hk
    rw[cu] at this
    exact this
  ·exact q.elim
 ·rename_i ty k z
  cases g:z.kd==k&&z.jX h.au&&z.free&&zS k with
  |false=>rw[g] at q; exact q.elim
  |true =>
   rw[g] at q
   simp only[lN]
   rw[hh,g]
   refine⟨rfl,?_⟩
   have:=fin q
   rw[cu] at this
   simp only[Option.map_some,OV.aA,xJ] at this
   exact this
 ·rename_i ty k bytes z x y
  split at q
  ·rename_i a b e1 e2
   cases g:z.kd==k&&z.jX h.au&&z.free&&zS k with
   |false=>rw[g] at q; exact q.elim
   |true =>
    rw[g] at q
    simp only[cond_true] at q
    split at q
    ·rename_i r er
     obtain⟨c,hk⟩:=q
     simp only[lN]
     rw[R.ev e1,R.ev e2]
     simp only[V.aF]
     rw[hh,g]
     refine⟨rfl,c,?_⟩
     have:=fin hk
     rw[cu] at this
     simp only[Option.map_some,OV.aA,V.aW,List.append_nil] at this
     have hr:r.aW=List.replicate a.toNat z:=by
      cases hz:isZero (.int a) with
      |false=>rw[hz] at er; exact abu er
      |true =>
       rw[hz] at er; cases er
       unfold isZero at hz
       split at hz
       ·rename_i e; cases e; rfl
       ·cases hz
     rw[hr] at this
     exact this
    ·obtain⟨c,hk⟩:=q
     simp only[lN]
     rw[R.ev e1,R.ev e2]
     simp only[V.aF]
     rw[hh,g]
     refine⟨rfl,c,?_⟩
     have:=fin hk
     rw[cu] at this
     simp only[Option.map_some,OV.aA] at this
     rw[iO,List.map_replicate,xJ] at this
     exact this
  ·exact q.elim
 ·rename_i k x v
  split at q
  ·rename_i i j off v0 e1 e2
   split at q
   rename_i v' s' hb
   cases g:Es k [v']&&v'.jX h with
   |false=>rw[g] at q; exact q.elim
   |true =>
    rw[g] at q
    simp only[Bool.and_eq_true] at g
    simp only[cond_true] at q
    have fin2: ∀ {h':Hz},K m h'->Kz N pn nx K {s with hp:=h'.au}:=fun {h'} hk=>⟨m,h',hl,R,rfl,hp,hn,hk⟩
    have ex:s.ev x= .ptr i j off:=R.ev e1
    simp only[lN]
    rw[ex]
    simp only
    split at q
    ·rename_i ty ko w eo
     rw[hh,aQ eo]
     simp only[OV.aA]
     cases hj:Nat.beq j 0 with
     |false=>rw[hj] at q; exact q.elim
     |true =>
      have:=eY hj; subst this
      rw[hj] at q
      simp only[cond_true] at q
      cases hb2:(Nat.beq off 0&&Nat.beq ko k) with
      |true =>
       rw[hb2] at q
       simp only[cond_true] at q
       obtain⟨hs,hk⟩:=ku q
       have ev:s.ev v=v'.aF:=by rw[R.ev e2]; exact dQ hb (hs (.inl rfl))
       simp only[Bool.and_eq_true] at hb2
       have f1:=eY hb2.1; have f2:=eY hb2.2; subst f1; subst f2
       rw[ev,Ot g.1,V.qZ g.2]
       refine⟨by simp,by simp,by simp,?_⟩
       have:=fin2 hk
       rw[cu] at this
       simp only[BEq.rfl,Bool.and_self,cond_true,List.set_cons_zero]
       exact this
      |false =>
       rw[hb2] at q
       simp only[cond_false] at q
       cases hc:(!(Nat.beq ko 0)&&og (bn ko) off k) with
       |false=>rw[hc] at q; exact q.elim
       |true =>
        rw[hc] at q
        simp only[cond_true] at q
        split at q
        ·rename_i w' hw
         rw[V.force_eq] at q
         obtain⟨hs,hk⟩:=ku q
         have ev:s.ev v=v'.aF:=by rw[R.ev e2]; exact dQ hb (hs (.inl rfl))
         have hb':(off==0&&ko==k)=false:=by
          rw[Bool.and_eq_false_iff] at hb2 ⊢
          rcases hb2 with hb2|hb2
          ·left; simpa using Nat.ne_of_beq_eq_false hb2
          ·right; simpa using Nat.ne_of_beq_eq_false hb2
         simp only[Bool.and_eq_true] at hc
         rw[ev,Ot g.1,V.qZ g.2]
         refine⟨by simp,by simp,?_,?_⟩
         ·simp only[hb',Bool.false_or,Bool.and_eq_true]; exact⟨Y6 hc.1,hc.2⟩
         ·have:=fin2 hk
          rw[cu] at this
          simp only[hb',cond_false,List.set_cons_zero,List.getD_cons_zero]
          have ew:w.aF.splice off v'.aF=w'.aF:=by
           unfold setCells at hw
           split at hw
           ·rename_i l c f1 f2
            cases hw
            unfold T.splice
            rw[V.Gx f1,V.Gx f2]
            simp only[V.aF,wP,JW,JX,dL]
           ·cases hw
          rw[ew]
          exact this
        ·exact q.elim
    ·rename_i ty ko r eo
     rw[hh,aQ eo]
     simp only[OV.aA,V.aW,List.append_nil]
     cases hb2:(Nat.beq off 0&&Nat.beq ko k) with
     |false=>rw[hb2] at q; exact q.elim
     |true =>
      rw[hb2] at q
      simp only[cond_true] at q
      split at q
      ·rename_i r' hr
       obtain⟨hs,hk0⟩:=ku q
       obtain⟨Zd,hk⟩:=hk0
       have ev:s.ev v=v'.aF:=by rw[R.ev e2]; exact dQ hb (hs (.inl rfl))
       simp only[Bool.and_eq_true] at hb2
       have f1:=eY hb2.1; have f2:=eY hb2.2; subst f1; subst f2
       rw[Rw.zA] at Zd
       rw[ev,Ot g.1,V.qZ g.2]
       refine⟨by simp,by rw[Rw.dZ]; omega,by simp,?_⟩
       have:=fin2 hk
       rw[cu] at this
       simp only[Option.map_some,OV.aA,V.aW,List.append_nil,Rw.U3 hr] at this
       simp only[BEq.rfl,Bool.and_self,cond_true]
       exact this
      ·obtain⟨hs,hk0⟩:=ku q
       obtain⟨Zd,hk⟩:=hk0
       have ev:s.ev v=v'.aF:=by rw[R.ev e2]; exact dQ hb (hs (.inl rfl))
       simp only[Bool.and_eq_true] at hb2
       have f1:=eY hb2.1; have f2:=eY hb2.2; subst f1; subst f2
       rw[Rw.zA] at Zd
       rw[ev,Ot g.1,V.qZ g.2]
       refine⟨by simp,by rw[Rw.dZ]; omega,by simp,?_⟩
       have:=fin2 hk
       rw[cu] at this
       simp only[Option.map_some,OV.aA] at this
       rw[iO,List.map_set,<- iO,Rw.Y3] at this
       simp only[BEq.rfl,Bool.and_self,cond_true]
       exact this
    ·rename_i ty ko y eo
     rw[hh,aQ eo]
     simp only[OV.aA]
     cases hb2:(Nat.beq off 0&&Nat.beq ko k) with
     |false=>rw[hb2] at q; exact q.elim
     |true =>
      rw[hb2] at q
      simp only[cond_true] at q
      obtain⟨hs,hk0⟩:=ku q
      obtain⟨Zd,hk⟩:=hk0
      have ev:s.ev v=v'.aF:=by rw[R.ev e2]; exact dQ hb (hs (.inl rfl))
      simp only[Bool.and_eq_true] at hb2
      have f1:=eY hb2.1; have f2:=eY hb2.2; subst f1; subst f2
      rw[ev,Ot g.1,V.qZ g.2]
      refine⟨by simp,by rw[dL]; exact Zd,by simp,?_⟩
      have:=fin2 hk
      rw[cu] at this
      simp only[Option.map_some,OV.aA] at this
      rw[iO,List.map_set,<- iO] at this
      simp only[BEq.rfl,Bool.and_self,cond_true]
      exact this
    ·exact q.elim
  ·rename_i x0 v0 _ e1 e2
   split at q
   ·rename_i i j off s0 hb0
    split at q
    rename_i v' s' hb
    cases g:Es k [v']&&v'.jX h&&Nat.beq off 0 with
    |false=>rw[g] at q; exact q.elim
    |true =>
     rw[g] at q
     simp only[Bool.and_eq_true] at g
     simp only[cond_true] at q
     obtain⟨hs,hk⟩:=ku q
     have hs2:=Sd.lD.1 (hs (.inl rfl))
     have ex:s.ev x= .ptr i j off:=by rw[R.ev e1,dQ hb0 hs2.1]; rfl
     have ev:s.ev v=v'.aF:=by rw[R.ev e2]; exact dQ hb hs2.2
     have f1:=eY g.2; subst f1
     obtain⟨ty,r,r',h',a1,a2,a3,a4,a5⟩:=hk.ok
     rw[Rw.zA] at a3
     simp only[lN]
     rw[ex]
     simp only
     rw[hh,aQ a1]
     simp only[OV.aA,V.aW,List.append_nil]
     rw[ev,Ot g.1.1,V.qZ g.1.2]
     refine⟨by simp,by rw[Rw.dZ]; omega,by simp,?_⟩
     simp only[BEq.rfl,Bool.and_self,cond_true]
     rw[<- Rw.U3 a2]
     refine⟨m,h',hl,R,?_,hp,hn,a5⟩
     rw[a4]; simp only[OV.aA,V.aW,List.append_nil]
   ·exact q.elim
  ·exact q.elim
 ·rename_i k x
  split at q
  ·rename_i v0 e1
   split at q
   ·rename_i i j off s0 hb0
    split at q
    ·rename_i ty ko y eo
     cases hb2:(Nat.beq off 0&&Nat.beq ko k) with
     |false=>rw[hb2] at q; exact q.elim
     |true =>
      rw[hb2] at q
      simp only[cond_true] at q
      obtain⟨hs,hk⟩:=ku q
      have ex:s.ev x= .ptr i j off:=by rw[R.ev e1,dQ hb0 (hs (.inl rfl))]; rfl
      simp only[Bool.and_eq_true] at hb2
      have f1:=eY hb2.1; have f2:=eY hb2.2; subst f1; subst f2
      obtain⟨v,hv,hk⟩:=hk.ok
      rw[V.seq_eq] at hk
      refine abx rfl ?_ hk
      have hj:j<y.length:=by
       rcases Nat.lt_or_ge j y.length with h|h
       ·exact h
       ·rw[List.getElem?_eq_none h] at hv; cases hv
      unfold Ok; simp only[qc,qt]; rw[ex]
      simp only[hh,aQ eo,OV.aA]
      simp only[BEq.rfl,Bool.and_self,Bool.true_or,cond_true,dL]
      exact⟨⟨hj,trivial⟩,xK hv⟩
    ·exact q.elim
   ·rename_i i j off s0 hb0
    obtain⟨hs,hk⟩:=ku q
    have ex:s.ev x=(V.ptr i j off).aF:=by rw[R.ev e1,dQ hb0 (hs (.inl rfl))]; rfl
    obtain⟨ty,ko,r,eo,hk⟩:=hk.ok
    split at hk
    ·rename_i v s' hq
     obtain⟨hs',hk⟩:=ku hk
     rw[V.seq_eq] at hk
     exact abx rfl (TG hh (u:=.ptr i j off) (by simp only[ldZ,eo]; exact hq) (hs' (.inl rfl)) ex) hk
    ·exact hk.elim
   ·exact q.elim
  ·exact q.elim
 ·rename_i k x i
  split at q
  ·rename_i v0 w0 e1 e2
   split at q
   ·rename_i o s0 n0 s1 hb0 hb1
    obtain⟨hs,hk⟩:=ku q
    have hs2:=Sd.lD.1 (hs (.inl rfl))
    have ex:s.ev x=(V.own o).aF:=by rw[R.ev e1,dQ hb0 hs2.1]; rfl
    have ei:s.ev i=(V.int n0).aF:=by rw[R.ev e2,dQ hb1 hs2.2]
    obtain⟨ty,ko,r,eo,hk⟩:=hk.ok
    cases hb2:Nat.beq ko k with
    |false=>rw[hb2] at hk; exact hk.elim
    |true =>
     rw[hb2] at hk
     simp only[cond_true] at hk
     obtain⟨hr,hk⟩:=hk
     have hok:Ok s (.ia k x i) (.ptr o n0.toNat 0):=Y7 hh (u:=.own o) (v:=.int n0) (r:=.ptr o n0.toNat 0) (sd:=.yes (r.rng n0)) (by simp only[iaZ,eo,hb2,dI,cond_true]) hr ex ei
     exact abx (v:=.pin o n0.toNat 0) rfl ⟨hok.1,hok.2⟩ hk
   ·exact q.elim
  ·exact q.elim
 ·rename_i str x
  split at q
  ·rename_i v0 e1
   split at q
   ·rename_i o s0 hb0
    obtain⟨hs,hk⟩:=ku q
    have ex:s.ev x=(V.own o).aF:=by rw[R.ev e1,dQ hb0 (hs (.inl rfl))]; rfl
    obtain⟨ty,ko,r,eo,hk⟩:=hk.ok
    cases hb2:(!str&& !(Nat.beq ko fO)) with
    |false=>rw[hb2] at hk; exact hk.elim
    |true =>
     rw[hb2] at hk
     simp only[cond_true] at hk
     rw[V.seq_eq] at hk
     exact abx rfl (UW hh (u:=.own o) (r:=r.lenV) (sd:=.no) (by simp only[abj,eo,hb2,dI,cond_true]) ex) hk
   ·exact q.elim
  ·exact q.elim
 ·rename_i ty k bytes x y
  split at q
  ·rename_i vx vy e1 e2
   split at q
   ·rename_i r' x' es
    simp only[lN]
    rw[R.ev e1,R.ev e2,hh,abv es]
    simp only
    split at q
    ·rename_i k'
     obtain⟨c,hk⟩:=q
     have e0:(V.row k' true Rw.nil).aF= .sl k' true []:=rfl
     rw[e0]
     unfold nK at c
     rw[yS] at c
     refine⟨.inr rfl,.inl (.inl rfl),by simpa using c.1,by simpa using c.2,?_⟩
     have:=fin hk
     rw[cu] at this
     exact this
    ·rename_i k' r hnn
     cases hb2:Nat.beq k' k with
     |false=>rw[hb2] at q; exact q.elim
     |true =>
      rw[hb2] at q
      have:=eY hb2; subst this
      simp only[cond_true] at q
      split at q
      ·rename_i w hw
       obtain⟨c1,c2,hk⟩:=q.ok
       simp only[V.aF]
       unfold nK at c2
       rw[yS] at c1 c2
       refine⟨.inl trivial,?_,by rw[Rw.dZ]; exact c2.1,by rw[Rw.dZ]; exact c2.2,?_⟩
       ·rcases c1 with (c|c)|⟨c,hk2⟩
        ·left; left; exact List.eq_nil_of_length_eq_zero (by rw[Rw.dZ]; exact c)
        ·left; right; intro e; rw[e] at c; simp at c
        ·right
         refine⟨c,?_⟩
         have f1:=fin hk2
         rw[<- hh] at f1
         rw[show({(s.put d (V.row k' true r).aF) with hp:=s.hp}:AS)=s.put d (.sl k' true r.aW) by cases d<;>rfl] at f1
         exact f1
       ·have:=fin hk
        rw[cu] at this
        simp only[Option.map_some,OV.aA,Rw.II hw,List.append_assoc] at this
        exact this
      ·exact q.elim
    ·rename_i i
     split at q
     ·rename_i ty' ko r xx eo
      cases hb2:(Nat.beq ko k&&Nat.beq ty' ty) with
      |false=>rw[hb2] at q; exact q.elim
      |true =>
       rw[hb2] at q
       simp only[cond_true] at q
       simp only[Bool.and_eq_true] at hb2
       have f1:=eY hb2.1; have f2:=eY hb2.2; subst f1; subst f2
       split at q
       ·rename_i w z hw
        obtain⟨c,hk⟩:=q
        simp only[V.aF,aQ eo,OV.aA]
        unfold nK at c
        rw[yS,yS] at c
        refine⟨by simp,c.1,c.2,?_⟩
        have:=fin hk
        rw[cu,cu] at this
        simp only[Option.map_some,Option.map_none,OV.aA,abw hw] at this
        exact this
       ·exact q.elim
     ·rename_i ty' ko y eo
      cases hb2:(Nat.beq ko k&&Nat.beq ty' ty) with
      |false=>rw[hb2] at q; exact q.elim
      |true =>
       rw[hb2] at q
       simp only[cond_true] at q
       simp only[Bool.and_eq_true] at hb2
       have f1:=eY hb2.1; have f2:=eY hb2.2; subst f1; subst f2
       obtain⟨c,hk⟩:=q
       simp only[V.aF,aQ eo,OV.aA]
       unfold nK at c
       rw[yS] at c
       refine⟨by simp,by rw[dL]; exact c.1,by rw[dL]; exact c.2,?_⟩
       have:=fin hk
       rw[cu,cu] at this
       simp only[Option.map_some,Option.map_none,OV.aA,wP,Rw.Y3] at this
       exact this
     ·exact q.elim
    ·rename_i i
     obtain⟨r,h',a1,a2,hk⟩:=q.ok
     split at hk
     ·rename_i w hw
      obtain⟨c,hk⟩:=hk
      simp only[V.aF,aQ a1,OV.aA,V.aW,List.append_nil]
      unfold nK at c
      rw[yS] at c
      refine⟨by simp,by rw[Rw.dZ]; exact c.1,by rw[Rw.dZ]; exact c.2,?_⟩
      have:=fin hk
      rw[cu,a2] at this
      simp only[Option.map_some,OV.aA,Rw.II hw,List.append_assoc] at this
      exact this
     ·exact hk.elim
    ·exact q.elim
   ·exact q.elim
  ·exact q.elim
 ·rename_i k z x
  split at q
  ·rename_i i lo hi e
   split at q
   ·rename_i ty ko r eo
    cases g:(Nat.beq ko k&&z.kd==k&&z.jX h.au&&z.free) with
    |false=>rw[g] at q; exact q.elim
    |true =>
     rw[g] at q
     simp only[cond_true] at q
     obtain⟨⟨c1,c2⟩,hk⟩:=q
     simp only[Bool.and_eq_true] at g
     obtain⟨⟨⟨g1,g2⟩,g3⟩,g4⟩:=g
     have f1:=eY g1; subst f1
     simp only[lN]
     rw[R.ev e]
     simp only[V.aF,hh,aQ eo,OV.aA]
     refine⟨by simp[g2,g3,g4],by simp[Rw.dZ,c2,V.aW],?_⟩
     have el:(r.take lo).aW++V.aW (List.replicate (hi-lo) (D9 z))=List.take lo (r.aW++V.aW [])++List.replicate (hi-lo) z++List.drop hi (r.aW++V.aW []):=by
      rw[Rw.ET,iO,List.map_replicate,xJ]
      simp[V.aW,Rw.dZ,c2]
     cases d with
     |none =>
      simp only at hk
      refine⟨_,_,hl,R,?_,hp,hn,hk⟩
      rw[cu]
      simp only[Option.map_some,OV.aA,el]
     |some dd =>
      simp only at hk
      have:=fin hk
      rw[cu] at this
      simp only[Option.map_some,OV.aA,el] at this
      exact this
   ·exact q.elim
  ·exact q.elim
 ·rename_i ty k z nn ps
  split at q
  ·rename_i vs s' hb
   split at q
   ·rename_i l hl
    cases g:((z.kd==k)&&z.free&&Es k vs&&CU h vs&&Nat.ble (nn*bn k) 16777216&&zS k) with
    |false=>rw[g] at q; exact q.elim
    |true =>
     rw[g] at q
     simp only[cond_true] at q
     obtain⟨hs,hk⟩:=ku q
     have he:=uw R hb (hs (.inl rfl))
     have he':(ps.map fun p=>s.ev p.2)=V.aW vs:=by rw[<- he]; simp
     simp only[Bool.and_eq_true] at g
     obtain⟨⟨⟨⟨⟨g1,g2⟩,g3⟩,g4⟩,g5⟩,g6⟩:=g
     obtain⟨i1,i2⟩:=UY hl he' g3
     have e:V.aW (List.replicate nn (D9 z))=List.replicate nn z:=by rw[iO,List.map_replicate,xJ]
     rw[e] at i2
     simp only[lN]
     rw[i1,i2,he',hh,Gy g4,g1,g2,g5,g6]
     refine⟨rfl,?_⟩
     have:=fin hk
     rw[cu] at this
     simp only[Option.map_some,OV.aA,Rw.aW,List.nil_append] at this
     exact this
   ·exact q.elim
  ·exact q.elim
 ·rename_i x
  split at q
  ·rename_i k' f r e
   obtain⟨q1,q2⟩:=q
   simp only[lN]
   rw[R.ev e]
   have f1:=fun hz=>fin (q1 hz)
   have f2:=fin q2
   rw[<- hh] at f1 f2
   refine⟨fun hl=>?_,?_⟩
   ·have:=f1 (by rw[<- Rw.dZ]; exact congrArg List.length hl)
    rw[show({(s.put d (V.bool true).aF) with hp:=s.hp}:AS)=s.put d (.lit (.bool true)) by cases d<;>rfl] at this
    exact this
   ·rw[show({(s.put d (V.bool false).aF) with hp:=s.hp}:AS)=s.put d (.lit (.bool false)) by cases d<;>rfl] at f2
    exact f2
  ·rename_i i e
   split at q
   ·rename_i ty ko r eo
    cases hb:Nat.beq ko fO with
    |true=>rw[hb] at q; exact q.elim
    |false =>
     rw[hb] at q
     obtain⟨q1,q2⟩:=q
     simp only[lN]
     rw[R.ev e]
     have f1:=fun hz=>fin (q1 hz)
     have f2:=fin q2
     rw[<- hh] at f1 f2
     simp only[V.aF,hh,aQ eo,OV.aA]
     refine⟨fun hl=>?_,?_,Nat.ne_of_beq_eq_false hb⟩
     ·have:=f1 (by rw[<- Rw.dZ]; simpa [V.aW] using congrArg List.length hl)
      rw[show({(s.put d (V.bool true).aF) with hp:=s.hp}:AS)=s.put d (.lit (.bool true)) by cases d<;>rfl] at this
      exact this
     ·rw[show({(s.put d (V.bool false).aF) with hp:=s.hp}:AS)=s.put d (.lit (.bool false)) by cases d<;>rfl] at f2
      exact f2
   ·exact q.elim
  ·exact q.elim
 ·rename_i ty
  simp only[lN]
  have:=fin q
  rw[cu] at this
  rw[hh]
  exact this
 ·rename_i z x i
  split at q
  ·rename_i o k e1 e2
   split at q
   ·rename_i ty es eo
    obtain⟨q1,q2⟩:=q
    rw[bD rfl]
    simp only[qc,qt]
    rw[R.ev e1,R.ev e2]
    simp only[V.aF,T.int,hh,aQ eo,OV.aA,List.map_nil,List.append_nil,adT]
    refine⟨trivial,?_⟩
    cases hg:Hw k es with
    |some l =>
     have f1:=fin (q1 l hg)
     rw[<- hh] at f1
     rw[show({(s.put d (V.cO [.row 0 false (.bools l),.bool true]).aF) with hp:=s.hp}:AS)=s.put d (.cO [.sl 0 false (l.map T.bool),.lit (.bool true)]) by cases d<;>rfl] at f1
     exact f1
    |none =>
     have f2:=fin (q2 hg)
     rw[<- hh] at f2
     rw[show({(s.put d (V.cO [D9 z,.bool false]).aF) with hp:=s.hp}:AS)=s.put d (.cO [(D9 z).aF,.lit (.bool false)]) by cases d<;>rfl,xJ] at f2
     exact f2
   ·exact q.elim
  ·exact q.elim
 ·rename_i x i v
  split at q
  ·rename_i o k w e1 e2 e3
   split at q
   rename_i v' s' hb
   split at q
   ·rename_i ty es eo
    cases g:Es 0 [v']&&v'.jX h with
    |false=>rw[g] at q; exact q.elim
    |true =>
     rw[g] at q
     simp only[Bool.and_eq_true] at g
     simp only[cond_true] at q
     obtain⟨hs,c,hk⟩:=ku q
     have ev:s.ev v=v'.aF:=by rw[R.ev e3]; exact dQ hb (hs (.inl rfl))
     have hkd:=Ot g.1
     have hst:=V.qZ g.2
     simp only[lN]
     rw[R.ev e1,R.ev e2,ev]
     simp only[V.aF,T.int,hh,aQ eo,OV.aA,List.map_nil,List.append_nil]
     refine⟨trivial,?_,?_⟩
     ·rw[hkd]
      have:v'.aF.yF h.au=true:=by
       revert hst hkd
       cases v'.aF<;>simp[T.jX,T.kd]
      rw[this]; rfl
     ·have hK:Kz N pn nx K {s with hp:=Hz.au ((o,some (.map ty es [(k,v')]))::h)}:=⟨m,_,hl,R,rfl,hp,hn,hk⟩
      rw[cu] at hK
      have:=ae5 (v:=v'.aF) c
      simp only[T.int] at this
      rw[this]
      exact hK
   ·exact q.elim
  ·exact q.elim
 ·exact q.elim
end
section
variable {P:Program} {m:Fm} {h:Hz}
theorem Kz.put{N pn nx:Nat}{K:Fm->Hz->Prop}{s:AS}{d:Option Nat}{v:V}{t:T}{h':Hz}(hl:s.fr.length=N)(hd: ∀ i,d=some i->i<N)(R:Rp m s.fr)(hp:s.pin=pn)(hn:s.nx=nx)(ht:t=v.aF)(hk:K (iE d v m) h') :
  Kz N pn nx K {(s.put d t) with hp:=h'.au}:=by
 subst ht
 exact⟨_,h',by show(s.put d v.aF).fr.length=N; rw[U0,hl],R.put (v:=v) (fun i e=>by rw[hl]; exact hd i e) rfl,rfl,by show(s.put d v.aF).pin=pn; cases d<;>exact hp,by show(s.put d v.aF).nx=nx; cases d<;>exact hn,hk⟩
theorem JZ{N pn nx n:Nat}{K:Fm->Hz->Prop}{KW:Nat->Fm->Hz->Prop}{s:AS}{d:Option Nat}{dr:Bool}{g:Option Bool}{f:FuncId}{l:List V}(hl:s.fr.length=N)(hd: ∀ i,d=some i->i<N)(R:Rp m s.fr)(hh:s.hp=h.au)(hp:s.pin=pn)(hn:s.nx=nx)
  (hg:g=none\/g=some true) (q:ah P dr g f l h n (fun v h'=>v.seq fun v=>K (iE d (rQ g v) m) h') (fun k v h'=>v.seq fun v=>KW k (iE d v m) h')) (hq:dr=true-> ∀ (v:V) (h':Hz),¬ (v.seq fun v=>KW 0 (iE d v m) h')) :
  mP P dr n d f (V.aW l) (Kz N pn nx K) s\/(dr=false/\ ∃ k,jw P f (V.aW l) s.hp n k fun t hp=>Kz N pn (nx+k) (KW k) {(s.put d t) with hp:=hp,nx:=s.nx+k}):=by
 unfold mP
 rw[hh]
 rcases q.ok with q|⟨rfl,rfl,k,q⟩|⟨_,hdr,_,⟨_,_,v,o,_,_,hk⟩,_⟩
 rotate_left
 rotate_left
 ·exact absurd hk (hq hdr _ _)
 rotate_left
 ·refine .inr ⟨rfl,k,q.mono ?_⟩
  rintro t hp' ⟨v,h',rfl,rfl,hk⟩
  rw[V.seq_eq] at hk
  obtain⟨m',h'',a1,a2,a3,a4,_,a6⟩:=Kz.put (K:=KW k) hl hd R hp hn rfl hk
  exact⟨m',h'',a1,a2,a3,a4,by show s.nx+k=nx+k; rw[hn],a6⟩
 left
 rcases hg with rfl|rfl
 ·refine aT.mono q ?_
  rintro t hp' ⟨v,h',e1,e2,e3,hk⟩
  rw[V.seq_eq] at hk
  subst e2
  refine⟨fun e=>⟨by rw[(e3 e).1],(e3 e).2⟩,Kz.put (v:=v) hl hd R hp hn e1 hk⟩
 ·rcases q with ⟨v,c,hf,hk⟩|⟨hdr,c,_⟩
  rotate_left
  ·refine aT.mono (c rfl) ?_
   rintro t hp' ⟨v,h',e1,e2,hk⟩
   rw[V.seq_eq] at hk
   subst e2
   exact⟨fun e=>(by rw[hdr] at e; cases e),Kz.put (v:=rQ (some true) v) hl hd R hp hn (e1.trans (GH v).symm) hk⟩
  rw[V.seq_eq] at hk
  refine aT.mono (c rfl) ?_
  rintro t hp' ⟨e1,e2⟩
  subst e2
  refine⟨fun _=>⟨rfl,by rw[e1]; exact V.nZ v hf⟩,Kz.put (v:=rQ (some true) v) hl hd R hp hn (by rw[e1]; exact(GH v).symm) hk⟩
theorem xM{N pn nx n:Nat}{K:Fm->Hz->Prop}{s:AS}{d:Option Nat}{dr:Bool}{g:Option Bool}{f:FuncId}{l:List V}(hl:s.fr.length=N)(hd: ∀ i,d=some i->i<N)(R:Rp m s.fr)(hh:s.hp=h.au)(hp:s.pin=pn)(hn:s.nx=nx)
  (hg:g=none\/g=some true) (q:ah P dr g f l h n (fun v h'=>v.seq fun v=>K (iE d (rQ g v) m) h') (fun _ _ _=>False)):mP P dr n d f (V.aW l) (Kz N pn nx K) s:=by
 rcases JZ (KW:=fun _ _ _=>False) hl hd R hh hp hn hg ⟨q.ok.imp id fun h=>h.imp (fun⟨a,b,k,c⟩=>⟨a,b,k,c.mono fun _ _ ⟨_,_,_,_,h⟩=>h.elim⟩) (fun⟨a,b,d,c⟩=>⟨a,b,d,c.mono fun _ _ ⟨_,_,_,_,h⟩=>h.elim⟩)⟩ (fun _ v h' hk=>by rw[V.seq_eq] at hk; exact hk) with h|⟨_,k,⟨t,hp',hk⟩,_⟩
 ·exact h
 ·obtain⟨_,_,_,_,_,_,_,hk⟩:=hk; exact hk.elim
theorem ah.guard{dr:Bool}{f:FuncId}{args:List V}{n:Nat}{K:V->Hz->Prop}{KW:Nat->V->Hz->Prop}(q:ah P dr (some false) f args h n K KW): ∃ v,K v h:=by
 rcases q.ok with (⟨v,_,_,k⟩|⟨_,_,k⟩)|⟨h1,_⟩|⟨h1,_⟩
 ·exact⟨v,k⟩
 ·exact⟨_,k rfl⟩
 ·cases h1
 ·cases h1
theorem WL{dr fl:Bool}{a b c:Prop}:DN dr fl a b c↔(dr=false/\a)\/(dr=true/\bif fl then c else b):=by
 cases dr<;>cases fl<;>simp[DN]
theorem tu{dr fl:Bool}{C:Bool->Prop}(q:DN dr fl (C false) (C true) (C false)):C (dr&& !fl):=by
 cases dr<;>cases fl<;>exact q
theorem TK{N pn nx n:Nat}{KK:Nat->Fm->Hz->Prop}{s:AS}{o:aJ}{dr:Bool}(hl:s.fr.length=N)(hd: ∀ i,o.d=some i->i<N)(R:Rp m s.fr)(hh:s.hp=h.au)(hp:s.pin=pn)(hn:s.nx=nx)
  (q:adR P dr nx n o KK m h):(gv o.g s=some true/\jg o s/\(lN P (o.dr dr) n o.d o.op (Kz N pn nx (KK 0)) s\/opW P dr n o.d o.op (fun s'=> ∃ k,Kz N pn (nx+k) (KK k) s') s))\/(gv o.g s=some false/\Kz N pn nx (KK 0) (s.put o.d T.un)):=by
 unfold adR at q
 split at q
 ·exact q.elim
 ·rename_i g hg
  cases hf:HY nx o m with
  |false=>rw[hf] at q; exact q.elim
  |true =>
   rw[hf] at q
   simp only[cond_true] at q
   have hfl:jg o s:=JY R (by rw[hn]; exact hf)
   have un: ∀ {v:V} {h':Hz},h'=h->KK 0 (iE o.d (rQ (some false) v) m) h'->Kz N pn nx (KK 0) (s.put o.d T.un):=fun {v h'} e hk=>by
    subst e
    have:=Kz.put (s:=s) (v:=rQ (some false) v) (t:=T.un) hl hd R hp hn (TI v).symm hk
    rw[<- hh] at this
    have e2:({(s.put o.d T.un) with hp:=s.hp}:AS)=s.put o.d T.un:=by
     cases o.d<;>rfl
    rw[e2] at this
    exact this
   rcases WJ R hg with ⟨h1,h2⟩|⟨h1,rfl⟩
   ·refine .inl ⟨h1,hfl,?_⟩
    split at q
    ·rename_i f xs eo
     split at q
     ·rename_i l sd hb
      obtain⟨hs,q⟩:=ku q
      have ed:o.dr dr=(dr&& !o.fl):=by unfold aJ.dr; rw[eo]
      rw[ed,eo]
      show mP P (dr&& !o.fl) n o.d f (xs.map s.ev) _ s\/(dr=false/\ ∃ k,jw P f (xs.map s.ev) s.hp n k _)
      rw[uw R hb (hs h2)]
      split at q
      ·rw[WL] at q
       rcases q with ⟨e,q⟩|q
       ·rw[e]
        exact(JZ (g:=none) hl hd R hh hp hn h2 q (fun e=>by cases e)).imp id fun⟨a,k,b⟩=>⟨a,k,b.mono fun _ _ hk=>⟨k,hk⟩⟩
       ·obtain⟨hdt,q⟩:=q
        refine .inl (xM (g:=none) hl hd R hh hp hn h2 ?_)
        rw[hdt]
        cases hf2:o.fl<;>rw[hf2] at q<;>exact q
      ·rename_i bb _
       exact .inl (xM hl hd R hh hp hn h2 (tu (C:=fun dr=>ah P dr (some bb) f l h n (fun v h'=>v.seq fun v=>KK 0 (iE o.d (rQ (some bb) v) m) h') (fun _ _ _=>False)) q))
     ·exact q.elim
    ·rename_i x xs eo
     split at q
     ·rename_i v0 l sd e1 hb
      split at q
      ·rename_i f cap s0 hb0
       obtain⟨hs,q⟩:=ku q
       have hs2:=Sd.lD.1 (hs h2)
       have ed:o.dr dr=(dr&& !o.fl):=by unfold aJ.dr; rw[eo]
       rw[ed,eo]
       left
       simp only[lN]
       rw[R.ev e1,dQ hb0 hs2.1]
       simp only[V.aF]
       rw[uw R hb hs2.2,<- wP]
       cases hbl:Nat.blt f 4096 with
       |true=>rw[hbl] at q; exact xM hl hd R hh hp hn h2 (tu (C:=fun dr=>ah P dr g f (l++cap) h n (fun v h'=>v.seq fun v=>KK 0 (iE o.d (rQ g v) m) h') (fun _ _ _=>False)) q)
       |false=>rw[hbl] at q; exact xM (l:=.agg cap::l) hl hd R hh hp hn h2 (tu (C:=fun dr=>ah P dr g (f % 4096) (.agg cap::l) h n (fun v h'=>v.seq fun v=>KK 0 (iE o.d (rQ g v) m) h') (fun _ _ _=>False)) q)
      ·exact q.elim
     ·exact q.elim
    ·rename_i hn1 hn2
     have ed:o.dr dr=dr:=by
      unfold aJ.dr
      split
      ·rename_i e; exact absurd e (hn1 _ _)
      ·rename_i e; exact absurd e (hn2 _ _)
      ·rfl
     rw[ed]
     left
     split at q
     ·rename_i v sd hq
      obtain⟨hs,hk⟩:=ku q
      rw[V.seq_eq] at hk
      obtain⟨hqu,hc,ht⟩:=Za R hh hq (hs h2)
      rw[bD hqu]
      refine⟨hc,?_⟩
      have:=Kz.put (s:=s) (v:=rQ g v) (t:=qt s o.op) hl hd R hp hn (by rw[ht]; rcases h2 with rfl|rfl; rfl; exact(GH v).symm) hk
      rw[<- hh] at this
      have e2:({(s.put o.d (qt s o.op)) with hp:=s.hp}:AS)=s.put o.d (qt s o.op):=by cases o.d<;>rfl
      rw[e2] at this
      exact this
     ·split at q
      ·exact MO hl hd R hh hp hn q
      ·rename_i b _
       rcases h2 with h2|h2
       ·cases h2
       ·cases h2
        obtain⟨qa,_⟩:=q
        exact MO hl hd R hh hp hn (qa rfl)
   ·refine .inr ⟨h1,?_⟩
    split at q
    ·split at q
     ·obtain⟨hs,q⟩:=ku q
      obtain⟨v,hk⟩:=ah.guard (tu (C:=fun dr=>ah P dr (some false) _ _ h n (fun v h'=>v.seq fun v=>KK 0 (iE o.d (rQ (some false) v) m) h') (fun _ _ _=>False)) q)
      rw[V.seq_eq] at hk
      exact un rfl hk
     ·exact q.elim
    ·split at q
     ·rename_i v0 l sd e1 hb
      split at q
      ·rename_i f cap s0 hb0
       obtain⟨hs,q⟩:=ku q
       cases hbl:Nat.blt f 4096 with
       |true =>
        rw[hbl] at q
        obtain⟨v,hk⟩:=ah.guard (tu (C:=fun dr=>ah P dr (some false) f (l++cap) h n (fun v h'=>v.seq fun v=>KK 0 (iE o.d (rQ (some false) v) m) h') (fun _ _ _=>False)) q)
        rw[V.seq_eq] at hk
        exact un rfl hk
       |false =>
        rw[hbl] at q
        obtain⟨v,hk⟩:=ah.guard (tu (C:=fun dr=>ah P dr (some false) (f % 4096) (.agg cap::l) h n (fun v h'=>v.seq fun v=>KK 0 (iE o.d (rQ (some false) v) m) h') (fun _ _ _=>False)) q)
        rw[V.seq_eq] at hk
        exact un rfl hk
      ·exact q.elim
     ·exact q.elim
    ·split at q
     ·obtain⟨hs,hk⟩:=ku q
      rw[V.seq_eq] at hk
      exact un rfl hk
     ·obtain⟨_,qb⟩:=q
      have e3:V.cnd false (phZ o.op)=rQ (some false) (phZ o.op):=by cases o.op<;>rfl
      exact un (v:=phZ o.op) rfl (by rw[<- e3]; exact qb rfl)
theorem WM{N pn nx n:Nat}{KK:Nat->Fm->Hz->Prop}{s:AS}{o:aJ}{dr:Bool}(hl:s.fr.length=N)(hd: ∀ i,o.d=some i->i<N)(R:Rp m s.fr)(hh:s.hp=h.au)(hp:s.pin=pn)(hn:s.nx=nx)
  (q:opZ P dr nx n o KK m h):(gv o.g s=some true/\jg o s/\(opR P dr n o (Kz N pn nx (KK 0)) s\/opW P dr n o.d o.op (fun s'=> ∃ k,Kz N pn (nx+k) (KK k) s') s))\/(gv o.g s=some false/\Kz N pn nx (KK 0) (s.put o.d T.un)):=by
 unfold opZ at q
 cases har:o.ar with
 |true =>
  rw[har] at q
  simp only at q
  unfold arZ at q
  split at q
  ·rename_i f xs eo eg
   cases hf:(o.fl&&HY nx o m) with
   |false=>rw[hf] at q; exact q.elim
   |true =>
    rw[hf] at q
    simp only[cond_true] at q
    rw[Bool.and_eq_true] at hf
    have hfl:jg o s:=JY R (by rw[hn]; exact hf.2)
    refine .inl ⟨by rw[eg]; rfl,hfl,.inl (.inr ⟨har,hf.1,?_⟩)⟩
    split at q
    ·rename_i l sd hb
     obtain⟨hs,q⟩:=ku q
     obtain⟨v,ob,c1,c2,c3,hk⟩:=q.ok
     rw[eo]
     refine⟨v.aF,ob.map OV.aA,c1,?_,?_,?_⟩
     ·intro o' ho'
      cases ob with
      |none=>cases ho'
      |some ob=>cases ho'; exact c2 _ rfl
     ·intro hp' he _
      rw[uw R hb (hs (.inl rfl))]
      exact c3 hp' (by rw[<- hh]; exact he)
     ·rw[V.seq_eq] at hk
      cases ob with
      |none =>
       show Kz N pn nx (KK 0) {(s.put o.d v.aF) with hp:=s.hp}
       rw[hh]
       exact Kz.put (v:=v) hl hd R hp hn rfl hk
      |some ob =>
       have e:jh s.hp n (some ob.aA)=Hz.au ((n,some ob)::h):=by rw[cu,hh]; rfl
       show Kz N pn nx (KK 0) {(s.put o.d v.aF) with hp:=jh s.hp n (some ob.aA)}
       rw[e]
       exact Kz.put (v:=v) hl hd R hp hn rfl hk
    ·exact q.elim
  ·exact q.elim
 |false =>
 rw[har] at q
 simp only at q
 cases had:o.ad with
 |false =>
  rw[had] at q
  rcases TK hl hd R hh hp hn q with ⟨h1,h2,h3⟩|h1
  ·exact .inl ⟨h1,h2,h3.imp (fun h=>.inl ⟨har,jC (fun s' _ _ h=>⟨fun e=>(by rw[had] at e; cases e),h⟩) h⟩) id⟩
  ·exact .inr h1
 |true =>
  rw[had] at q
  simp only at q
  unfold adZ at q
  split at q
  ·rename_i f xs eo eg
   cases hf:(o.fl&&HY nx o m) with
   |false=>rw[hf] at q; exact q.elim
   |true =>
    rw[hf] at q
    simp only[cond_true] at q
    rw[Bool.and_eq_true] at hf
    have hfl:jg o s:=JY R (by rw[hn]; exact hf.2)
    refine .inl ⟨by rw[eg]; rfl,hfl,.inl (.inl ⟨har,?_⟩)⟩
    split at q
    ·rename_i l sd hb
     obtain⟨hs,q⟩:=ku q
     have ed:o.dr dr=false:=by unfold aJ.dr; rw[eo,hf.1]; cases dr<;>rfl
     rw[ed,eo]
     show aT P f (xs.map s.ev) s.hp n _
     rw[uw R hb (hs (.inl rfl)),hh]
     have hx: ∀ {h':Hz} {s':AS},s'.hp=h'.au->(h'=h\/ ∃ o,h'=(n,some o)::h/\h.get n=none)-> ∀ i ob,s.hp i=some ob->s'.hp i=some ob:=by
      intro h' s' e1 e2 i ob hi
      rw[e1]
      rw[hh] at hi
      rcases e2 with rfl|⟨o',rfl,hn0⟩
      ·exact hi
      ·rw[cu]
       have hne:i≠n:=by
        rintro rfl
        simp only[Hz.au,hn0] at hi; cases hi
       simp only[upd,if_neg hne]; exact hi
     rcases q.ok with q|⟨_,e,_⟩|⟨_,_,hn0,q⟩
     ·refine aT.mono q ?_
      rintro t hp' ⟨v,h',e1,e2,e3,hk⟩
      rw[V.seq_eq] at hk
      subst e2
      exact⟨(fun e=>by cases e),fun _=>hx rfl (.inl (e3 rfl).1),Kz.put (v:=v) hl hd R hp hn e1 hk⟩
     ·cases e
     ·refine aT.mono q ?_
      rintro t hp' ⟨v,o',e1,e2,hk⟩
      rw[V.seq_eq] at hk
      subst e2
      exact⟨(fun e=>by cases e),fun _=>hx rfl (.inr ⟨o',rfl,hn0⟩),Kz.put (v:=v) hl hd R hp hn e1 hk⟩
    ·exact q.elim
  ·exact q.elim
theorem Qp{N pn ml:Nat}{K:Fm->Hz->Nat->Prop}{dr:Bool}: ∀ {nx:Nat} {ops:List aJ} {i:Nat} {m:Fm} {h:Hz} {s:AS},Oq N ops=true->s.fr.length=N->Rp m s.fr->s.hp=h.au->s.pin=pn->s.nx=nx ->
  Qo P dr ml nx K ops i m h->rV P dr ml (fun s=> ∃ m h,s.fr.length=N/\Rp m s.fr/\s.hp=h.au/\s.pin=pn/\K m h s.nx) ops i s:=by
 intro nx ops
 induction ops generalizing nx with
 |nil =>
  intro i m h s _ hl R hh hp hn q
  exact⟨m,h,hl,R,hh,hp,by show K m h (s.nx+ml); rw[hn]; exact q⟩
 |cons o r ih =>
  intro i m h s hd hl R hh hp hn q
  simp only[Oq,Bool.and_eq_true] at hd
  have hd1: ∀ j,o.d=some j->j<N:=fun j e=>by
   have:=hd.1
   rw[e] at this
   simpa using this
  simp only[rV]
  rw[Dy]
  have next: ∀ s',s'.nx=s.nx->s'.pin=s.pin->Kz N pn nx (Qo P dr ml nx K r (i+1)) s'->rV P dr ml (fun s=> ∃ m h,s.fr.length=N/\Rp m s.fr/\s.hp=h.au/\s.pin=pn/\K m h s.nx) r (i+1) s':=by
   rintro s' _ _ ⟨m',h',a1,a2,a3,a4,a5,a6⟩
   exact ih hd.2 a1 a2 a3 a4 a5 a6
  have ae6: ∀ s',(∃ k,Kz N pn (nx+k) (Qo P dr ml (nx+k) K r (i+1)) s')->rV P dr ml (fun s=> ∃ m h,s.fr.length=N/\Rp m s.fr/\s.hp=h.au/\s.pin=pn/\K m h s.nx) r (i+1) s':=by
   rintro s' ⟨k,m',h',a1,a2,a3,a4,a5,a6⟩
   exact ih hd.2 a1 a2 a3 a4 a5 a6
  rcases WM hl hd1 R hh hp hn q with ⟨h1,h2,h3⟩|⟨h1,h2⟩
  ·refine .inl ⟨h1,h2,?_⟩
   rw[hn]
   exact h3.imp (fun h=>h.imp (fun h=>⟨h.1,jC (fun s' a b c=>⟨c.1,next s' a b c.2⟩) h.2⟩) fun h=>⟨h.1,h.2.1,JF (fun s' a b c=>next s' a b c) h.2.2⟩) (Qg ae6)
  ·exact .inr ⟨h1,next _ (fB _ _ _) (gU _ _ _) h2⟩
theorem o8{N pn:Nat}: ∀ {c:fC} {Q:Qz} {m:Fm} {h:Hz} {s:AS},rW N c=true->s.fr.length=N->Rp m s.fr->s.hp=h.au->s.pin=pn->az P N pn c Q m h s.nx->aw P c (Lift N pn Q) s:=by
 intro c
 induction c with
 |skip=>intro Q m h s _ hl R hh hp q; exact⟨m,h,hl,R,hh,hp,q⟩
 |reg dr ops =>
  intro Q m h s hd hl R hh hp q
  exact Qp hd hl R hh hp rfl q
 |seq a b ia ib =>
  intro Q m h s hd hl R hh hp q
  simp only[rW,Bool.and_eq_true] at hd
  simp only[aw]
  refine lZ ?_ (ia hd.1 hl R hh hp q)
  rintro e s' ⟨m',h',b1,b2,b3,b4,b5⟩
  cases e with
  |normal=>exact ib hd.2 b1 b2 b3 b4 b5
  |exit j=>exact⟨m',h',b1,b2,b3,b4,b5⟩
  |ret=>exact⟨m',h',b1,b2,b3,b4,b5⟩
 |cond c a b ia ib =>
  intro Q m h s hd hl R hh hp q
  simp only[rW,Bool.and_eq_true] at hd
  simp only[az] at q
  simp only[aw]
  split at q
  ·rename_i t e
   rw[R.ev e]
   obtain⟨q1,q2⟩:=q
   exact⟨fun e=>ia hd.1 hl R hh hp (q1 e),fun e=>ib hd.2 hl R hh hp (q2 e)⟩
  ·exact q.elim
 |blk id b ib =>
  intro Q m h s hd hl R hh hp q
  simp only[aw]
  refine lZ ?_ (ib hd hl R hh hp q)
  rintro e s' ⟨m',h',b1,b2,b3,b4,b5⟩
  cases e with
  |normal=>exact⟨m',h',b1,b2,b3,b4,b5⟩
  |ret=>exact⟨m',h',b1,b2,b3,b4,b5⟩
  |exit j =>
   simp only at b5 ⊢
   by_cases e:j=id
   ·subst e; simp at b5 ⊢; exact⟨m',h',b1,b2,b3,b4,b5⟩
   ·have e1:Nat.beq j id=false:=by
     cases hb:Nat.beq j id with
     |false=>rfl
     |true=>exact absurd (eY hb) e
    have e2:(j==id)=false:=by simpa using e
    rw[e1] at b5; rw[e2]
    exact⟨m',h',b1,b2,b3,b4,b5⟩
 |exit i=>intro Q m h s _ hl R hh hp q; exact⟨m,h,hl,R,hh,hp,q⟩
 |ret=>intro Q m h s _ hl R hh hp q; exact⟨m,h,hl,R,hh,hp,q⟩
 |loop b ib =>
  intro Q m h s _ hl R hh hp q
  have:=q.ok s.fr hl R
  rw[<- hh,<- hp] at this
  simp only[aw]
  rw[hp] at this
  have e:(⟨s.fr,s.hp,s.nx,pn⟩:AS)=s:=by rw[<- hp]
  rw[e] at this
  exact this
end
end Go.Ab
