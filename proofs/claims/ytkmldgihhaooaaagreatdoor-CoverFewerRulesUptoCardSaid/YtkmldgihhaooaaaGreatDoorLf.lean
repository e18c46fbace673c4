/-
 The typed layer, part 1: typed values, rows, objects. Definitions alone.
-/
import Derived.Test.YtkmldgihhaooaaaGreatDoorLd
import Derived.Test.YtkmldgihhaooaaaGreatDoorLc
namespace Go.Ab
inductive Dat where
 |lin (x:Lin)
 |SC (x:zJ)
 |rule (x:Rule)
 |iF (x:aI)
 |cnt (x:Cnt)
 |prop (x:Prop')
 |clause (x:Clause)
 |elem (x:Elem)
@[reducible] def adG(l:List Bool):T:=.sl 0 false (l.map T.bool)
@[reducible] def adH(l:List (List Int)):T:=.sl 0 false (l.map Go.Ab.ints)
inductive Rw where
 |ints (l:List Int)
 |bools (l:List Bool)
 |strs (l:List Str)
 |dV (l:List (List Int))
 |ng (l:List (List Bool))
 |ny (l:List (List (List Int)))
 |AQ (l:List Lin)
 |pU (l:List zJ)
 |rules (l:List Rule)
 |cnts (l:List Cnt)
 |clauses (l:List Clause)
 |elems (l:List Elem)
 |nil
inductive V where
 |int (n:Int)
 |bool (b:Bool)
 |u8 (n:Int)
 |str (s:Str)
 |dat (d:Dat)
 |agg (l:List V)
 |row (k:Nat) (full:Bool) (r:Rw)
 |Gy (k:Nat) (full:Bool) (l:List V)
 |ref (k:Nat) (v:V)
 |own (i:Nat)
 |inn (i:Nat)
 |pin (i j off:Nat)
 |ptr (i j off:Nat)
 |oV (i lo hi:Nat)
 |fn (f:FuncId) (cap:List V)
 |dH (l:List V)
 |cnd (b:Bool) (v:V)
 |raw (t:T)
def Dat.aG:Dat->T
 | .lin x=>Ue x
 | .SC x=>QE x
 | .rule x=>Hg x
 | .iF x=>Vo x
 | .cnt x=>Uf x
 | .prop x=>Zm x
 | .clause x=>IC x
 | .elem x=>iJ x
def Dat.kd:Dat->Nat
 | .lin _=>5
 | .SC _=>7
 | .rule _=>19
 | .iF _=>11
 | .cnt _=>3
 | .prop _=>7
 | .clause _=>4
 | .elem _=>3
def Rw.aV:Rw->List T
 | .ints l=>l.map T.int
 | .bools l=>l.map T.bool
 | .strs l=>l.map eS
 | .dV l=>l.map Go.Ab.ints
 | .ng l=>l.map adG
 | .ny l=>l.map adH
 | .AQ l=>l.map Ue
 | .pU l=>l.map QE
 | .rules l=>l.map Hg
 | .cnts l=>l.map Uf
 | .clauses l=>l.map IC
 | .elems l=>l.map iJ
 | .nil=>[]
mutual
def V.aG:V->T
 | .int n=>.int n
 | .bool b=>.bool b
 | .u8 n=>.lit (.int .u8 n)
 | .str s=>eS s
 | .dat d=>d.aG
 | .agg l=>.agg (V.aV l)
 | .row k f r=>.sl k f r.aV
 | .Gy k f l=>.sl k f (V.aV l)
 | .ref k v=>.ref k v.aG
 | .own i=>.own i
 | .inn i=>.own i
 | .pin i j off=>.ptr i j off
 | .ptr i j off=>.ptr i j off
 | .oV i lo hi=>.oV i lo hi
 | .fn f cap=>.fn f (V.aV cap)
 | .dH l=>.dH (V.aV l)
 | .cnd b v=>bif b then v.aG else T.un
 | .raw t=>t
def V.aV:List V->List T
 |[]=>[]
 |v::r=>v.aG::V.aV r
end
def Dat.cells:Dat->List V
 | .lin x=>[.int x.c,.int x.n,.int x.t,.int x.f]
 | .SC x=>[.int x.message,.int x.EU,.int x.bound.c,.int x.bound.n,.int x.bound.t,.int x.bound.f]
 | .rule x=>[.str x.name,.int x.kind,.int x.fr,.int x.to,.int x.jE,.int x.zX,.row 0 false (.ints x.response),.row 7 false (.pU x.guards),.row 0 false (.ints x.ex),.row 0 false (.ints x.all),.int x.read,.int x.write,.row 0 false (.ints x.send),.int x.pos,.row 0 false (.ints x.left),.row 0 false (.ints x.right),.row 0 false (.ints x.parent),.int x.direction]
 | .iF x=>[.str x.name,.int x.topology,.row 0 false (.strs x.states),.row 0 false (.strs x.messages),.row 0 false (.strs x.values),.int x.fault,.row 5 false (.AQ x.bW),.row 0 false (.ints x.initial),.row 0 false (.ints x.leader),.row 19 false (.rules x.rules)]
 | .cnt x=>[.row 0 false (.ints x.states),.int x.least]
 | .prop x=>[.str x.name,.int x.kind,.row 0 false (.ints x.start),.row 3 false (.cnts x.bad),.row 0 false (.ints x.adjacent),.row 0 false (.ints x.goal)]
 | .clause x=>[.row 0 false (.dV x.each),.row 0 false (.ints x.values),.row 0 false (.ints x.some)]
 | .elem x=>[.int x.value,.row 0 false (.ints x.counts)]
theorem Dat.Gz(d:Dat):d.aG= .agg (V.aV d.cells):=by cases d<;>rfl
theorem Dat.adI(d:Dat):d.aG.kd=d.kd:=by cases d<;>rfl
def Rw.len:Rw->Nat
 | .ints l=>l.length
 | .bools l=>l.length
 | .strs l=>l.length
 | .dV l=>l.length
 | .ng l=>l.length
 | .ny l=>l.length
 | .AQ l=>l.length
 | .pU l=>l.length
 | .rules l=>l.length
 | .cnts l=>l.length
 | .clauses l=>l.length
 | .elems l=>l.length
 | .nil=>0
def Rw.lenV:Rw->V
 | .ints l=>.int l.length
 | .bools l=>.int l.length
 | .strs l=>.int l.length
 | .dV l=>.int l.length
 | .ng l=>.int l.length
 | .ny l=>.int l.length
 | .AQ l=>.int l.length
 | .pU l=>.int l.length
 | .rules l=>.int l.length
 | .cnts l=>.int l.length
 | .clauses l=>.int l.length
 | .elems l=>.int l.length
 | .nil=>.int 0
def Rw.rng(n:Int):Rw->Prop
 | .ints l=>0<=n/\n<l.length
 | .bools l=>0<=n/\n<l.length
 | .strs l=>0<=n/\n<l.length
 | .dV l=>0<=n/\n<l.length
 | .ng l=>0<=n/\n<l.length
 | .ny l=>0<=n/\n<l.length
 | .AQ l=>0<=n/\n<l.length
 | .pU l=>0<=n/\n<l.length
 | .rules l=>0<=n/\n<l.length
 | .cnts l=>0<=n/\n<l.length
 | .clauses l=>0<=n/\n<l.length
 | .elems l=>0<=n/\n<l.length
 | .nil=>False
def Rw.rV(n:Int):Rw->Prop
 | .ints l=>0<=n/\n<=l.length
 | .bools l=>0<=n/\n<=l.length
 | .strs l=>0<=n/\n<=l.length
 | .dV l=>0<=n/\n<=l.length
 | .ng l=>0<=n/\n<=l.length
 | .ny l=>0<=n/\n<=l.length
 | .AQ l=>0<=n/\n<=l.length
 | .pU l=>0<=n/\n<=l.length
 | .rules l=>0<=n/\n<=l.length
 | .cnts l=>0<=n/\n<=l.length
 | .clauses l=>0<=n/\n<=l.length
 | .elems l=>0<=n/\n<=l.length
 | .nil=>n=0
def Rw.get(i:Nat):Rw->V
 | .ints l=>.int (l.getD i 0)
 | .bools l=>.bool (l.getD i false)
 | .strs l=>.str (l.getD i [])
 | .dV l=>.row 0 false (.ints (l.getD i []))
 | .ng l=>.row 0 false (.bools (l.getD i []))
 | .ny l=>.row 0 false (.dV (l.getD i []))
 | .AQ l=>.dat (.lin (l.getD i default))
 | .pU l=>.dat (.SC (l.getD i default))
 | .rules l=>.dat (.rule (l.getD i default))
 | .cnts l=>.dat (.cnt (l.getD i default))
 | .clauses l=>.dat (.clause (l.getD i default))
 | .elems l=>.dat (.elem (l.getD i default))
 | .nil=>.raw .any
def Rw.take(i:Nat):Rw->Rw
 | .ints l=>.ints (l.take i)
 | .bools l=>.bools (l.take i)
 | .strs l=>.strs (l.take i)
 | .dV l=>.dV (l.take i)
 | .ng l=>.ng (l.take i)
 | .ny l=>.ny (l.take i)
 | .AQ l=>.AQ (l.take i)
 | .pU l=>.pU (l.take i)
 | .rules l=>.rules (l.take i)
 | .cnts l=>.cnts (l.take i)
 | .clauses l=>.clauses (l.take i)
 | .elems l=>.elems (l.take i)
 | .nil=>.nil
def Rw.drop(i:Nat):Rw->Rw
 | .ints l=>.ints (l.drop i)
 | .bools l=>.bools (l.drop i)
 | .strs l=>.strs (l.drop i)
 | .dV l=>.dV (l.drop i)
 | .ng l=>.ng (l.drop i)
 | .ny l=>.ny (l.drop i)
 | .AQ l=>.AQ (l.drop i)
 | .pU l=>.pU (l.drop i)
 | .rules l=>.rules (l.drop i)
 | .cnts l=>.cnts (l.drop i)
 | .clauses l=>.clauses (l.drop i)
 | .elems l=>.elems (l.drop i)
 | .nil=>.nil
def Rw.app:Rw->Rw->Option Rw
 |r,.nil=>some r
 | .nil,r=>some r
 | .ints a,.ints b=>some (.ints (a++b))
 | .bools a,.bools b=>some (.bools (a++b))
 | .strs a,.strs b=>some (.strs (a++b))
 | .dV a,.dV b=>some (.dV (a++b))
 | .ng a,.ng b=>some (.ng (a++b))
 | .ny a,.ny b=>some (.ny (a++b))
 | .AQ a,.AQ b=>some (.AQ (a++b))
 | .pU a,.pU b=>some (.pU (a++b))
 | .rules a,.rules b=>some (.rules (a++b))
 | .cnts a,.cnts b=>some (.cnts (a++b))
 | .clauses a,.clauses b=>some (.clauses (a++b))
 | .elems a,.elems b=>some (.elems (a++b))
 |_,_=>none
def Rw.kd:Rw->Nat
 | .ints _=>0
 | .bools _=>0
 | .strs _=>0
 | .dV _=>0
 | .ng _=>0
 | .ny _=>0
 | .AQ _=>5
 | .pU _=>7
 | .rules _=>19
 | .cnts _=>3
 | .clauses _=>4
 | .elems _=>3
 | .nil=>0
def V.one:V->Option Rw
 | .int n=>some (.ints [n])
 | .bool b=>some (.bools [b])
 | .str s=>some (.strs [s])
 | .row 0 false (.ints l)=>some (.dV [l])
 | .row 0 false (.bools l)=>some (.ng [l])
 | .row 0 false (.dV l)=>some (.ny [l])
 | .dat (.lin x)=>some (.AQ [x])
 | .dat (.SC x)=>some (.pU [x])
 | .dat (.rule x)=>some (.rules [x])
 | .dat (.cnt x)=>some (.cnts [x])
 | .dat (.clause x)=>some (.clauses [x])
 | .dat (.elem x)=>some (.elems [x])
 | .agg [.int a,.row 0 false (.ints c)]=>some (.elems [⟨a,c⟩])
 | .agg [.row 0 false (.ints c),.int a]=>some (.cnts [⟨c,a⟩])
 | .agg [.row 0 false (.dV e),.row 0 false (.ints v),.row 0 false (.ints s)]=>some (.clauses [⟨e,v,s⟩])
 |_=>none
def Rw.Ye:List V->Option Rw
 |[]=>some .nil
 |v::r=>match v.one,Rw.Ye r with
  |some a,some b=>a.app b
  |_,_=>none
def Rw.vs:Rw->List V
 | .ints l=>l.map .int
 | .bools l=>l.map .bool
 | .strs l=>l.map .str
 | .dV l=>l.map fun c=>.row 0 false (.ints c)
 | .ng l=>l.map fun c=>.row 0 false (.bools c)
 | .ny l=>l.map fun c=>.row 0 false (.dV c)
 | .AQ l=>l.map fun c=>.dat (.lin c)
 | .pU l=>l.map fun c=>.dat (.SC c)
 | .rules l=>l.map fun c=>.dat (.rule c)
 | .cnts l=>l.map fun c=>.dat (.cnt c)
 | .clauses l=>l.map fun c=>.dat (.clause c)
 | .elems l=>l.map fun c=>.dat (.elem c)
 | .nil=>[]
inductive OV where
 |row (ty k:Nat) (r:Rw) (x:List V)
 |box (ty k:Nat) (v:V)
 |map (ty:Nat) (es:List (Int×List Bool)) (x:List (Int×V))
 |gen (ty k:Nat) (x:List V)
def OC(e:Int×List Bool):T:=.dH [.int e.1,.sl 0 false (e.2.map T.bool)]
def abA(e:Int×V):T:=.dH [.int e.1,e.2.aG]
def OV.aA:OV->Ob
 | .row ty k r x=>⟨ty,k,r.aV++V.aV x⟩
 | .box ty k v=>⟨ty,k,[v.aG]⟩
 | .map ty es x=>⟨ty,fU,es.map OC++x.map abA⟩
 | .gen ty k x=>⟨ty,k,V.aV x⟩
abbrev Fm:=List (Nat×V)
def Fm.get(i:Nat):Fm->Option V
 |[]=>none
 |(j,v)::r=>bif Nat.beq j i then some v else Fm.get i r
abbrev Hz:=List (Nat×Option OV)
def Hz.get(i:Nat):Hz->Option OV
 |[]=>none
 |(j,o)::r=>bif Nat.beq j i then o else Hz.get i r
def Hz.au(h:Hz):Hp:=fun i=>(h.get i).map OV.aA
mutual
def Eh:T->V
 | .lit (.int .i64 n)=>.int n
 | .lit (.int .u8 n)=>.u8 n
 | .lit (.bool b)=>.bool b
 | .lit (.string b)=>.str b.data.toList
 | .sl k f []=>.row k f .nil
 | .agg l=>.agg (Ye l)
 | .fn f l=>.fn f (Ye l)
 |t=>.raw t
def Ye:List T->List V
 |[]=>[]
 |t::r=>Eh t::Ye r
end
def V.kd:V->Option Nat
 | .dat d=>some d.kd
 | .agg l=>some (l.length+1)
 | .cnd _ _=>none
 | .raw _=>none
 |_=>some 0
def V.cells:V->Option (List V)
 | .dat d=>some d.cells
 | .agg l=>some l
 | .cnd _ _=>none
 | .raw _=>none
 |v=>some [v]
def V.ku(h:Hz):V->Bool
 | .own i=>(h.get i).isSome
 | .ptr i _ _=>(h.get i).isSome
 | .oV i _ _=>(h.get i).isSome
 | .cnd _ _=>false
 | .raw _=>false
 | .dH _=>false
 | .inn _=>false
 | .pin _ _ _=>false
 |_=>true
def V.part(off:Nat):Nat->V->Option V
 |0,.dat d=>d.cells[off]?
 |0,.agg l=>l[off]?
 |k+1,.dat (.SC x)=>bif (Nat.beq off 2)&&(Nat.beq k 4) then some (.dat (.lin x.bound)) else none
 |k+1,.agg l=>some (.agg ((l.drop off).take k))
 |_,_=>none
inductive VC(p k:Prop):Prop where
 |mk:p->k->VC p k
inductive Fork(b:Bool)(x y:Prop):Prop where
 |mk:(b=true->x)->(b=false->y)->Fork b x y
inductive Sd where
 |no
 |yes (p:Prop)
def Sd.holds:Sd->Prop
 | .no=>True
 | .yes p=>p
def Sd.and:Sd->Sd->Sd
 | .no,b=>b
 |a,.no=>a
 | .yes p,.yes q=>.yes (p/\q)
def Sd.imp(t:Bool)(b:Bool):Sd->Sd
 | .no=>.no
 | .yes p=>.yes (t=b->p)
def Sd.vc(g:Option Bool)(k:Prop):Sd->Prop
 | .no=>k
 | .yes p=>match g with
  |none=>VC p k
  |some b=>VC (b=true->p) k
def V.bare:V->V×Sd
 | .cnd c v=>(v,.yes (c=true))
 |v=>(v,.no)
mutual
def V.free:V->Bool
 | .own _=>false
 | .ptr _ _ _=>false
 | .oV _ _ _=>false
 | .inn _=>false
 | .pin _ _ _=>false
 | .cnd _ _=>false
 | .raw t=>t.free
 | .agg l=>V.cu l
 | .fn _ l=>V.cu l
 | .dH l=>V.cu l
 |_=>true
def V.cu:List V->Bool
 |[]=>true
 |v::r=>V.free v&&V.cu r
end
def zU(m:Fm):X->Option V
 | .t n=>m.get n
 | .c t=>some (Eh t)
def evL(m:Fm):List X->Option (List V)
 |[]=>some []
 |x::r=>match zU m x,evL m r with
  |some v,some l=>some (v::l)
  |_,_=>none
abbrev zV:=Option (V×Sd)
def MX(m:Fm)(x:X)(f:V->zV):zV :=
 match zU m x with
 |some v=>match v.bare with
  |(u,s)=>match f u with
   |some (r,s')=>some (r,s.and s')
   |none=>none
 |none=>none
def qz2(m:Fm)(x y:X)(f:V->V->zV):zV:=MX m x fun u=>MX m y fun v=>f u v
def okI(n:Int):Prop:= -9223372036854775808<=n/\n<9223372036854775808
def Tf(a b:Int):Int:=a.fdiv (2 ^ min b.toNat 64)
theorem Ag(a:Int):Tf a 1=a / 2:=by
 show Int.fdiv a 2=_
 rw[Int.fdiv_eq_ediv_of_nonneg _ (by decide)]
def adJ(op:BinOp):V->V->zV
 | .int a,.int b=>match op with
  | .add=>some (.int (a+b),.yes (okI (a+b)))
  | .sub=>some (.int (a-b),.yes (okI (a-b)))
  | .mul=>some (.int (a*b),.yes (okI (a*b)))
  | .eql=>some (.bool (a==b),.no)
  | .neq=>some (.bool (a !=b),.no)
  | .lss=>some (.bool (decide (a<b)),.no)
  | .leq=>some (.bool (decide (a<=b)),.no)
  | .gtr=>some (.bool (decide (b<a)),.no)
  | .geq=>some (.bool (decide (b<=a)),.no)
  |_=>none
 | .u8 a,.u8 b=>match op with
  | .eql=>some (.bool (a==b),.no)
  | .neq=>some (.bool (a !=b),.no)
  | .lss=>some (.bool (decide (a<b)),.no)
  | .leq=>some (.bool (decide (a<=b)),.no)
  | .gtr=>some (.bool (decide (b<a)),.no)
  | .geq=>some (.bool (decide (b<=a)),.no)
  |_=>none
 | .str a,.str b=>match op with
  | .eql=>some (.bool (a==b),.no)
  | .neq=>some (.bool (!(a==b)),.no)
  | .add=>some (.str (a++b),.yes (a.length+b.length<=9223372036854775807))
  |_=>none
 | .raw (.lit (.int .u64 a)),.raw (.lit (.int .u64 b))=>match op with
  | .shr=>some (.raw (.lit (.int .u64 (Tf a b))),.yes (0<=b))
  | .and=>some (.raw (.lit (.int .u64 (ac9 .u64 a b))),.no)
  | .rem=>some (.raw (.lit (.int .u64 (a.tmod b))),.yes (b≠0))
  | .eql=>some (.bool (a==b),.no)
  | .geq=>some (.bool (decide (b<=a)),.no)
  |_=>none
 |_,_=>none
def BK:X->Bool
 | .c (.lit (.bool true))=>true
 |_=>false
def yN:X->Bool
 | .c (.lit (.bool false))=>true
 |_=>false
def acP(t:Bool)(xa xb:X):V->V->Option V
 | .bool x,.bool y=>bif BK xa then some (.bool (t||y)) else bif yN xb then some (.bool (t&&x)) else some (.bool (bif t then x else y))
 | .int x,.int y=>some (.int (bif t then x else y))
 | .str x,.str y=>some (.str (bif t then x else y))
 |_,_=>none
def Zo(t:Bool)(xa xb:X)(a b:V×Sd):zV :=
 match a,b with
 |(a,sa),(b,sb)=>match acP t xa xb a b with
  |some v=>some (v,(sa.imp t true).and (sb.imp t false))
  |none=>none
def dK{α:Type}(b:Bool)(x:Option α):Option α:=bif b then x else none
def V.Uh(k:Nat):Option V->zV
 |some u=>some (.ref k u,.no)
 |none=>none
def V.IE:Option V->zV
 |some u=>some (u,.no)
 |none=>none
def faZ(h:Hz)(off k:Nat):V->zV
 | .ref kt v=>dK (!(Nat.beq kt 0)&&nZ (bn kt) off k) (V.Uh k (v.part off k))
 | .ptr i j o=>dK (h.get i).isSome (some (.ptr i j (o+off),.no))
 |_=>none
def fvZ(off k:Nat)(v:V):zV :=
 match v.kd with
 |some kt=>dK (!(Nat.beq kt 0)&&nZ (bn kt) off k) (V.IE (v.part off k))
 |none=>none
def adK:List V->Nat->Option V
 |[],_=>none
 |v::_,0=>some v
 |_::r,n+1=>adK r n
def iaZ(h:Hz)(k:Nat):V->V->zV
 | .Gy k' _ l,.int n=>match adK l n.toNat with
  |some v=>dK (Nat.beq k' k) (some (.ref k v,.yes (0<=n)))
  |none=>none
 | .row k' _ r,.int n=>dK (Nat.beq k' k) (some (.ref k (r.get n.toNat),.yes (r.rng n)))
 | .own o,.int n=>match h.get o with
  |some (.row _ k' r [])=>dK (Nat.beq k' k) (some (.ptr o n.toNat 0,.yes (r.rng n)))
  |some (.gen _ k' x)=>dK (Nat.beq k' k) (some (.ptr o n.toNat 0,.yes (0<=n/\n<x.length)))
  |_=>none
 | .oV o lo hi,.int n=>match h.get o with
  |some (.row _ k' _ [])=>dK (Nat.beq k' k) (some (.ptr o (lo+n.toNat) 0,.yes (0<=n/\n<(hi-lo:Nat))))
  |_=>none
 |_,_=>none
def chZ:V->V->zV
 | .str s,.int n=>some (.u8 (s.getD n.toNat 0).toNat,.yes (0<=n/\n<s.length))
 | .str s,.u8 n=>some (.u8 (s.getD n.toNat 0).toNat,.yes (0<=n/\n<s.length))
 |_,_=>none
def ldB(k j off ko:Nat)(v:V):zV :=
 bif Nat.beq j 0 then(bif Nat.beq off 0&&Nat.beq ko k then some (v,.no) else dK (!(Nat.beq ko 0)&&nZ (bn ko) off k) (V.IE (v.part off k))) else none
def ldR(k j off ko:Nat)(r:Rw):zV :=
 bif Nat.beq off 0&&Nat.beq ko k then some (r.get j,.yes (r.rng j)) else
  match (r.get j).part off k with
  |some u=>dK (!(Nat.beq ko 0)&&nZ (bn ko) off k) (some (u,.yes (r.rng j)))
  |none=>none
def ldZ(h:Hz)(k:Nat):V->zV
 | .ref k' v=>dK (Nat.beq k' k&&Nat.blt 0 (bn k)) (some (v,.no))
 | .ptr i j off=>match h.get i with
  |some (.box _ ko v)=>ldB k j off ko v
  |some (.row _ ko r [])=>ldR k j off ko r
  |_=>none
 |_=>none
def ncZ(h:Hz):V->zV
 | .ref k v=>some (.ref k v,.no)
 | .ptr i j o=>dK (h.get i).isSome (some (.ptr i j o,.no))
 | .fn f l=>some (.fn f l,.no)
 |_=>none
def abB(h:Hz)(str:Bool):V->zV
 | .row _ _ r=>dK (!str) (some (r.lenV,.no))
 | .Gy _ _ l=>dK (!str) (some (.int l.length,.no))
 | .str s=>dK str (some (.int s.length,.no))
 | .own o=>match h.get o with
  |some (.row _ k r x)=>dK (!str&& !(Nat.beq k fU)) (match x with|[]=>some (r.lenV,.no)|x=>some (.int (r.len+x.length),.no))
  |some (.gen _ k x)=>dK (!str&& !(Nat.beq k fU)) (some (.int x.length,.no))
  |_=>none
 | .oV o lo hi=>dK (!str&&(h.get o).isSome) (some (.int (hi-lo:Nat),.no))
 |_=>none
def mxZ:V->V->zV
 | .int a,.int b=>some (.int (max a b),.no)
 |_,_=>none
def mnZ:V->V->zV
 | .int a,.int b=>some (.int (min a b),.no)
 |_,_=>none
def AU(m:Fm):List X->Option (List V×Sd)
 |[]=>some ([],.no)
 |x::r=>match zU m x,AU m r with
  |some v,some (l,s)=>match v.bare with|(u,s')=>some (u::l,s'.and s)
  |_,_=>none
def Vs:List (Nat×Nat×X)->List V->List V->Option (List V)
 |[],[],z=>some z
 |(off,n,_)::ps,v::vs,z=>match v.cells with
  |some c=>dK (Nat.beq c.length n&&Nat.ble (off+n) z.length) (Vs ps vs (z.take off++c++z.drop (off+n)))
  |none=>none
 |_,_,_=>none
def Dc(h:Hz):List V->Bool
 |[]=>true
 |v::r=>v.ku h&&Dc h r
def mkZ(m:Fm)(h:Hz)(z:List T)(ps:List (Nat×Nat×X)):zV :=
 match AU m (ps.map fun p=>p.2.2) with
 |some (vs,s)=>match Vs ps vs (Ye z) with
  |some l=>dK (Dc h vs) (some (.agg l,s))
  |none=>none
 |none=>none
def Ew(k:Nat):List V->Bool
 |[]=>true
 |v::r=>(match v.kd with|some k'=>Nat.beq k' k|none=>false)&&Ew k r
def Zp(n:Nat):List (Nat×X)->List V->List V->Option (List V)
 |[],[],z=>some z
 |(i,_)::ps,v::vs,z=>dK (Nat.blt i n) (Zp n ps vs (z.set i v))
 |_,_,_=>none
def msZ(m:Fm)(h:Hz)(k:Nat)(z:T)(n:Nat)(ps:List (Nat×X)):zV :=
 match AU m (ps.map fun p=>p.2) with
 |some (vs,s)=>match Zp n ps vs (List.replicate n (Eh z)) with
  |some l=>dK ((z.kd==k)&&z.free&&Ew k vs&&Dc h vs&&V.cu vs&&Nat.ble (n*bn k) 16777216&&Nat.blt 0 (bn k))
    (match Rw.Ye l with
    |some r=>some (.row k true r,s)
    |none=>some (.Gy k true l,s))
  |none=>none
 |none=>none
def kOk(k k':Nat):Rw->Bool
 | .nil=>true
 |_=>Nat.beq k' k
def JV(m:Fm):Option X->Option (Option V×Sd)
 |none=>some (none,.no)
 |some x=>match zU m x with
  |some v=>match v.bare with|(u,s)=>some (some u,s)
  |none=>none
def Zq(k k':Nat)(f:Bool)(r:Rw):Option V->Option V->Option V->zV
 |none,none,none=>dK (kOk k k' r) (some (.row k f r,.no))
 |some (.int a),none,none=>dK (kOk k k' r) (some (.row k f (r.drop a.toNat),.yes (r.rV a)))
 |none,some (.int b),none=>dK (kOk k k' r) (some (.row k (f&&decide (b=r.len)) (r.take b.toNat),.yes (r.rV b)))
 |some (.int a),some (.int b),none=>dK (kOk k k' r) (some (.row k false ((r.take b.toNat).drop a.toNat),.yes (0<=a/\a<=b/\r.rV b)))
 |none,some (.int b),some (.int c)=>dK (kOk k k' r) (some (.row k (decide (b=c)) (r.take b.toNat),.yes (0<=b/\b<=c/\r.rV c)))
 |_,_,_=>none
def Zr(k i ko:Nat)(r:Rw):Option V->Option V->Option V->zV
 |some (.int a),none,none=>dK (Nat.beq ko k) (some (.oV i a.toNat r.len,.yes (r.rV a)))
 |none,some (.int b),none=>dK (Nat.beq ko k) (some (.oV i 0 b.toNat,.yes (r.rV b)))
 |some (.int a),some (.int b),none=>dK (Nat.beq ko k) (some (.oV i a.toNat b.toNat,.yes (0<=a/\a<=b/\r.rV b)))
 |_,_,_=>none
def Ui(k i ko:Nat)(r:Rw)(xs:List V):Option V->Option V->Option V->zV
 |none,some (.int b),none=>dK (Nat.beq ko k) (some (.oV i 0 b.toNat,.yes (r.rV b)))
 |lo,hi,mx=>match xs with|[]=>Zr k i ko r lo hi mx|_=>none
def slZ(h:Hz)(x:Bool)(k:Nat)(v:V)(lo hi mx:Option V):zV :=
 match v with
 | .row k' f r=>Zq k k' f r lo hi mx
 | .own i=>bif x then(match h.get i with
  |some (.row _ ko r xs)=>Ui k i ko r xs lo hi mx
  |_=>none) else none
 |_=>none
def slX(m:Fm)(h:Hz)(b:Bool)(k:Nat)(x:X)(lo hi mx:Option X):zV :=
 MX m x fun v=>match JV m lo,JV m hi,JV m mx with
  |some (lo,s1),some (hi,s2),some (mx,s3)=>match slZ h b k v lo hi mx with
   |some (u,s)=>some (u,s1.and (s2.and (s3.and s)))
   |none=>none
  |_,_,_=>none
def ssZ(s:Str):Option V->Option V->zV
 |some (.int a),none=>some (.str (s.drop a.toNat),.yes (0<=a/\a<=s.length))
 |none,some (.int b)=>some (.str (s.take b.toNat),.yes (0<=b/\b<=s.length))
 |some (.int a),some (.int b)=>some (.str ((s.take b.toNat).drop a.toNat),.yes (0<=a/\a<=b/\b<=s.length))
 |_,_=>none
def ssX(m:Fm)(x:X)(lo hi:Option X):zV :=
 MX m x fun v=>match v,JV m lo,JV m hi with
  | .str s,some (lo,s1),some (hi,s2)=>match ssZ s lo hi with
   |some (u,s)=>some (u,s1.and (s2.and s))
   |none=>none
  |_,_,_=>none
def exZ(i:Nat):V->zV
 | .dH l=>match l[i]? with|some v=>some (v,.no)|none=>none
 |_=>none
def adL(ne:Bool)(n:Nat):V->V->zV
 | .dat (.lin x),.dat (.lin y)=>dK (Nat.beq n 4) (some (.bool (bif ne then !(x==y) else x==y),.no))
 | .dat (.SC x),.dat (.SC y)=>dK (Nat.beq n 6) (some (.bool (bif ne then !(x==y) else x==y),.no))
 |_,_=>none
def HY(n:Int):List (Int×List Bool)->Option (List Bool)
 |[]=>none
 |(m,v)::r=>bif n==m then some v else HY n r
def mfZ(m:Fm)(h:Hz)(f:FuncId)(cap:List X):zV :=
 match AU m cap with
 |some (l,s)=>dK (Dc h l&&Ew 0 l&&Nat.blt f 4096) (some (.fn f l,s))
 |none=>none
def mbZ(f:FuncId):V->zV
 | .agg l=>dK (Nat.blt f 4096) (some (.fn (f+4096) l,.no))
 | .dat d=>dK (Nat.blt f 4096) (some (.fn (f+4096) d.cells,.no))
 |_=>none
def adM:V->zV
 | .row _ true r=>some (r.lenV,.no)
 |_=>none
def saZ(n:Nat):V->zV
 | .ref k (.agg l)=>match Rw.Ye l with
  |some r=>dK (Nat.beq k (n+1)&&Nat.beq l.length n&&Nat.blt 0 n) (some (.row 0 true r,.no))
  |none=>none
 |_=>none
def qz(m:Fm)(h:Hz):nR->zV
 | .mv x=>match zU m x with|some v=>some (v,.no)|none=>none
 | .pick c a b=>MX m c fun c=>match c,zU m a,zU m b with
  | .bool t,some va,some vb=>Zo t a b va.bare vb.bare
  |_,_,_=>none
 | .bin op x y=>qz2 m x y (adJ op)
 | .bb ne x y=>qz2 m x y fun x y=>match x,y with
  | .bool a,.bool b=>some (.bool (bif ne then !(a==b) else a==b),.no)
  |_,_=>none
 | .not x=>MX m x fun v=>match v with| .bool b=>some (.bool !b,.no)|_=>none
 | .conv .i64 x=>MX m x fun v=>match v with
  | .int n=>some (.int n,.yes (okI n))
  | .u8 n=>some (.int n,.yes (okI n))
  | .raw (.lit (.int .u64 n))=>some (.int n,.yes (okI n))
  |_=>none
 | .conv .u64 x=>MX m x fun v=>match v with
  | .int n=>some (.raw (.lit (.int .u64 n)),.yes (0<=n/\n<18446744073709551616))
  | .raw (.lit (.int .i64 n))=>some (.raw (.lit (.int .u64 (IntKind.u64.wrap n))),.no)
  |_=>none
 | .conv .u8 x=>MX m x fun v=>match v with
  | .raw (.lit (.int .u64 n))=>some (.u8 n,.yes (0<=n/\n<256))
  |_=>none
 | .fa off k x=>MX m x (faZ h off k)
 | .fv off k x=>MX m x (fvZ off k)
 | .ia k x i=>qz2 m x i (iaZ h k)
 | .ch x i=>qz2 m x i chZ
 | .ld k x=>MX m x (ldZ h k)
 | .nc x=>MX m x (ncZ h)
 | .len s x=>MX m x (abB h s)
 | .mx x y=>qz2 m x y mxZ
 | .mn x y=>qz2 m x y mnZ
 | .mk z ps=>mkZ m h z ps
 | .ms _ k z n ps=>msZ m h k z n ps
 | .sl k x lo hi mx=>slX m h false k x lo hi mx
 | .U9 k x lo hi mx=>slX m h true k x lo hi mx
 | .ss x lo hi=>ssX m x lo hi
 | .ex x i=>MX m x (exZ i)
 | .mf f cap=>mfZ m h f cap
 | .eqs ne n x y=>qz2 m x y (adL ne n)
 | .NV x=>MX m x adM
 | .mb f x=>MX m x (mbZ f)
 | .sa n x=>MX m x (saZ n)
 |_=>none
theorem acQ(b:ByteArray):eS b.data.toList= .lit (.string b):=by
 unfold eS bs; simp
mutual
theorem xM:(t:T)->(Eh t).aG=t
 | .lit v=>by
  cases v with
  |int k n=>cases k<;>simp[Eh,V.aG]
  |bool b=>simp[Eh,V.aG]
  |string b=>simp only[Eh,V.aG]; exact acQ b
  |_=>simp[Eh,V.aG]
 | .agg l=>by simp only[Eh,V.aG]; rw[zx l]
 | .sl k f l=>by cases l<;>simp[Eh,V.aG,Rw.aV]
 | .ref k t=>by simp[Eh,V.aG]
 | .own i=>by simp[Eh,V.aG]
 | .ptr i j k=>by simp[Eh,V.aG]
 | .oV i j k=>by simp[Eh,V.aG]
 | .fn f l=>by simp only[Eh,V.aG]; rw[zx l]
 | .dH l=>by simp[Eh,V.aG]
 | .any=>by simp[Eh,V.aG]
theorem zx:(l:List T)->V.aV (Ye l)=l
 |[]=>rfl
 |t::r=>by simp only[Ye,V.aV]; rw[xM t,zx r]
end
theorem iU(l:List V):V.aV l=l.map V.aG:=by
 induction l with
 |nil=>rfl
 |cons v r ih=>simp[V.aV,ih]
theorem dM(l:List V):(V.aV l).length=l.length:=by rw[iU]; simp
theorem wV(a b:List V):V.aV (a++b)=V.aV a++V.aV b:=by simp[iU]
theorem JW(a:List V)(n:Nat):V.aV (a.take n)=(V.aV a).take n:=by simp[iU]
theorem JX(a:List V)(n:Nat):V.aV (a.drop n)=(V.aV a).drop n:=by simp[iU]
def Rp(m:Fm)(fr:List T):Prop:= ∀ i v,m.get i=some v->fr[i]? =some v.aG
theorem Rp.getD{m:Fm}{fr:List T}(R:Rp m fr){i:Nat}{v:V}{d:T}(h:m.get i=some v):fr.getD i d=v.aG:=by
 rw[List.getD_eq_getElem?_getD,R i v h]; rfl
theorem Rp.ev{m:Fm}{s:AS}(R:Rp m s.fr){x:X}{v:V}(h:zU m x=some v):s.ev x=v.aG:=by
 cases x with
 |t n=>exact R.getD h
 |c t=>simp only[zU,Option.some.injEq] at h; subst h; exact(xM t).symm
theorem dR{v u:V}{s:Sd}(h:v.bare=(u,s))(hs:s.holds):v.aG=u.aG:=by
 unfold V.bare at h
 split at h
 ·cases h; simp only[Sd.holds] at hs; simp[V.aG,hs]
 ·cases h; rfl
theorem Sd.lH{a b:Sd}:(a.and b).holds↔a.holds/\b.holds:=by cases a<;>cases b<;>simp[Sd.and,Sd.holds]
theorem Sd.MZ{t b:Bool}{s:Sd}:(s.imp t b).holds↔(t=b->s.holds):=by cases s<;>simp[Sd.imp,Sd.holds]
theorem jY{m:Fm}{s:AS}(R:Rp m s.fr){x:X}{f:V->zV}{r:V}{sd:Sd}(h:MX m x f=some (r,sd))(hs:sd.holds): ∃ u s',f u=some (r,s')/\s'.holds/\s.ev x=u.aG:=by
 unfold MX at h
 split at h
 ·rename_i v hv
  split at h
  rename_i u s0 hb
  split at h
  ·rename_i r' s' hf
   cases h
   rw[Sd.lH] at hs
   exact⟨u,s',hf,hs.2,by rw[R.ev hv,dR hb hs.1]⟩
  ·cases h
 ·cases h
theorem zy{m:Fm}{s:AS}(R:Rp m s.fr){x y:X}{f:V->V->zV}{r:V}{sd:Sd}(h:qz2 m x y f=some (r,sd))(hs:sd.holds): ∃ u v s',f u v=some (r,s')/\s'.holds/\s.ev x=u.aG/\s.ev y=v.aG:=by
 obtain⟨u,s',h1,h2,h3⟩:=jY R h hs
 obtain⟨v,s'',h4,h5,h6⟩:=jY R h1 h2
 exact⟨u,v,s'',h4,h5,h3,h6⟩
theorem aT{α:Type}{b:Bool}{x:Option α}{y:α}(h:dK b x=some y):b=true/\x=some y:=by
 cases b<;>simp[dK] at h; exact⟨rfl,h⟩
theorem ae5{n:Int}(h1:0<=n)(h2:n<18446744073709551616):IntKind.u64.wrap n=n:=by
 have e:IntKind.u64.wrap n=(if(false&&decide (n % 18446744073709551616>=9223372036854775808))=true then n % 18446744073709551616-18446744073709551616 else n % 18446744073709551616):=rfl
 rw[e]
 simp only[Bool.false_and,Bool.false_eq_true,if_false]
 omega
theorem adN{n:Int}(h1:0<=n)(h2:n<256):IntKind.u8.wrap n=n:=by
 have e:IntKind.u8.wrap n=(if(false&&decide (n % 256>=128))=true then n % 256-256 else n % 256):=rfl
 rw[e]
 simp only[Bool.false_and,Bool.false_eq_true,if_false]
 omega
theorem Vt{n:Int}(h:okI n):IntKind.i64.wrap n=n:=wrap64 h.1 h.2
theorem Rw.dZ(r:Rw):r.aV.length=r.len:=by cases r<;>simp[Rw.aV,Rw.len]
theorem Rw.OD(r:Rw):r.lenV= .int r.len:=by cases r<;>rfl
theorem Rw.zA{n:Int}{r:Rw}:r.rng n↔(0<=n/\n<r.len):=by cases r<;>simp[Rw.rng,Rw.len]<;>omega
theorem Rw.uy{n:Int}{r:Rw}:r.rV n↔(0<=n/\n<=r.len):=by cases r<;>simp[Rw.rV,Rw.len]<;>omega
theorem getD_map'{α:Type}{f:α->T}{l:List α}{i:Nat}{d:α}(h:i<l.length):(l.map f).getD i .any=f (l.getD i d):=by
 simp[List.getD_eq_getElem?_getD,h]
theorem Rw.OE{r:Rw}{i:Nat}(h:i<r.len):r.aV.getD i .any=(r.get i).aG:=by
 cases r<;>simp only[Rw.len] at h<;>simp only[Rw.aV,Rw.get,V.aG,Dat.aG,Rw.aV]<;>first|exact getD_map' h|omega
theorem Rw.EX(r:Rw)(n:Nat):(r.take n).aV=r.aV.take n:=by cases r<;>simp[Rw.take,Rw.aV]
theorem Rw.QI(r:Rw)(n:Nat):(r.drop n).aV=r.aV.drop n:=by cases r<;>simp[Rw.drop,Rw.aV]
theorem Rw.Zt(r:Rw):V.aV r.vs=r.aV:=by
 rw[iU]
 cases r<;>simp[Rw.vs,Rw.aV,V.aG,Dat.aG]
theorem Rw.IG{a b c:Rw}(h:a.app b=some c):c.aV=a.aV++b.aV:=by
 unfold Rw.app at h
 split at h<;>first|(cases h; done)|(cases h; simp[Rw.aV])
theorem V.abC{v:V}{r:Rw}(h:v.one=some r):r.aV=[v.aG]:=by
 unfold V.one at h
 split at h<;>first|(cases h; done)|(cases h; simp[Rw.aV,V.aG,V.aV,Dat.aG,iJ,Uf,IC])
theorem Rw.zx: ∀ {l:List V} {r:Rw},Rw.Ye l=some r->r.aV=V.aV l:=by
 intro l
 induction l with
 |nil=>intro r h; cases h; rfl
 |cons v l ih =>
  intro r h
  simp only[Rw.Ye] at h
  split at h
  ·rename_i a b h1 h2
   rw[Rw.IG h,V.abC h1,ih h2]; rfl
  ·cases h
theorem V.OG{v:V}{k:Nat}(h:v.kd=some k):v.aG.kd=k:=by
 cases v with
 |dat d=>cases h; exact Dat.adI d
 |_=>simp only[V.kd,Option.some.injEq,reduceCtorEq] at h<;>subst h<;>simp[V.aG,T.kd,eS,dM]
theorem V.GH{v:V}{l:List V}(h:v.cells=some l):v.aG.cells=V.aV l:=by
 cases v<;>simp only[V.cells,Option.some.injEq,reduceCtorEq] at h<;>subst h<;>simp[V.aG,Dat.Gz,T.cells,eS,V.aV]
theorem Hz.yO{h:Hz}{i:Nat}:(h.au i).isSome=(h.get i).isSome:=by simp[Hz.au]
theorem V.rG{h:Hz}{v:V}(hv:v.ku h=true):v.aG.ku h.au=true:=by
 cases v<;>simp only[V.ku,Bool.false_eq_true] at hv<;>simp[V.aG,T.ku,T.yC,eS,Value.oneCell',Hz.yO,hv]
 rename_i d
 cases d<;>rfl
theorem V.Zu{h:Hz}{v:V}(hv:v.ku h=true)(hk:v.kd=some 0):v.aG.yC h.au=true:=by
 cases v<;>simp only[V.ku,Bool.false_eq_true] at hv<;>simp only[V.kd,Option.some.injEq,Nat.succ_ne_zero] at hk<;>simp[V.aG,T.yC,eS,Value.oneCell',Hz.yO,hv]
 rename_i d
 cases d<;>cases hk
theorem Dat.free(d:Dat):d.aG.free=true:=by cases d<;>rfl
mutual
theorem V.nY:(v:V)->v.free=true->v.aG.free=true
 | .int _,_=>by simp[V.aG,T.free]
 | .bool _,_=>by simp[V.aG,T.free]
 | .u8 _,_=>by simp[V.aG,T.free]
 | .str _,_=>by simp[V.aG,T.free,eS]
 | .dat d,_=>by simp only[V.aG]; exact d.free
 | .agg l,h=>by simp only[V.aG,T.free]; simp only[V.free] at h; exact V.iE l h
 | .row _ _ _,_=>by simp[V.aG,T.free]
 | .Gy _ _ _,_=>by simp[V.aG,T.free]
 | .ref _ _,_=>by simp[V.aG,T.free]
 | .own _,h=>by simp[V.free] at h
 | .inn _,h=>by simp[V.free] at h
 | .pin _ _ _,h=>by simp[V.free] at h
 | .ptr _ _ _,h=>by simp[V.free] at h
 | .oV _ _ _,h=>by simp[V.free] at h
 | .fn _ l,h=>by simp only[V.aG,T.free]; simp only[V.free] at h; exact V.iE l h
 | .dH l,h=>by simp only[V.aG,T.free]; simp only[V.free] at h; exact V.iE l h
 | .cnd _ _,h=>by simp[V.free] at h
 | .raw t,h=>by simp only[V.aG]; simpa only[V.free] using h
theorem V.iE:(l:List V)->V.cu l=true->T.cu (V.aV l)=true
 |[],_=>by simp[V.aV,T.cu]
 |v::r,h=>by
  simp only[V.cu,Bool.and_eq_true] at h
  simp only[V.aV,T.cu,Bool.and_eq_true]
  exact⟨V.nY v h.1,V.iE r h.2⟩
end
theorem xO{l:List V}{i:Nat}{u:V}(h:l[i]? =some u):(V.aV l).getD i .any=u.aG:=by
 rw[iU,List.getD_eq_getElem?_getD,List.getElem?_map,h]; rfl
theorem V.EY{off k:Nat}{v u:V}(h:v.part off k=some u):v.aG.part off k=u.aG:=by
 unfold V.part at h
 split at h
 ·simp only[V.aG,Dat.Gz,T.part,T.cells]; exact xO h
 ·simp only[V.aG,T.part,T.cells]; exact xO h
 ·rename_i k x
  cases hb:(Nat.beq off 2)&&(Nat.beq k 4) with
  |false=>rw[hb] at h; cases h
  |true =>
   rw[hb] at h
   simp only[Bool.and_eq_true,Nat.beq_eq] at hb
   obtain⟨rfl,rfl⟩:=hb
   cases h; rfl
 ·cases h
  simp only[V.aG,T.part,T.cells,JW,JX]
 ·cases h
theorem fB{a b:Nat}(h:Nat.beq a b=true):a=b:=Nat.eq_of_beq_eq_true h
section
variable {m:Fm} {h:Hz} {s:AS}
def Ok(s:AS)(op:nR)(v:V):Prop:=qc s op/\qt s op=v.aG
theorem abD{op:BinOp}{x y:X}{u v r:V}{sd:Sd}(q:adJ op u v=some (r,sd))(hs:sd.holds)(h1:s.ev x=u.aG)(h2:s.ev y=v.aG):Ok s (.bin op x y) r:=by
 unfold Ok; simp only[qc,qt]; rw[h1,h2]
 unfold adJ at q
 split at q
 ·rename_i a b
  split at q<;>first|(cases q; done)|(cases q; simp only[Sd.holds] at hs; simp[V.aG,Ci,kEq,Vt,hs])
 ·split at q<;>first|(cases q; done)|(cases q; simp[V.aG,Ci,kEq])
 ·split at q
  ·cases q; simp[V.aG,Ci,eS,BJ]
  ·cases q; simp[V.aG,Ci,eS,BJ]
  ·rename_i a b _
   cases q
   simp only[Sd.holds] at hs
   have hsz:(((bs a).size+(bs b).size:Nat):Int)<=9223372036854775807:=by
    have e1:(bs a).size=a.length:=by simp[bs,ByteArray.size]
    have e2:(bs b).size=b.length:=by simp[bs,ByteArray.size]
    rw[e1,e2]; exact Int.ofNat_le.2 hs
   have hap:bs a++bs b=bs (a++b):=by apply ByteArray.ext; simp[bs]
   have hsz2:((bs a).size:Int)+(bs b).size<=9223372036854775807:=by omega
   simp[V.aG,Ci,eS,hsz2,hap]
  ·cases q
 ·split at q
  ·cases q
   simp only[Sd.holds] at hs
   refine⟨?_,?_⟩
   ·simp only[V.aG,Ci,hs,decide_true,cond_true,Option.isSome]
   ·simp only[V.aG,Ci,hs,decide_true,cond_true]; rfl
  ·cases q; simp[V.aG,Ci,kEq]
  ·cases q
   simp only[Sd.holds] at hs
   simp[V.aG,Ci,kEq,hs]
  ·cases q; simp[V.aG,Ci,kEq]
  ·cases q; simp[V.aG,Ci,kEq]
  ·cases q
 ·cases q
theorem Uj{x:X}(hx:BK x=true):x= .c (.lit (.bool true)):=by
 unfold BK at hx
 split at hx
 ·rfl
 ·cases hx
theorem QJ{x:X}(hx:yN x=true):x= .c (.lit (.bool false)):=by
 unfold yN at hx
 split at hx
 ·rfl
 ·cases hx
theorem Zv{c xa xb:X}{t:Bool}{va vb r:V}{sd:Sd}(R:Rp m s.fr)(ha:zU m xa=some va)(hb:zU m xb=some vb)(q:Zo t xa xb va.bare vb.bare=some (r,sd))(hs:sd.holds)(hc:s.ev c= .lit (.bool t)):Ok s (.pick c xa xb) r:=by
 unfold Ok; simp only[qc,qt]; rw[hc]
 refine⟨rfl,?_⟩
 unfold Zo at q
 split at q
 rename_i a sa b sb ea eb
 split at q
 ·rename_i v hp
  cases q
  rw[Sd.lH,Sd.MZ,Sd.MZ] at hs
  have h1:t=true->s.ev xa=a.aG:=fun e=>by rw[R.ev ha,dR ea (hs.1 e)]
  have h2:t=false->s.ev xb=b.aG:=fun e=>by rw[R.ev hb,dR eb (hs.2 e)]
  unfold acP at hp
  split at hp
  ·rename_i x y
   have hp':r= .bool (bif BK xa then t||y else bif yN xb then t&&x else bif t then x else y):=by
    cases e1:BK xa<;>cases e2:yN xb<;>simp[e1,e2] at hp ⊢ <;>exact hp.symm
   subst hp'
   have key:Aj (.lit (.bool t)) (s.ev xa) (s.ev xb)= .lit (.bool (bif t then x else y)):=by
    cases t with
    |true =>
     rw[h1 rfl]; simp only[V.aG,Aj]
     split<;>simp_all
    |false =>
     rw[h2 rfl]; simp only[V.aG,Aj]
     split<;>simp_all
   rw[key]
   simp only[V.aG]
   congr 2
   cases e1:BK xa with
   |true =>
    have:=Uj e1; subst this
    simp only[zU,Option.some.injEq] at ha; subst ha
    simp only[Eh,V.bare,Prod.mk.injEq] at ea
    have:=ea.1; cases this
    cases t<;>rfl
   |false =>
    cases e2:yN xb with
    |true =>
     have:=QJ e2; subst this
     simp only[zU,Option.some.injEq] at hb; subst hb
     simp only[Eh,V.bare,Prod.mk.injEq] at eb
     have:=eb.1; cases this
     cases t<;>simp
    |false=>rfl
  ·cases hp
   cases t with
   |true=>rw[h1 rfl]; simp only[V.aG,Aj,cond_true]
   |false=>rw[h2 rfl]; simp only[V.aG,Aj,cond_false]; split<;>simp_all
  ·cases hp
   cases t with
   |true=>rw[h1 rfl]; simp only[V.aG,Aj,cond_true,eS]
   |false=>rw[h2 rfl]; simp only[V.aG,Aj,cond_false,eS]; split<;>simp_all
  ·cases hp
 ·cases q
theorem Uk{k:Nat}{p:Option V}{r:V}{sd:Sd}(q:V.Uh k p=some (r,sd)): ∃ u,p=some u/\r= .ref k u:=by
 unfold V.Uh at q
 split at q
 ·cases q; exact⟨_,rfl,rfl⟩
 ·cases q
theorem H6{p:Option V}{r:V}{sd:Sd}(q:V.IE p=some (r,sd)):p=some r:=by
 unfold V.IE at q
 split at q
 ·cases q; rfl
 ·cases q
theorem Zw{k:Nat}(h:(!(Nat.beq k 0))=true):(!(k==0))=true:=by
 cases k<;>simp_all
theorem adO(hh:s.hp=h.au){off k:Nat}{x:X}{u r:V}{sd:Sd}(q:faZ h off k u=some (r,sd))(h1:s.ev x=u.aG):Ok s (.fa off k x) r:=by
 unfold Ok; simp only[qc,qt]; rw[h1]
 unfold faZ at q
 split at q
 ·obtain⟨g,q⟩:=aT q
  obtain⟨u,e,rfl⟩:=Uk q
  simp only[Bool.and_eq_true] at g
  simp only[V.aG,V.EY e,Bool.and_eq_true]
  exact⟨⟨Zw g.1,g.2⟩,trivial⟩
 ·obtain⟨g,q⟩:=aT q
  cases q
  simp only[V.aG,hh,Hz.yO,g,and_self]
 ·cases q
theorem adP{off k:Nat}{x:X}{u r:V}{sd:Sd}(q:fvZ off k u=some (r,sd))(h1:s.ev x=u.aG):Ok s (.fv off k x) r:=by
 unfold Ok; simp only[qc,qt]; rw[h1]
 unfold fvZ at q
 split at q
 ·rename_i kt hk
  obtain⟨g,q⟩:=aT q
  rw[V.OG hk,V.EY (H6 q)]
  simp only[Bool.and_eq_true] at g ⊢
  exact⟨⟨Zw g.1,g.2⟩,trivial⟩
 ·cases q
theorem aP{i:Nat}{o:OV}(e:h.get i=some o):h.au i=some o.aA:=by simp[Hz.au,e]
theorem abE: ∀ {l:List V} {i:Nat} {v:V},adK l i=some v->i<l.length/\(V.aV l).getD i .any=v.aG:=by
 intro l
 induction l with
 |nil=>intro i v h; cases h
 |cons u r ih =>
  intro i v h
  cases i with
  |zero=>cases h; exact⟨Nat.succ_pos _,rfl⟩
  |succ i =>
   obtain⟨a,b⟩:=ih h
   exact⟨Nat.succ_lt_succ a,by simpa [V.aV] using b⟩
theorem Zx(hh:s.hp=h.au){k:Nat}{x i:X}{u v r:V}{sd:Sd}(q:iaZ h k u v=some (r,sd))(hs:sd.holds)(h1:s.ev x=u.aG)(h2:s.ev i=v.aG):Ok s (.ia k x i) r:=by
 unfold Ok; simp only[qc,qt]; rw[h1,h2]
 unfold iaZ at q
 split at q
 ·rename_i k' f l n
  split at q
  ·rename_i v hv
   obtain⟨g,q⟩:=aT q
   cases q
   have:=fB g; subst this
   simp only[Sd.holds] at hs
   obtain⟨a,b⟩:=abE hv
   simp only[V.aG,YR,dM]
   exact⟨⟨trivial,hs,by omega⟩,by rw[b]⟩
  ·cases q
 ·rename_i k' f w n
  obtain⟨g,q⟩:=aT q
  cases q
  have:=fB g; subst this
  simp only[Sd.holds,Rw.zA] at hs
  simp only[V.aG,YR,Rw.dZ]
  refine⟨⟨trivial,hs⟩,?_⟩
  rw[Rw.OE (by omega)]
 ·rename_i o n
  split at q
  ·rename_i ty k' w e
   obtain⟨g,q⟩:=aT q
   cases q
   have:=fB g; subst this
   simp only[Sd.holds,Rw.zA] at hs
   simp only[V.aG,hh,aP e,OV.aA,V.aV,List.append_nil,YR,Rw.dZ]
   exact⟨⟨trivial,hs⟩,trivial⟩
  ·rename_i ty k' x e
   obtain⟨g,q⟩:=aT q
   cases q
   have:=fB g; subst this
   simp only[Sd.holds] at hs
   simp only[V.aG,hh,aP e,OV.aA,YR,dM]
   exact⟨⟨trivial,hs⟩,trivial⟩
  ·cases q
 ·rename_i o lo hi n
  split at q
  ·rename_i ty k' w e
   obtain⟨g,q⟩:=aT q
   cases q
   have:=fB g; subst this
   simp only[Sd.holds] at hs
   simp only[V.aG,hh,aP e,OV.aA,YR]
   exact⟨⟨trivial,hs⟩,trivial⟩
  ·cases q
 ·cases q
theorem adQ{x i:X}{u v r:V}{sd:Sd}(q:chZ u v=some (r,sd))(hs:sd.holds)(h1:s.ev x=u.aG)(h2:s.ev i=v.aG):Ok s (.ch x i) r:=by
 unfold Ok; simp only[qc,qt]; rw[h1,h2]
 unfold chZ at q
 split at q
 ·cases q
  simp only[Sd.holds] at hs
  simp only[V.aG,eS,YR,zu,Zn]
  exact⟨hs,trivial⟩
 ·cases q
  simp only[Sd.holds] at hs
  simp only[V.aG,eS,YR,zu,Zn]
  exact⟨hs,trivial⟩
 ·cases q
theorem Ul(hh:s.hp=h.au){k:Nat}{x:X}{u r:V}{sd:Sd}(q:ldZ h k u=some (r,sd))(hs:sd.holds)(h1:s.ev x=u.aG):Ok s (.ld k x) r:=by
 unfold Ok; simp only[qc,qt]; rw[h1]
 unfold ldZ at q
 split at q
 ·obtain⟨g,q⟩:=aT q
  cases q
  simp only[Bool.and_eq_true] at g
  have:=fB g.1; subst this
  simp[V.aG,g.2]
 ·rename_i i j off
  split at q
  ·rename_i ty ko v e
   simp only[V.aG,hh,aP e,OV.aA]
   unfold ldB at q
   cases hj:Nat.beq j 0 with
   |false=>rw[hj] at q; cases q
   |true =>
    have:=fB hj; subst this
    rw[hj] at q
    simp only[cond_true] at q
    cases hb:(Nat.beq off 0&&Nat.beq ko k) with
    |true =>
     rw[hb] at q; cases q
     simp only[Bool.and_eq_true] at hb
     have e1:=fB hb.1; have e2:=fB hb.2; subst e1; subst e2
     simp
    |false =>
     rw[hb] at q
     simp only[cond_false] at q
     obtain⟨g,q⟩:=aT q
     have hb':(off==0&&ko==k)=false:=by
      rw[Bool.and_eq_false_iff] at hb ⊢
      rcases hb with hb|hb
      ·left; simpa using Nat.ne_of_beq_eq_false hb
      ·right; simpa using Nat.ne_of_beq_eq_false hb
     simp only[hb',cond_false,Bool.false_or,List.getD_cons_zero,V.EY (H6 q),List.length_cons,List.length_nil]
     simp only[Bool.and_eq_true] at g ⊢
     exact⟨⟨by omega,Zw g.1,g.2⟩,trivial⟩
  ·rename_i ty ko w e
   simp only[V.aG,hh,aP e,OV.aA,V.aV,List.append_nil]
   unfold ldR at q
   cases hb:(Nat.beq off 0&&Nat.beq ko k) with
   |true =>
    rw[hb] at q; cases q
    simp only[Bool.and_eq_true] at hb
    have e1:=fB hb.1; have e2:=fB hb.2; subst e1; subst e2
    simp only[Sd.holds,Rw.zA] at hs
    have hlt:j<w.len:=by omega
    simp only[BEq.rfl,Bool.and_self,Bool.true_or,cond_true,Rw.dZ,Rw.OE hlt]
    exact⟨⟨hlt,trivial⟩,trivial⟩
   |false =>
    rw[hb] at q
    simp only[cond_false] at q
    split at q
    ·rename_i u hu
     obtain⟨g,q⟩:=aT q
     cases q
     have hb':(off==0&&ko==k)=false:=by
      rw[Bool.and_eq_false_iff] at hb ⊢
      rcases hb with hb|hb
      ·left; simpa using Nat.ne_of_beq_eq_false hb
      ·right; simpa using Nat.ne_of_beq_eq_false hb
     simp only[Sd.holds,Rw.zA] at hs
     have hlt:j<w.len:=by omega
     simp only[hb',cond_false,Bool.false_or,Rw.dZ,Rw.OE hlt,V.EY hu]
     simp only[Bool.and_eq_true] at g ⊢
     exact⟨⟨hlt,Zw g.1,g.2⟩,trivial⟩
    ·cases q
  ·cases q
 ·cases q
theorem adR(hh:s.hp=h.au){x:X}{u r:V}{sd:Sd}(q:ncZ h u=some (r,sd))(h1:s.ev x=u.aG):Ok s (.nc x) r:=by
 unfold Ok; simp only[qc,qt]; rw[h1]
 unfold ncZ at q
 split at q
 ·cases q; simp[V.aG]
 ·obtain⟨g,q⟩:=aT q; cases q; simp[V.aG,hh,Hz.yO,g]
 ·cases q; simp[V.aG]
 ·cases q
theorem Vu(hh:s.hp=h.au){str:Bool}{x:X}{u r:V}{sd:Sd}(q:abB h str u=some (r,sd))(h1:s.ev x=u.aG):Ok s (.len str x) r:=by
 unfold Ok; simp only[qc,qt]; rw[h1]
 unfold abB at q
 split at q
 ·obtain⟨g,q⟩:=aT q; cases q
  simp only[Bool.not_eq_true'] at g
  simp[V.aG,Rw.OD,Rw.dZ,g]
 ·obtain⟨g,q⟩:=aT q; cases q
  simp only[Bool.not_eq_true'] at g
  simp[V.aG,dM,g]
 ·obtain⟨g,q⟩:=aT q; cases q
  simp[V.aG,eS,zu,g]
 ·rename_i o
  split at q
  ·rename_i ty k w y e
   obtain⟨g,q⟩:=aT q
   simp only[Bool.and_eq_true,Bool.not_eq_true'] at g
   have hk:k≠fU:=Nat.ne_of_beq_eq_false g.2
   split at q
   ·cases q
    simp only[V.aG,hh,aP e,OV.aA,V.aV,List.append_nil,Rw.OD,Rw.dZ]
    exact⟨⟨g.1,hk⟩,trivial⟩
   ·cases q
    simp only[V.aG,hh,aP e,OV.aA,List.length_append,dM,Rw.dZ]
    exact⟨⟨g.1,hk⟩,by simp⟩
  ·rename_i ty k x e
   obtain⟨g,q⟩:=aT q
   cases q
   simp only[Bool.and_eq_true,Bool.not_eq_true'] at g
   simp only[V.aG,hh,aP e,OV.aA,dM]
   exact⟨⟨g.1,Nat.ne_of_beq_eq_false g.2⟩,trivial⟩
  ·cases q
 ·rename_i o lo hi
  obtain⟨g,q⟩:=aT q; cases q
  simp only[Bool.and_eq_true,Bool.not_eq_true'] at g
  simp[V.aG,hh,Hz.yO,g]
 ·cases q
theorem adS{x y:X}{u v r:V}{sd:Sd}(q:mxZ u v=some (r,sd))(h1:s.ev x=u.aG)(h2:s.ev y=v.aG):Ok s (.mx x y) r:=by
 unfold Ok; simp only[qc,qt]; rw[h1,h2]
 unfold mxZ at q
 split at q
 ·rename_i a b
  cases q; simp only[V.aG,true_and]; congr 2; split<;>omega
 ·cases q
theorem adT{x y:X}{u v r:V}{sd:Sd}(q:mnZ u v=some (r,sd))(h1:s.ev x=u.aG)(h2:s.ev y=v.aG):Ok s (.mn x y) r:=by
 unfold Ok; simp only[qc,qt]; rw[h1,h2]
 unfold mnZ at q
 split at q
 ·rename_i a b
  cases q; simp only[V.aG,true_and]; congr 2; split<;>omega
 ·cases q
theorem adU{i:Nat}{x:X}{u r:V}{sd:Sd}(q:exZ i u=some (r,sd))(h1:s.ev x=u.aG):Ok s (.ex x i) r:=by
 unfold Ok; simp only[qc,qt]; rw[h1]
 unfold exZ at q
 split at q
 ·split at q
  ·rename_i l _ v e
   cases q
   have hi:i<l.length:=(List.getElem?_eq_some_iff.1 e).1
   simp only[V.aG,Nat.blt_eq,dM,xO e]
   exact⟨hi,trivial⟩
  ·cases q
 ·cases q
theorem abG{ne:Bool}{n:Nat}{x y:X}{u v r:V}{sd:Sd}(q:adL ne n u v=some (r,sd))(h1:s.ev x=u.aG)(h2:s.ev y=v.aG):Ok s (.eqs ne n x y) r:=by
 unfold Ok; simp only[qc,qt]; rw[h1,h2]
 unfold adL at q
 split at q
 ·rename_i x y
  obtain⟨g,q⟩:=aT q; cases q
  have:=fB g; subst this
  have e:sS [.int x.c,.int x.n,.int x.t,.int x.f] [.int y.c,.int y.n,.int y.t,.int y.f]=(x==y):=by
   cases x; cases y; simp[sS,BEq.beq]
  simp only[V.aG,Dat.aG,Ue,e]
  exact⟨rfl,trivial⟩
 ·rename_i x y
  obtain⟨g,q⟩:=aT q; cases q
  have:=fB g; subst this
  have e:sS [.int x.message,.int x.EU,.int x.bound.c,.int x.bound.n,.int x.bound.t,.int x.bound.f] [.int y.message,.int y.EU,.int y.bound.c,.int y.bound.n,.int y.bound.t,.int y.bound.f]=(x==y):=by
   obtain⟨a,b,c,d,e,f⟩:=x; obtain⟨a',b',c',d',e',f'⟩:=y; simp[sS,BEq.beq]
  simp only[V.aG,Dat.aG,QE,e]
  exact⟨rfl,trivial⟩
 ·cases q
theorem adV{n:Nat}{x:X}{u r:V}{sd:Sd}(q:saZ n u=some (r,sd))(h1:s.ev x=u.aG):Ok s (.sa n x) r:=by
 unfold Ok; simp only[qc,qt]; rw[h1]
 unfold saZ at q
 split at q
 ·rename_i k l
  split at q
  ·rename_i w hw
   obtain⟨g,q⟩:=aT q; cases q
   simp only[V.aG,dM]
   exact⟨g,by rw[Rw.zx hw]⟩
  ·cases q
 ·cases q
theorem abH{x:X}{u r:V}{sd:Sd}(q:adM u=some (r,sd))(h1:s.ev x=u.aG):Ok s (.NV x) r:=by
 unfold Ok; simp only[qc,qt]; rw[h1]
 unfold adM at q
 split at q
 ·cases q; simp[V.aG,Rw.OD,Rw.dZ]
 ·cases q
end
section
variable {m:Fm} {h:Hz} {s:AS}
theorem uz(R:Rp m s.fr): ∀ {xs:List X} {l:List V} {sd:Sd},AU m xs=some (l,sd)->sd.holds->xs.map s.ev=V.aV l:=by
 intro xs
 induction xs with
 |nil=>intro l sd q _; cases q; rfl
 |cons x r ih =>
  intro l sd q hs
  simp only[AU] at q
  split at q
  ·rename_i v l' s' h1 h2
   cases q
   rw[Sd.lH] at hs
   simp only[List.map_cons,V.aV]
   rw[R.ev h1,dR (v:=v) (u:=v.bare.1) (s:=v.bare.2) rfl hs.1,ih h2 hs.2]
  ·cases q
theorem GI: ∀ {l:List V},Dc h l=true->wF h.au (V.aV l)=true:=by
 intro l
 induction l with
 |nil=>intro _; rfl
 |cons v r ih =>
  intro q
  simp only[Dc,Bool.and_eq_true] at q
  simp only[V.aV,wF,Bool.and_eq_true]
  exact⟨V.rG q.1,ih q.2⟩
theorem II{k:Nat}: ∀ {l:List V},Ew k l=true-> ∀ v∈l,v.kd=some k:=by
 intro l
 induction l with
 |nil=>intro _ v hv; cases hv
 |cons u r ih =>
  intro q v hv
  simp only[Ew,Bool.and_eq_true] at q
  rcases List.mem_cons.1 hv with rfl|hv
  ·have:=q.1
   split at this
   ·rename_i k' e; rw[e,fB this]
   ·cases this
  ·exact ih q.2 v hv
theorem Xl: ∀ {l:List V},Dc h l=true->Ew 0 l=true->zf h.au (V.aV l)=true:=by
 intro l
 induction l with
 |nil=>intro _ _; rfl
 |cons v r ih =>
  intro q k
  have hk:=II k v (by simp)
  simp only[Dc,Ew,Bool.and_eq_true] at q k
  simp only[V.aV,zf,Bool.and_eq_true]
  exact⟨V.Zu q.1 hk,ih q.2 k.2⟩
theorem Zy: ∀ {ps:List (Nat×Nat×X)} {vs z l:List V},Vs ps vs z=some l->(ps.map fun p=>s.ev p.2.2)=V.aV vs ->
  Gh (V.aV z) (ps.map fun p=>(p.1,p.2.1,s.ev p.2.2))=true/\Ho (V.aV z) (ps.map fun p=>(p.1,p.2.1,s.ev p.2.2))=V.aV l:=by
 intro ps
 induction ps with
 |nil =>
  intro vs z l q he
  cases vs with
  |nil=>cases q; exact⟨rfl,rfl⟩
  |cons v vs=>simp[V.aV] at he
 |cons p ps ih =>
  intro vs z l q he
  obtain⟨off,n,x⟩:=p
  cases vs with
  |nil=>simp[V.aV] at he
  |cons v vs =>
   simp only[Vs] at q
   split at q
   ·rename_i c hc
    obtain⟨g,q⟩:=aT q
    simp only[List.map_cons,V.aV,List.cons.injEq] at he
    simp only[Bool.and_eq_true] at g
    have e1:=fB g.1
    obtain⟨i1,i2⟩:=ih q he.2
    simp only[List.map_cons,Gh,Ho,Bool.and_eq_true]
    have ec:(s.ev x).cells=V.aV c:=by rw[he.1]; exact V.GH hc
    simp only[wV,JW,JX] at i1 i2
    simp only[ec,dM]
    refine⟨⟨⟨by simpa using e1,g.2⟩,i1⟩,i2⟩
   ·cases q
theorem adW(R:Rp m s.fr)(hh:s.hp=h.au){z:List T}{ps:List (Nat×Nat×X)}{r:V}{sd:Sd}(q:mkZ m h z ps=some (r,sd))(hs:sd.holds):Ok s (.mk z ps) r:=by
 unfold mkZ at q
 split at q
 ·rename_i vs s' hb
  split at q
  ·rename_i l hl
   obtain⟨g,q⟩:=aT q
   cases q
   have he:=uz R hb hs
   have he':(ps.map fun p=>s.ev p.2.2)=V.aV vs:=by rw[<- he]; simp
   obtain⟨i1,i2⟩:=Zy hl he'
   rw[zx] at i1 i2
   unfold Ok; simp only[qc,qt]
   rw[i1,i2,he',hh,GI g]
   exact⟨rfl,rfl⟩
  ·cases q
 ·cases q
theorem Vw{k n:Nat}: ∀ {ps:List (Nat×X)} {vs z l:List V},Zp n ps vs z=some l->(ps.map fun p=>s.ev p.2)=V.aV vs->Ew k vs=true ->
  Jj k n (ps.map fun p=>(p.1,s.ev p.2))=true/\rC (V.aV z) (ps.map fun p=>(p.1,s.ev p.2))=V.aV l:=by
 intro ps
 induction ps with
 |nil =>
  intro vs z l q he _
  cases vs with
  |nil=>cases q; exact⟨rfl,rfl⟩
  |cons v vs=>simp[V.aV] at he
 |cons p ps ih =>
  intro vs z l q he hk
  obtain⟨i,x⟩:=p
  cases vs with
  |nil=>simp[V.aV] at he
  |cons v vs =>
   simp only[Zp] at q
   obtain⟨g,q⟩:=aT q
   simp only[List.map_cons,V.aV,List.cons.injEq] at he
   have hkv:=II hk v (by simp)
   simp only[Ew,Bool.and_eq_true] at hk
   obtain⟨i1,i2⟩:=ih q he.2 hk.2
   have e:V.aV (z.set i v)=(V.aV z).set i (s.ev x):=by rw[he.1]; simp[iU,List.map_set]
   rw[e] at i2
   simp only[List.map_cons,Jj,rC,Bool.and_eq_true]
   refine⟨⟨⟨?_,g⟩,i1⟩,i2⟩
   rw[he.1,V.OG hkv]; simp
theorem adX(R:Rp m s.fr)(hh:s.hp=h.au){ty k:Nat}{z:T}{n:Nat}{ps:List (Nat×X)}{r:V}{sd:Sd}(q:msZ m h k z n ps=some (r,sd))(hs:sd.holds):Ok s (.ms ty k z n ps) r:=by
 unfold msZ at q
 split at q
 ·rename_i vs s' hb
  split at q
  ·rename_i l hl
   obtain⟨g,q⟩:=aT q
   have hs':s'.holds/\r.aG= .sl k true (V.aV l):=by
    split at q
    ·rename_i w hw
     cases q; exact⟨hs,by simp only[V.aG]; rw[Rw.zx hw]⟩
    ·cases q; exact⟨hs,rfl⟩
   have he:=uz R hb hs'.1
   have he':(ps.map fun p=>s.ev p.2)=V.aV vs:=by rw[<- he]; simp
   simp only[Bool.and_eq_true] at g
   obtain⟨⟨⟨⟨⟨⟨g1,g2⟩,g3⟩,g4⟩,g5⟩,g6⟩,g7⟩:=g
   obtain⟨i1,i2⟩:=Vw hl he' g3
   have e:V.aV (List.replicate n (Eh z))=List.replicate n z:=by rw[iU,List.map_replicate,xM]
   rw[e] at i2
   unfold Ok; simp only[qc,qt]
   rw[i1,i2,he',hh,GI g4,V.iE _ g5,g1,g2,g6,g7,hs'.2]
   exact⟨rfl,rfl⟩
  ·cases q
 ·cases q
theorem AV(R:Rp m s.fr){x:Option X}{v:Option V}{sd:Sd}(q:JV m x=some (v,sd))(hs:sd.holds):x.map s.ev=v.map V.aG:=by
 cases x with
 |none=>cases q; rfl
 |some x =>
  simp only[JV] at q
  split at q
  ·rename_i u hu
   cases q
   simp only[Option.map_some]; rw[R.ev hu,dR (v:=u) (u:=u.bare.1) (s:=u.bare.2) rfl hs]
  ·cases q
theorem GK{k k':Nat}{r:Rw}(g:kOk k k' r=true):k'=k\/r.aV=[]:=by
 unfold kOk at g
 split at g
 ·exact .inr rfl
 ·exact .inl (fB g)
theorem QK{k k':Nat}{f:Bool}{w:Rw}{lo hi mx:Option V}{r:V}{sd:Sd}(q:Zq k k' f w lo hi mx=some (r,sd))(hs:sd.holds) :
  slC k (.sl k' f w.aV) (lo.map V.aG) (hi.map V.aG) (mx.map V.aG)/\Qg k (.sl k' f w.aV) (lo.map V.aG) (hi.map V.aG) (mx.map V.aG)=r.aG:=by
 unfold Zq at q
 split at q
 ·obtain⟨g,q⟩:=aT q; cases q
  simp only[Option.map_none,slC,Qg,V.aG]
  exact⟨GK g,trivial⟩
 ·obtain⟨g,q⟩:=aT q; cases q
  simp only[Sd.holds,Rw.uy] at hs
  simp only[Option.map_none,Option.map_some,slC,Qg,V.aG,Rw.QI,Rw.dZ]
  exact⟨⟨GK g,hs⟩,trivial⟩
 ·obtain⟨g,q⟩:=aT q; cases q
  simp only[Sd.holds,Rw.uy] at hs
  simp only[Option.map_none,Option.map_some,slC,Qg,V.aG,Rw.EX,Rw.dZ]
  exact⟨⟨GK g,hs⟩,trivial⟩
 ·obtain⟨g,q⟩:=aT q; cases q
  simp only[Sd.holds,Rw.uy] at hs
  simp only[Option.map_none,Option.map_some,slC,Qg,V.aG,Rw.EX,Rw.QI,Rw.dZ]
  exact⟨⟨GK g,hs.1,hs.2.1,hs.2.2.2⟩,trivial⟩
 ·obtain⟨g,q⟩:=aT q; cases q
  simp only[Sd.holds,Rw.uy] at hs
  simp only[Option.map_none,Option.map_some,slC,Qg,V.aG,Rw.EX,Rw.dZ]
  exact⟨⟨GK g,hs.1,hs.2.1,hs.2.2.2⟩,trivial⟩
 ·cases q
theorem Zz{k i ty ko:Nat}{w:Rw}{lo hi mx:Option V}{r:V}{sd:Sd}(q:Zr k i ko w lo hi mx=some (r,sd))(hs:sd.holds) :
  Ez k ⟨ty,ko,w.aV⟩ (lo.map V.aG) (hi.map V.aG) (mx.map V.aG)/\zL i ⟨ty,ko,w.aV⟩ (lo.map V.aG) (hi.map V.aG) (mx.map V.aG)=r.aG:=by
 unfold Zr at q
 split at q
 ·obtain⟨g,q⟩:=aT q; cases q
  simp only[Sd.holds,Rw.uy] at hs
  simp only[Option.map_none,Option.map_some,Ez,zL,V.aG,Rw.dZ]
  exact⟨⟨fB g,hs⟩,trivial⟩
 ·obtain⟨g,q⟩:=aT q; cases q
  simp only[Sd.holds,Rw.uy] at hs
  simp only[Option.map_none,Option.map_some,Ez,zL,V.aG,Rw.dZ]
  exact⟨⟨fB g,hs⟩,trivial⟩
 ·obtain⟨g,q⟩:=aT q; cases q
  simp only[Sd.holds,Rw.uy] at hs
  simp only[Option.map_none,Option.map_some,Ez,zL,V.aG,Rw.dZ]
  exact⟨⟨fB g,hs.1,hs.2.1,hs.2.2.2⟩,trivial⟩
 ·cases q
theorem Xm{k i ty ko:Nat}{w:Rw}{xs:List V}{lo hi mx:Option V}{r:V}{sd:Sd}(q:Ui k i ko w xs lo hi mx=some (r,sd))(hs:sd.holds) :
  Ez k ⟨ty,ko,w.aV++V.aV xs⟩ (lo.map V.aG) (hi.map V.aG) (mx.map V.aG)/\zL i ⟨ty,ko,w.aV++V.aV xs⟩ (lo.map V.aG) (hi.map V.aG) (mx.map V.aG)=r.aG:=by
 unfold Ui at q
 split at q
 ·obtain⟨g,q⟩:=aT q; cases q
  simp only[Sd.holds,Rw.uy] at hs
  simp only[Option.map_none,Option.map_some,Ez,zL,V.aG]
  refine⟨⟨fB g,hs.1,?_⟩,trivial⟩
  have:=hs.2
  simp only[List.length_append,Rw.dZ]; omega
 ·split at q
  ·simp only[V.aV,List.append_nil]; exact Zz q hs
  ·cases q
theorem Vx(R:Rp m s.fr){b:Bool}{k:Nat}{x:X}{lo hi mx:Option X}{r:V}{sd:Sd}(q:slX m h b k x lo hi mx=some (r,sd))(hs:sd.holds) :
  ∃ v lo' hi' mx' s',slZ h b k v lo' hi' mx'=some (r,s')/\s'.holds/\s.ev x=v.aG/\lo.map s.ev=lo'.map V.aG/\hi.map s.ev=hi'.map V.aG/\mx.map s.ev=mx'.map V.aG:=by
 obtain⟨v,s',q,hs,hv⟩:=jY R q hs
 split at q
 ·rename_i lo' s1 hi' s2 mx' s3 e1 e2 e3
  split at q
  ·rename_i u s4 e4
   cases q
   rw[Sd.lH,Sd.lH,Sd.lH] at hs
   exact⟨v,lo',hi',mx',s4,e4,hs.2.2.2,hv,AV R e1 hs.1,AV R e2 hs.2.1,AV R e3 hs.2.2.1⟩
  ·cases q
 ·cases q
theorem ae6(R:Rp m s.fr){k:Nat}{x:X}{lo hi mx:Option X}{r:V}{sd:Sd}(q:slX m h false k x lo hi mx=some (r,sd))(hs:sd.holds):Ok s (.sl k x lo hi mx) r:=by
 obtain⟨v,lo',hi',mx',s',q,hs,hv,e1,e2,e3⟩:=Vx R q hs
 unfold Ok; simp only[qc,qt]; rw[hv,e1,e2,e3]
 unfold slZ at q
 split at q
 ·exact QK q hs
 ·cases q
 ·cases q
theorem adY(R:Rp m s.fr)(hh:s.hp=h.au){k:Nat}{x:X}{lo hi mx:Option X}{r:V}{sd:Sd}(q:slX m h true k x lo hi mx=some (r,sd))(hs:sd.holds):Ok s (.U9 k x lo hi mx) r:=by
 obtain⟨v,lo',hi',mx',s',q,hs,hv,e1,e2,e3⟩:=Vx R q hs
 unfold Ok; simp only[qc,qt]; rw[hv,e1,e2,e3]
 unfold slZ at q
 split at q
 ·exact QK q hs
 ·simp only[cond_true] at q
  split at q
  ·rename_i i _ ty ko w xs e
   simp only[V.aG,hh,aP e,OV.aA]
   exact Xm q hs
  ·cases q
 ·cases q
theorem DW{t:Str}{a b:Nat}(hab:a<=b)(_hb:b<=t.length):(bs t).extract a b=bs ((t.take b).drop a):=by
 apply ByteArray.ext
 have h1:((bs t).extract a b).data=(bs t).data.extract a b:=ByteArray.data_extract
 rw[h1]
 apply Array.ext'
 simp[bs,List.extract,List.take_drop]
 rw[show a+(b-a)=b by omega]
theorem ae7(R:Rp m s.fr){x:X}{lo hi:Option X}{r:V}{sd:Sd}(q:ssX m x lo hi=some (r,sd))(hs:sd.holds):Ok s (.ss x lo hi) r:=by
 obtain⟨v,s',q,hs,hv⟩:=jY R q hs
 split at q
 ·rename_i t lo' s1 hi' s2 e1 e2
  split at q
  ·rename_i u s4 e4
   cases q
   rw[Sd.lH,Sd.lH] at hs
   have f1:=AV R e1 hs.1
   have f2:=AV R e2 hs.2.1
   unfold Ok; simp only[qc,qt]; rw[hv,f1,f2]
   have hs4:=hs.2.2
   unfold ssZ at e4
   split at e4
   ·cases e4
    simp only[Sd.holds] at hs4
    simp only[Option.map_none,Option.map_some,V.aG,eS,zu]
    refine⟨hs4,?_⟩
    rw[DW (by omega) (Nat.le_refl _)]; simp
   ·cases e4
    simp only[Sd.holds] at hs4
    simp only[Option.map_none,Option.map_some,V.aG,eS,zu]
    refine⟨hs4,?_⟩
    rw[DW (by omega) (by omega)]; simp
   ·cases e4
    simp only[Sd.holds] at hs4
    simp only[Option.map_some,V.aG,eS,zu]
    refine⟨hs4,?_⟩
    rw[DW (by omega) (by omega)]
   ·cases e4
  ·cases q
 ·cases q
theorem ad1(R:Rp m s.fr)(hh:s.hp=h.au){f:FuncId}{cap:List X}{r:V}{sd:Sd}(q:mfZ m h f cap=some (r,sd))(hs:sd.holds):Ok s (.mf f cap) r:=by
 unfold mfZ at q
 split at q
 ·rename_i l s' hb
  obtain⟨g,q⟩:=aT q
  cases q
  simp only[Bool.and_eq_true] at g
  unfold Ok; simp only[qc,qt]
  rw[uz R hb hs,hh,Xl g.1.1 g.1.2,g.2]
  exact⟨rfl,rfl⟩
 ·cases q
theorem ad2{f:FuncId}{x:X}{v r:V}{sd:Sd}(q:mbZ f v=some (r,sd))(h1:s.ev x=v.aG):Ok s (.mb f x) r:=by
 unfold mbZ at q
 split at q
 ·obtain⟨g,q⟩:=aT q; cases q
  unfold Ok; simp only[qc,qt]; rw[h1]; exact⟨Nat.blt_eq.mp g,rfl⟩
 ·obtain⟨g,q⟩:=aT q; cases q
  rename_i d
  unfold Ok; simp only[qc,qt]; rw[h1]; simp only[V.aG]; rw[Dat.Gz]; exact⟨Nat.blt_eq.mp g,rfl⟩
 ·cases q
theorem ZA(R:Rp m s.fr)(hh:s.hp=h.au){op:nR}{r:V}{sd:Sd}(q:qz m h op=some (r,sd))(hs:sd.holds):bG op=true/\Ok s op r:=by
 unfold qz at q
 split at q
 ·split at q
  ·rename_i v e; cases q
   exact⟨rfl,trivial,R.ev e⟩
  ·cases q
 ·obtain⟨c,s',q,hs,hc⟩:=jY R q hs
  split at q
  ·rename_i t va vb e1 e2
   exact⟨rfl,Zv R e1 e2 q hs hc⟩
  ·cases q
 ·obtain⟨u,v,s',q,hs,h1,h2⟩:=zy R q hs
  exact⟨rfl,abD q hs h1 h2⟩
 ·obtain⟨u,v,s',q,hs,h1,h2⟩:=zy R q hs
  split at q
  ·cases q; refine⟨rfl,?_⟩; unfold Ok; simp only[qc,qt]; rw[h1,h2]; exact⟨rfl,rfl⟩
  ·cases q
 ·obtain⟨u,s',q,hs,h1⟩:=jY R q hs
  split at q
  ·cases q; refine⟨rfl,?_⟩; unfold Ok; simp only[qc,qt]; rw[h1]; exact⟨rfl,rfl⟩
  ·cases q
 ·obtain⟨u,s',q,hs,h1⟩:=jY R q hs
  split at q
  ·cases q; refine⟨rfl,?_⟩; unfold Ok; simp only[qc,qt]; rw[h1]; simp only[V.aG,true_and]; rw[Vt hs]
  ·cases q; refine⟨rfl,?_⟩; unfold Ok; simp only[qc,qt]; rw[h1]; simp only[V.aG,true_and]; rw[Vt hs]
  ·cases q; refine⟨rfl,?_⟩; unfold Ok; simp only[qc,qt]; rw[h1]; simp only[V.aG,true_and]; rw[Vt hs]
  ·cases q
 ·obtain⟨u,s',q,hs,h1⟩:=jY R q hs
  split at q
  ·cases q; refine⟨rfl,?_⟩; unfold Ok; simp only[qc,qt]; rw[h1]; simp only[V.aG,true_and]; rw[ae5 hs.1 hs.2]
  ·cases q; refine⟨rfl,?_⟩; unfold Ok; simp only[qc,qt]; rw[h1]; exact⟨trivial,rfl⟩
  ·cases q
 ·obtain⟨u,s',q,hs,h1⟩:=jY R q hs
  split at q
  ·cases q; refine⟨rfl,?_⟩; unfold Ok; simp only[qc,qt]; rw[h1]; simp only[V.aG,true_and]; rw[adN hs.1 hs.2]
  ·cases q
 ·obtain⟨u,s',q,hs,h1⟩:=jY R q hs; exact⟨rfl,adO hh q h1⟩
 ·obtain⟨u,s',q,hs,h1⟩:=jY R q hs; exact⟨rfl,adP q h1⟩
 ·obtain⟨u,v,s',q,hs,h1,h2⟩:=zy R q hs; exact⟨rfl,Zx hh q hs h1 h2⟩
 ·obtain⟨u,v,s',q,hs,h1,h2⟩:=zy R q hs; exact⟨rfl,adQ q hs h1 h2⟩
 ·obtain⟨u,s',q,hs,h1⟩:=jY R q hs; exact⟨rfl,Ul hh q hs h1⟩
 ·obtain⟨u,s',q,hs,h1⟩:=jY R q hs; exact⟨rfl,adR hh q h1⟩
 ·obtain⟨u,s',q,hs,h1⟩:=jY R q hs; exact⟨rfl,Vu hh q h1⟩
 ·obtain⟨u,v,s',q,hs,h1,h2⟩:=zy R q hs; exact⟨rfl,adS q h1 h2⟩
 ·obtain⟨u,v,s',q,hs,h1,h2⟩:=zy R q hs; exact⟨rfl,adT q h1 h2⟩
 ·exact⟨rfl,adW R hh q hs⟩
 ·exact⟨rfl,adX R hh q hs⟩
 ·exact⟨rfl,ae6 R q hs⟩
 ·exact⟨rfl,adY R hh q hs⟩
 ·exact⟨rfl,ae7 R q hs⟩
 ·obtain⟨u,s',q,hs,h1⟩:=jY R q hs; exact⟨rfl,adU q h1⟩
 ·exact⟨rfl,ad1 R hh q hs⟩
 ·obtain⟨u,v,s',q,hs,h1,h2⟩:=zy R q hs; exact⟨rfl,abG q h1 h2⟩
 ·obtain⟨u,s',q,hs,h1⟩:=jY R q hs; exact⟨rfl,abH q h1⟩
 ·obtain⟨u,s',q,hs,h1⟩:=jY R q hs; exact⟨rfl,ad2 q h1⟩
 ·obtain⟨u,s',q,hs,h1⟩:=jY R q hs; exact⟨rfl,adV q h1⟩
 ·cases q
end
structure ah(P:Program)(dr:Bool)(g:Option Bool)(f:FuncId)(args:List V)(h:Hz)(n:Nat)(K:V->Hz->Prop)(KW:Nat->V->Hz->Prop):Prop where
 ok:(match g with
  |none=>aS P f (V.aV args) h.au n fun t hp=> ∃ v h',t=v.aG/\hp=h'.au/\(dr=true->h'=h/\t.free=true)/\K v h'
  |some b=>(∃ v,(b=true->aS P f (V.aV args) h.au n fun t hp=>t=v.aG/\hp=h.au)/\v.free=true/\K v h) \/
   (dr=false/\(b=true->aS P f (V.aV args) h.au n fun t hp=> ∃ v h',t=v.aG/\hp=h'.au/\K v h')/\(b=false->K (.int 0) h))) \/
  (g=none/\dr=false/\ ∃ k,jC P f (V.aV args) h.au n k fun t hp=> ∃ v h',t=v.aG/\hp=h'.au/\KW k v h') \/
  (g=none/\dr=true/\h.get n=none/\aS P f (V.aV args) h.au n fun t hp=> ∃ v o,t=v.aG/\hp=Hz.au ((n,some o)::h)/\KW 0 v ((n,some o)::h))
structure ae8(P:Program)(f:FuncId)(args:List V)(h:Hz)(n:Nat)(K:V->Hz->Prop):Prop where
 ok: ∃ (v:V) (o:Option OV),v.aG.ids (fun i=>i=n)/\(∀ ob,o=some ob->T.cu ob.aA.l=true) /\
  (∀ hp:Hp,(∀ i ob,h.au i=some ob->hp i=some ob)->aS P f (V.aV args) hp n fun t' h'=>t'=v.aG/\h'=jq hp n (o.map OV.aA)) /\
  K v (match o with|none=>h|some o=>(n,some o)::h)
def DX(dr fl:Bool)(a b c:Prop):Prop :=
 match dr with
 |false=>a
 |true=>match fl with
  |false=>b
  |true=>c
inductive Yx(p a b:Prop):Prop where
 |mk:(p->a)->b->Yx p a b
inductive ae9(o:Option (List Bool))(yes:List Bool->Prop)(no:Prop):Prop where
 |mk:(∀ l,o=some l->yes l)->(o=none->no)->ae9 o yes no
def V.seq(v:V)(K:V->Prop):Prop :=
 match v with
 | .int n=>K (.int n)
 | .bool b=>K (.bool b)
 | .u8 n=>K (.u8 n)
 | .str s=>K (.str s)
 | .dat d=>K (.dat d)
 | .agg l=>K (.agg l)
 | .row k f r=>K (.row k f r)
 | .Gy k f l=>K (.Gy k f l)
 | .ref k v=>K (.ref k v)
 | .own i=>K (.own i)
 | .inn i=>K (.inn i)
 | .pin i j o=>K (.pin i j o)
 | .ptr i j o=>K (.ptr i j o)
 | .oV i a b=>K (.oV i a b)
 | .fn f l=>K (.fn f l)
 | .dH l=>K (.dH l)
 | .cnd b v=>K (.cnd b v)
 | .raw t=>K (.raw t)
theorem V.seq_eq(v:V)(K:V->Prop):v.seq K=K v:=by cases v<;>rfl
def iH(d:Option Nat)(v:V)(m:Fm):Fm :=
 match d with
 |some d=>(d,v)::m
 |none=>m
def rW:Option Bool->V->V
 |none,v=>v
 |some b,.cnd c v=>.cnd (b&&c) v
 |some b,v=>.cnd b v
theorem GL(v:V):(rW (some true) v).aG=v.aG:=by cases v<;>rfl
theorem Um(v:V):(rW (some false) v).aG=T.un:=by cases v<;>rfl
def Un(m:Fm):Option (Nat×Bool)->Option (Option Bool)
 |none=>some none
 |some (g,w)=>match m.get g with
  |some (.bool b)=>some (some (bif w then b else !b))
  |some (.cnd c (.bool b))=>some (some (c&&(bif w then b else !b)))
  |_=>none
def ltX(nx:Nat)(m:Fm):List X->Bool
 |[]=>true
 |x::r=>(match zU m x with|some v=>T.lt nx v.aG|none=>false)&&ltX nx m r
def ZB(nx:Nat)(m:Fm):nR->Bool
 | .st _ x _=>match zU m x with|some v=>T.newer nx v.aG|none=>false
 | .app _ _ _ x _=>match zU m x with|some v=>T.newer nx v.aG|none=>false
 | .SA _ _ _=>false
 | .TB _ _ _=>false
 | .call _ _=>true
 | .nJ _ _=>true
 |op=>ltX nx m op.xs
def abI(i:Nat)(m:Fm):List X->Bool
 |[]=>true
 |x::r=>(match zU m x with|some v=>T.nid i v.aG|none=>false)&&abI i m r
def neB(m:Fm)(xs:List X):List Nat->Bool
 |[]=>true
 |d::r=>(match m.get d with|some (.ptr i _ _)=>abI i m xs|_=>false)&&neB m xs r
def H7(nx:Nat)(o:aJ)(m:Fm):Bool:=(!o.fl||ZB nx m o.op)&&neB m o.op.xs o.ne
def isZero:V->Bool
 | .int (.ofNat 0)=>true
 |_=>false
def aaS(n:Nat):T->Option Rw
 | .lit (.int .i64 z)=>some (.ints (List.replicate n z))
 | .lit (.bool z)=>some (.bools (List.replicate n z))
 | .lit (.string z)=>some (.strs (List.replicate n z.data.toList))
 |_=>none
def Rw.set(j:Nat)(v:V)(r:Rw):Option Rw :=
 match r,v with
 | .ints l,.int n=>some (.ints (l.set j n))
 | .bools l,.bool n=>some (.bools (l.set j n))
 | .strs l,.str n=>some (.strs (l.set j n))
 | .rules l,.dat (.rule n)=>some (.rules (l.set j n))
 | .clauses l,.dat (.clause n)=>some (.clauses (l.set j n))
 | .elems l,.dat (.elem n)=>some (.elems (l.set j n))
 | .dV l,.row 0 false (.ints n)=>some (.dV (l.set j n))
 | .ng l,.row 0 false (.bools n)=>some (.ng (l.set j n))
 | .ny l,.row 0 false (.dV n)=>some (.ny (l.set j n))
 |_,_=>none
def ad3(h:Hz)(k:Nat):V->Option (Rw×List V)
 | .row k' _ r=>dK (kOk k k' r) (some (r,[]))
 | .Gy k' _ l=>dK (Nat.beq k' k) (some (.nil,l))
 | .own o=>match h.get o with
  |some (.row _ ko r x)=>dK (Nat.beq ko k) (some (r,x))
  |_=>none
 |_=>none
def ad4(r:Rw)(x:List V)(r':Rw)(x':List V):Option (Rw×List V) :=
 match x,r' with
 |[],r'=>match r.app r' with|some w=>some (w,x')|none=>none
 |x,.nil=>some (r,x++x')
 |_,_=>none
def nU(r:Rw)(x:List V):Nat :=
 match x with
 |[]=>r.len
 |x=>r.len+x.length
def nI(bytes:Nat)(a b:Nat):Prop:=(a+b)*bytes<=140737488355328/\a+b<=1152921504606846976
def setCells(v:V)(off:Nat)(u:V):Option V :=
 match v.cells,u.cells with
 |some l,some c=>some (.agg (l.take off++c++l.drop (off+c.length)))
 |_,_=>none
def OH:List V->(List V->Prop)->Prop
 |[],K=>K []
 |v::r,K=>OH r fun r'=>K (v::r')
def V.force(v:V)(K:V->Prop):Prop :=
 match v with
 | .agg l=>OH l fun l=>K (.agg l)
 |v=>K v
theorem Xn: ∀ {l:List V} {K:List V->Prop},OH l K=K l:=by
 intro l
 induction l with
 |nil=>intro K; rfl
 |cons v r ih=>intro K; show OH r (fun r'=>K (v::r'))=_; rw[ih]
theorem V.force_eq(v:V)(K:V->Prop):v.force K=K v:=by
 cases v<;>first|rfl|exact Xn
structure abJ(c p a b:Prop):Prop where
 ok:(c\/b)/\p/\a
theorem abJ.one{c p a b:Prop}(h:c/\p)(k:a):abJ c p a b:=⟨.inl h.1,h.2,k⟩
structure AtZ(y:List V)(j:Nat)(K:V->Prop):Prop where
 ok: ∃ v,y[j]? =some v/\K v
structure Na(h:Hz)(i:Nat)(K:Nat->Rw->Prop):Prop where
 ok: ∃ ty k r,h.get i=some (.row ty k r [])/\K k r
structure Lu(h:Hz)(i j k:Nat)(v:V)(K:Hz->Prop):Prop where
 ok: ∃ ty r r' h',h.get i=some (.row ty k r [])/\r.set j v=some r'/\r.rng j/\h'.au=upd h.au i (some (OV.row ty k r' []).aA)/\K h'
structure afa(h:Hz)(i ty k:Nat)(K:Rw->Hz->Prop):Prop where
 ok: ∃ r h',h.get i=some (.row ty k r [])/\h'.au=upd h.au i none/\K r h'
def abK(dr:Bool)(d:Option Nat)(n:Nat)(m:Fm)(h:Hz)(K:Fm->Hz->Prop):nR->Prop
 | .box ty k x=>match zU m x with
  |some v=>match v.bare with
   |(v,s)=>bif Ew k [v]&&v.ku h&&zT k then s.vc none (K (iH d (.ptr n 0 0) m) ((n,some (.box ty k v))::h)) else False
  |none=>False
 | .al ty k z=>bif z.kd==k&&z.ku h.au&&z.free&&zT k then K (iH d (.ptr n 0 0) m) ((n,some (.box ty k (Eh z)))::h) else False
 | .make ty k bytes z x y=>match zU m x,zU m y with
  |some (.int a),some (.int b)=>bif z.kd==k&&z.ku h.au&&z.free&&zT k then
    (match (bif isZero (.int a) then some .nil else aaS a.toNat z) with
    |some r=>VC (0<=a/\a<=b/\b*bytes<=140737488355328/\b<=1152921504606846976) (K (iH d (.own n) m) ((n,some (.row ty k r []))::h))
    |none=>VC (0<=a/\a<=b/\b*bytes<=140737488355328/\b<=1152921504606846976) (K (iH d (.own n) m) ((n,some (.gen ty k (List.replicate a.toNat (Eh z))))::h))) else False
  |_,_=>False
 | .st k x v=>match zU m x,zU m v with
  |some (.ptr i j off),some v=>match v.bare with
   |(v,s)=>bif Ew k [v]&&v.ku h then
    (match h.get i with
    |some (.box ty ko w)=>bif Nat.beq j 0 then
      (bif Nat.beq off 0&&Nat.beq ko k then s.vc none (K m ((i,some (.box ty ko v))::h))
      else bif !(Nat.beq ko 0)&&nZ (bn ko) off k then(match setCells w off v with
       |some w'=>w'.force fun w'=>s.vc none (K m ((i,some (.box ty ko w'))::h))
       |none=>False) else False) else False
    |some (.row ty ko r [])=>bif Nat.beq off 0&&Nat.beq ko k then(match r.set j v with
      |some r'=>s.vc none (VC (r.rng j) (K m ((i,some (.row ty ko r' []))::h)))
      |none=>s.vc none (VC (r.rng j) (K m ((i,some (.gen ty ko (r.vs.set j v)))::h)))) else False
    |some (.gen ty ko y)=>bif Nat.beq off 0&&Nat.beq ko k then s.vc none (VC (j<y.length) (K m ((i,some (.gen ty ko (y.set j v)))::h))) else False
    |_=>False) else False
  |some x,some v=>(match x.bare with
   |(.pin i j off,s0)=>match v.bare with
    |(v,s)=>bif Ew k [v]&&v.ku h&&Nat.beq off 0 then(s0.and s).vc none (Lu h i j k v fun h'=>K m h') else False
   |_=>False)
  |_,_=>False
 | .ld k x=>match zU m x with
  |some v=>(match v.bare with
   |(.ptr i j off,s)=>(match h.get i with
    |some (.gen _ ko y)=>bif Nat.beq off 0&&Nat.beq ko k then s.vc none (AtZ y j fun v=>v.seq fun v=>K (iH d v m) h) else False
    |_=>False)
   |(.pin i j off,s)=>s.vc none (Na h i fun ko r=>match ldR k j off ko r with
    |some (v,s')=>s'.vc none (v.seq fun v=>K (iH d v m) h)
    |none=>False)
   |_=>False)
  |none=>False
 | .ia k x i=>match zU m x,zU m i with
  |some v,some w=>(match v.bare,w.bare with
   |(.inn o,s),(.int n,s')=>(s.and s').vc none (Na h o fun ko r=>bif Nat.beq ko k then VC (r.rng n) (K (iH d (.pin o n.toNat 0) m) h) else False)
   |_,_=>False)
  |_,_=>False
 | .len str x=>match zU m x with
  |some v=>(match v.bare with
   |(.inn o,s)=>s.vc none (Na h o fun ko r=>bif !str&& !(Nat.beq ko fU) then r.lenV.seq fun v=>K (iH d v m) h else False)
   |_=>False)
  |none=>False
 | .app ty k bytes x y=>match zU m x,zU m y with
  |some x,some y=>match ad3 h k y with
   |some (r',x')=>(match x with
    | .row _ true .nil=>VC (nI bytes 0 (nU r' x')) (K (iH d (.own n) m) ((n,some (.row ty k r' x'))::h))
    | .row k' true r=>bif Nat.beq k' k then(match r.app r' with
     |some w=>abJ (r.len=0\/0<nU r' x') (nI bytes r.len (nU r' x')) (K (iH d (.own n) m) ((n,some (.row ty k w x'))::h)) (dr=false/\K (iH d (.row k' true r) m) h)
     |none=>False) else False
    | .own i=>(match h.get i with
     |some (.row ty' ko r x)=>bif Nat.beq ko k&&Nat.beq ty' ty then(match ad4 r x r' x' with
      |some (w,z)=>VC (nI bytes (nU r x) (nU r' x')) (K (iH d (.own n) m) ((n,some (.row ty k w z))::(i,none)::h))
      |none=>False) else False
     |some (.gen ty' ko y)=>bif Nat.beq ko k&&Nat.beq ty' ty then VC (nI bytes y.length (nU r' x')) (K (iH d (.own n) m) ((n,some (.gen ty k (y++(r'.vs++x'))))::(i,none)::h)) else False
     |_=>False)
    | .inn i=>afa h i ty k fun r h'=>match r.app r' with
     |some w=>VC (nI bytes r.len (nU r' x')) (K (iH d (.own n) m) ((n,some (.row ty k w x'))::h'))
     |none=>False
    |_=>False)
   |none=>False
  |_,_=>False
 | .TB k z x=>match zU m x with
  |some (.oV i lo hi)=>match h.get i with
   |some (.row ty ko r [])=>bif Nat.beq ko k&&z.kd==k&&z.ku h.au&&z.free then
     VC (lo<=hi/\hi=r.len) (match d with
      |none=>K m ((i,some (.row ty ko (r.take lo) (List.replicate (hi-lo) (Eh z))))::h)
      |some _=>K (iH d (.raw T.un) m) ((i,some (.row ty ko (r.take lo) (List.replicate (hi-lo) (Eh z))))::h)) else False
   |_=>False
  |_=>False
 | .Gg ty k z nn ps=>match AU m (ps.map fun p=>p.2) with
  |some (vs,s)=>match Zp nn ps vs (List.replicate nn (Eh z)) with
   |some l=>bif (z.kd==k)&&z.free&&Ew k vs&&Dc h vs&&Nat.ble (nn*bn k) 16777216&&zT k then s.vc none (K (iH d (.own n) m) ((n,some (.row ty k .nil l))::h)) else False
   |none=>False
  |none=>False
 | .zK x=>match zU m x with
  |some (.row _ _ r)=>Yx (r.len=0) (K (iH d (.bool true) m) h) (K (iH d (.bool false) m) h)
  |some (.own i)=>match h.get i with
   |some (.row _ ko r [])=>bif Nat.beq ko fU then False else Yx (r.len=0) (K (iH d (.bool true) m) h) (K (iH d (.bool false) m) h)
   |_=>False
  |_=>False
 | .Yc ty=>K (iH d (.own n) m) ((n,some (.map ty [] []))::h)
 | .mlk z x i=>match zU m x,zU m i with
  |some (.own o),some (.int k)=>match h.get o with
   |some (.map _ es [])=>ae9 (HY k es) (fun l=>K (iH d (.dH [.row 0 false (.bools l),.bool true]) m) h) (K (iH d (.dH [Eh z,.bool false]) m) h)
   |_=>False
  |_,_=>False
 | .SA x i v=>match zU m x,zU m i,zU m v with
  |some (.own o),some (.int k),some v=>match v.bare with
   |(v,s)=>match h.get o with
    |some (.map ty es [])=>bif Ew 0 [v]&&v.ku h then s.vc none (VC (HY k es=none) (K m ((o,some (.map ty es [(k,v)]))::h))) else False
    |_=>False
  |_,_,_=>False
 |_=>False
def phZ:nR->V
 | .not _=>.bool false
 |_=>.int 0
def ad5(P:Program)(dr:Bool)(nx n:Nat)(o:aJ)(KK:Nat->Fm->Hz->Prop)(m:Fm)(h:Hz):Prop :=
 match Un m o.g with
 |none=>False
 |some g=>bif H7 nx o m then
   (match o.op with
   | .call f xs=>(match AU m xs with
    |some (l,s)=>s.vc g (match g with
     |none=>DX dr o.fl (ah P false none f l h n (fun v h'=>v.seq fun v=>KK 0 (iH o.d v m) h') (fun k v h'=>v.seq fun v=>KK k (iH o.d v m) h')) (ah P true none f l h n (fun v h'=>v.seq fun v=>KK 0 (iH o.d v m) h') (fun _ _ _=>False)) (ah P false none f l h n (fun v h'=>v.seq fun v=>KK 0 (iH o.d v m) h') (fun _ _ _=>False))
     |some b=>DX dr o.fl (ah P false (some b) f l h n (fun v h'=>v.seq fun v=>KK 0 (iH o.d (rW (some b) v) m) h') (fun _ _ _=>False)) (ah P true (some b) f l h n (fun v h'=>v.seq fun v=>KK 0 (iH o.d (rW (some b) v) m) h') (fun _ _ _=>False)) (ah P false (some b) f l h n (fun v h'=>v.seq fun v=>KK 0 (iH o.d (rW (some b) v) m) h') (fun _ _ _=>False)))
    |none=>False)
   | .nJ x xs=>(match zU m x,AU m xs with
    |some v,some (l,s)=>(match v.bare with
     |(.fn f cap,s0)=>(s0.and s).vc g (bif Nat.blt f 4096 then DX dr o.fl (ah P false g f (l++cap) h n (fun v h'=>v.seq fun v=>KK 0 (iH o.d (rW g v) m) h') (fun _ _ _=>False)) (ah P true g f (l++cap) h n (fun v h'=>v.seq fun v=>KK 0 (iH o.d (rW g v) m) h') (fun _ _ _=>False)) (ah P false g f (l++cap) h n (fun v h'=>v.seq fun v=>KK 0 (iH o.d (rW g v) m) h') (fun _ _ _=>False)) else DX dr o.fl (ah P false g (f % 4096) (.agg cap::l) h n (fun v h'=>v.seq fun v=>KK 0 (iH o.d (rW g v) m) h') (fun _ _ _=>False)) (ah P true g (f % 4096) (.agg cap::l) h n (fun v h'=>v.seq fun v=>KK 0 (iH o.d (rW g v) m) h') (fun _ _ _=>False)) (ah P false g (f % 4096) (.agg cap::l) h n (fun v h'=>v.seq fun v=>KK 0 (iH o.d (rW g v) m) h') (fun _ _ _=>False)))
     |_=>False)
    |_,_=>False)
   |op=>(match qz m h op with
    |some (v,s)=>s.vc g (v.seq fun v=>KK 0 (iH o.d (rW g v) m) h)
    |none=>(match g with
     |none=>abK dr o.d n m h (KK 0) op
     |some b=>Fork b (abK dr o.d n m h (KK 0) op) (KK 0 (iH o.d (.cnd false (phZ op)) m) h))))
   else False
def adZ(P:Program)(nx n:Nat)(o:aJ)(KK:Nat->Fm->Hz->Prop)(m:Fm)(h:Hz):Prop :=
 match o.op,o.g with
 | .call f xs,none=>bif o.fl&&H7 nx o m then
   (match AU m xs with
   |some (l,s)=>s.vc none (ah P true none f l h n (fun v h'=>v.seq fun v=>KK 0 (iH o.d v m) h') (fun _ v h'=>v.seq fun v=>KK 0 (iH o.d v m) h'))
   |none=>False)
   else False
 |_,_=>False
def arZ(P:Program)(nx n:Nat)(o:aJ)(KK:Nat->Fm->Hz->Prop)(m:Fm)(h:Hz):Prop :=
 match o.op,o.g with
 | .call f xs,none=>bif o.fl&&H7 nx o m then
   (match AU m xs with
   |some (l,s)=>s.vc none (ae8 P f l h n (fun v h'=>v.seq fun v=>KK 0 (iH o.d v m) h'))
   |none=>False)
   else False
 |_,_=>False
def opZ(P:Program)(dr:Bool)(nx n:Nat)(o:aJ)(KK:Nat->Fm->Hz->Prop)(m:Fm)(h:Hz):Prop :=
 match o.ar with
 |true=>arZ P nx n o KK m h
 |false=>match o.ad with
 |true=>adZ P nx n o KK m h
 |false=>ad5 P dr nx n o KK m h
def QL(P:Program)(dr:Bool)(ml:Nat)(nx:Nat)(K:Fm->Hz->Nat->Prop):List aJ->Nat->Fm->Hz->Prop
 |[],_,m,h=>K m h (nx+ml)
 |o::r,i,m,h=>opZ P dr nx (nx+i) o (fun k=>QL P dr ml (nx+k) K r (i+1)) m h
abbrev Qz:=rD->Fm->Hz->Nat->Prop
def Lift(N pn:Nat)(Q:Qz)(e:rD)(s:AS):Prop:= ∃ m h,s.fr.length=N/\Rp m s.fr/\s.hp=h.au/\s.pin=pn/\Q e m h s.nx
structure aH(P:Program)(N pn:Nat)(b:fG)(Q:Qz)(m:Fm)(h:Hz)(nx:Nat):Prop where
 ok: ∀ fr,fr.length=N->Rp m fr->zM (aw P b) (Lift N pn Q) ⟨fr,h.au,nx,pn⟩
def az(P:Program)(N pn:Nat):fG->Qz->Fm->Hz->Nat->Prop
 | .skip,Q,m,h,nx=>Q .normal m h nx
 | .reg dr ops,Q,m,h,nx=>QL P dr ops.length nx (fun m h nx=>Q .normal m h nx) ops 0 m h
 | .seq a b,Q,m,h,nx=>az P N pn a (fun e m h nx=>match e with| .normal=>az P N pn b Q m h nx|e=>Q e m h nx) m h nx
 | .cond c a b,Q,m,h,nx =>
  match zU m c with
  |some (.bool t)=>Fork t (az P N pn a Q m h nx) (az P N pn b Q m h nx)
  |_=>False
 | .blk id b,Q,m,h,nx=>az P N pn b (fun e m h nx=>match e with| .exit j=>(bif Nat.beq j id then Q .normal m h nx else Q (.exit j) m h nx)|e=>Q e m h nx) m h nx
 | .exit id,Q,m,h,nx=>Q (.exit id) m h nx
 | .ret,Q,m,h,nx=>Q .ret m h nx
 | .loop b,Q,m,h,nx=>aH P N pn b Q m h nx
def OI(N:Nat):List aJ->Bool
 |[]=>true
 |o::r=>(match o.d with|some d=>Nat.blt d N|none=>true)&&OI N r
def rZ(N:Nat):fG->Bool
 | .skip=>true
 | .reg _ ops=>OI N ops
 | .seq a b=>rZ N a&&rZ N b
 | .cond _ a b=>rZ N a&&rZ N b
 | .blk _ b=>rZ N b
 | .exit _=>true
 | .ret=>true
 | .loop b=>rZ N b
section
variable {P:Program} {m:Fm} {h:Hz}
theorem cO{i:Nat}{o:Option OV}:Hz.au ((i,o)::h)=upd h.au i (o.map OV.aA):=by
 funext j
 simp only[Hz.au,Hz.get,upd]
 by_cases e:j=i
 ·subst e; simp
 ·have:Nat.beq i j=false:=by
   cases hb:Nat.beq i j with
   |false=>rfl
   |true=>exact absurd (fB hb).symm e
  simp[this,e]
theorem Rp.put{fr:List T}(R:Rp m fr){d:Option Nat}{v:V}(hd: ∀ i,d=some i->i<fr.length){s:AS}(hs:s.fr=fr):Rp (iH d v m) (s.put d v.aG).fr:=by
 subst hs
 cases d with
 |none=>exact R
 |some d =>
  intro i u hu
  simp only[iH,Fm.get] at hu
  show(s.fr.set d v.aG)[i]? =_
  cases hb:Nat.beq d i with
  |true =>
   rw[hb] at hu; simp at hu; subst hu
   have:=fB hb; subst this
   rw[List.getElem?_set_self (hd d rfl)]
  |false =>
   rw[hb] at hu
   have hne:d≠i:=Nat.ne_of_beq_eq_false hb
   rw[List.getElem?_set_ne hne]
   exact R i u hu
theorem Vy{s:AS}{d:Option Nat}{t:T}:(s.put d t).fr.length=s.fr.length:=by cases d<;>simp[AS.put]
theorem kE{g:Option Bool}{k:Prop}{s:Sd}(q:s.vc g k):((g=none\/g=some true)->s.holds)/\k:=by
 unfold Sd.vc at q
 split at q
 ·exact⟨fun _=>trivial,q⟩
 ·split at q
  ·obtain⟨a,b⟩:=q; exact⟨fun _=>a,b⟩
  ·obtain⟨a,b⟩:=q; exact⟨fun hg=>a (by rcases hg with e|e<;>cases e; rfl),b⟩
theorem Xo{s:AS}(R:Rp m s.fr){g:Option (Nat×Bool)}{g':Option Bool}(q:Un m g=some g'):(gv g s=some true/\(g'=none\/g'=some true))\/(gv g s=some false/\g'=some false):=by
 unfold Un at q
 split at q
 ·cases q; exact .inl ⟨rfl,.inl rfl⟩
 ·rename_i d w
  split at q
  ·rename_i b e
   cases q
   have hg:s.fr.getD d .any= .lit (.bool b):=R.getD e
   simp only[gv,hg]
   cases w<;>cases b<;>simp
  ·rename_i c b e
   cases q
   have hg:s.fr.getD d .any=bif c then .lit (.bool b) else T.un:=R.getD e
   cases c with
   |true=>simp only[gv,hg,cond_true]; cases w<;>cases b<;>simp
   |false=>simp only[gv,hg,cond_false]; simp
  ·cases q
theorem abL{s:AS}(R:Rp m s.fr){nx:Nat}: ∀ {xs:List X},ltX nx m xs=true->(xs.all fun x=>T.lt nx (s.ev x))=true:=by
 intro xs
 induction xs with
 |nil=>intro _; rfl
 |cons x r ih =>
  intro q
  simp only[ltX,Bool.and_eq_true] at q
  simp only[List.all_cons,Bool.and_eq_true]
  refine⟨?_,ih q.2⟩
  have:=q.1
  split at this
  ·rename_i v e; rw[R.ev e]; exact this
  ·cases this
theorem ZC{s:AS}(R:Rp m s.fr){i:Nat}: ∀ {xs:List X},abI i m xs=true->(xs.all fun x=>T.nid i (s.ev x))=true:=by
 intro xs
 induction xs with
 |nil=>intro _; rfl
 |cons x r ih =>
  intro q
  simp only[abI,Bool.and_eq_true] at q
  simp only[List.all_cons,Bool.and_eq_true]
  refine⟨?_,ih q.2⟩
  have:=q.1
  split at this
  ·rename_i v e; rw[R.ev e]; exact this
  ·cases this
theorem ad6{s:AS}(R:Rp m s.fr){xs:List X}: ∀ {l:List Nat},neB m xs l=true->NW s xs l=true:=by
 intro l
 induction l with
 |nil=>intro _; rfl
 |cons d r ih =>
  intro q
  simp only[neB,Bool.and_eq_true] at q
  simp only[NW,Bool.and_eq_true]
  refine⟨?_,ih q.2⟩
  have:=q.1
  split at this
  ·rename_i i j o e
   have hg:s.fr.getD d .any= .ptr i j o:=R.getD e
   simp only[AS.obj,hg]
   exact ZC R this
  ·cases this
theorem JY{s:AS}(R:Rp m s.fr){o:aJ}(q:H7 s.nx o m=true):jo o s:=by
 unfold H7 at q
 simp only[Bool.and_eq_true,Bool.or_eq_true,Bool.not_eq_true'] at q
 refine⟨fun hf=>?_,ad6 R q.2⟩
 have h1:ZB s.nx m o.op=true:=by
  rcases q.1 with h|h
  ·rw[hf] at h; cases h
  ·exact h
 unfold ZB at h1
 split at h1
 ·rename_i k x v e
  rw[e]
  split at h1
  ·rename_i u hu; simp only; rw[R.ev hu]; exact h1
  ·cases h1
 ·rename_i e
  rw[e]
  split at h1
  ·rename_i u hu; simp only; rw[R.ev hu]; exact h1
  ·cases h1
 ·cases h1
 ·cases h1
 ·rename_i e; rw[e]
 ·rename_i e; rw[e]
 ·rename_i op h2 h3 h4 h5 h6 h7
  have:=abL R h1
  split
  ·rename_i e; exact absurd e (h2 _ _ _)
  ·rename_i e; exact absurd e (h3 _ _ _ _ _)
  ·rename_i e; exact absurd e (h4 _ _ _)
  ·rename_i e; exact absurd e (h5 _ _ _)
  ·rfl
  ·rfl
  ·exact this
def Kz(N pn nx:Nat)(K:Fm->Hz->Prop)(s:AS):Prop:= ∃ m h,s.fr.length=N/\Rp m s.fr/\s.hp=h.au/\s.pin=pn/\s.nx=nx/\K m h
theorem OJ{k:Nat}{v:V}(q:Ew k [v]=true):v.aG.kd=k:=V.OG (II q v (by simp))
theorem abM{n:Nat}{z:T}{r:Rw}(q:aaS n z=some r):r.aV=List.replicate n z:=by
 unfold aaS at q
 split at q<;>cases q
 ·simp[Rw.aV]
 ·simp[Rw.aV]
 ·simp only[Rw.aV,List.map_replicate]; rw[acQ]
theorem Rw.Vz{j:Nat}{v:V}{r w:Rw}(q:r.set j v=some w):w.aV=r.aV.set j v.aG:=by
 unfold Rw.set at q
 split at q<;>first|(cases q; done)|(cases q; simp[Rw.aV,V.aG,Dat.aG,List.map_set])
theorem abN{k:Nat}{y:V}{r:Rw}{x:List V}(q:ad3 h k y=some (r,x)):TF h.au k y.aG= .list (r.aV++V.aV x):=by
 unfold ad3 at q
 split at q
 ·rename_i k' f w
  obtain⟨g,q⟩:=aT q; cases q
  simp only[V.aG,TF,V.aV,List.append_nil]
  rcases GK g with rfl|e
  ·cases r.aV<;>simp
  ·rw[e]
 ·rename_i k' f l
  obtain⟨g,q⟩:=aT q; cases q
  have:=fB g; subst this
  simp only[V.aG,TF,Rw.aV,List.nil_append]
  cases hx:V.aV x<;>simp
 ·split at q
  ·rename_i o _ ty ko w z e
   obtain⟨g,q⟩:=aT q; cases q
   have:=fB g; subst this
   simp[V.aG,TF,aP e,OV.aA]
  ·cases q
 ·cases q
theorem yP{r:Rw}{x:List V}:nU r x=(r.aV++V.aV x).length:=by
 unfold nU
 split
 ·simp[V.aV,Rw.dZ]
 ·simp[dM,Rw.dZ]
theorem abO{r r' w:Rw}{x x' z:List V}(q:ad4 r x r' x'=some (w,z)):w.aV++V.aV z=(r.aV++V.aV x)++(r'.aV++V.aV x'):=by
 unfold ad4 at q
 split at q
 ·split at q
  ·rename_i w' e; cases q; rw[Rw.IG e]; simp[V.aV]
  ·cases q
 ·cases q; simp[wV,Rw.aV]
 ·cases q
theorem ad7{k:Int}: ∀ {es:List (Int×List Bool)},xC k (es.map OC)=(HY k es).map fun l=>.sl 0 false (l.map T.bool):=by
 intro es
 induction es with
 |nil=>rfl
 |cons e es ih =>
  obtain⟨m,l⟩:=e
  simp only[List.map_cons,OC,xC,T.int,HY]
  cases k==m
  ·exact ih
  ·rfl
theorem afb{k:Int}{v:T}: ∀ {es:List (Int×List Bool)},HY k es=none->Ak k v (es.map OC)=es.map OC++[.dH [.int k,v]]:=by
 intro es
 induction es with
 |nil=>intro _; rfl
 |cons e es ih =>
  obtain⟨m,l⟩:=e
  intro h
  simp only[HY] at h
  cases hb:k==m with
  |true=>rw[hb] at h; cases h
  |false =>
   rw[hb] at h
   simp only[List.map_cons,OC,Ak,T.int,hb,cond_false,List.cons_append]
   rw[ih h]
theorem Nb{N pn n nx:Nat}{d:Option Nat}{op:nR}{K:Fm->Hz->Prop}{s:AS}{dr:Bool}(hl:s.fr.length=N)(hd: ∀ i,d=some i->i<N)(R:Rp m s.fr)(hh:s.hp=h.au)(hp:s.pin=pn)(hn:s.nx=nx)(q:abK dr d n m h K op) :
  lU P dr n d op (Kz N pn nx K) s:=by
 have hd': ∀ i,d=some i->i<s.fr.length:=fun i e=>by rw[hl]; exact hd i e
 have fin: ∀ {v:V} {h':Hz},K (iH d v m) h'->Kz N pn nx K {(s.put d v.aG) with hp:=h'.au}:=fun {v h'} hk =>
  ⟨_,h',by show(s.put d v.aG).fr.length=N; rw[Vy,hl],R.put (v:=v) hd' rfl,rfl,by show(s.put d v.aG).pin=pn; cases d<;>exact hp,by show(s.put d v.aG).nx=nx; cases d<;>exact hn,hk⟩
 have abP: ∀ {op:nR} {v:V},bG op=true->Ok s op v->K (iH d v m) h->lU P dr n d op (Kz N pn nx K) s:=fun {op v} hq ho hk=>by
  rw[bD hq]
  refine⟨ho.1,?_⟩
  rw[ho.2]
  have:=fin hk
  rw[<- hh] at this
  rw[show({(s.put d v.aG) with hp:=s.hp}:AS)=s.put d v.aG by cases d<;>rfl] at this
  exact this
 unfold abK at q
 split at q
 ·rename_i ty k x
  split at q
  ·rename_i v e
   split at q
   rename_i v' s' hb
   cases g:Ew k [v']&&v'.ku h&&zT k with
   |false=>rw[g] at q; exact q.elim
   |true =>
    rw[g] at q
    simp only[Bool.and_eq_true] at g
    simp only[cond_true] at q
    obtain⟨hs,hk⟩:=kE q
    have ev:s.ev x=v'.aG:=by rw[R.ev e]; exact dR hb (hs (.inl rfl))
    simp only[lU]
    rw[ev,OJ g.1.1,hh,V.rG g.1.2,g.2]
    refine⟨by simp,?_⟩
    have:=fin hk
    rw[cO] at this
    exact this
  ·exact q.elim
 ·rename_i ty k z
  cases g:z.kd==k&&z.ku h.au&&z.free&&zT k with
  |false=>rw[g] at q; exact q.elim
  |true =>
   rw[g] at q
   simp only[lU]
   rw[hh,g]
   refine⟨rfl,?_⟩
   have:=fin q
   rw[cO] at this
   simp only[Option.map_some,OV.aA,xM] at this
   exact this
 ·rename_i ty k bytes z x y
  split at q
  ·rename_i a b e1 e2
   cases g:z.kd==k&&z.ku h.au&&z.free&&zT k with
   |false=>rw[g] at q; exact q.elim
   |true =>
    rw[g] at q
    simp only[cond_true] at q
    split at q
    ·rename_i r er
     obtain⟨c,hk⟩:=q
     simp only[lU]
     rw[R.ev e1,R.ev e2]
     simp only[V.aG]
     rw[hh,g]
     refine⟨rfl,c,?_⟩
     have:=fin hk
     rw[cO] at this
     simp only[Option.map_some,OV.aA,V.aV,List.append_nil] at this
     have hr:r.aV=List.replicate a.toNat z:=by
      cases hz:isZero (.int a) with
      |false=>rw[hz] at er; exact abM er
      |true =>
       rw[hz] at er; cases er
       unfold isZero at hz
       split at hz
       ·rename_i e; cases e; rfl
       ·cases hz
     rw[hr] at this
     exact this
    ·obtain⟨c,hk⟩:=q
     simp only[lU]
     rw[R.ev e1,R.ev e2]
     simp only[V.aG]
     rw[hh,g]
     refine⟨rfl,c,?_⟩
     have:=fin hk
     rw[cO] at this
     simp only[Option.map_some,OV.aA] at this
     rw[iU,List.map_replicate,xM] at this
     exact this
  ·exact q.elim
 ·rename_i k x v
  split at q
  ·rename_i i j off v0 e1 e2
   split at q
   rename_i v' s' hb
   cases g:Ew k [v']&&v'.ku h with
   |false=>rw[g] at q; exact q.elim
   |true =>
    rw[g] at q
    simp only[Bool.and_eq_true] at g
    simp only[cond_true] at q
    have fin2: ∀ {h':Hz},K m h'->Kz N pn nx K {s with hp:=h'.au}:=fun {h'} hk=>⟨m,h',hl,R,rfl,hp,hn,hk⟩
    have ex:s.ev x= .ptr i j off:=R.ev e1
    simp only[lU]
    rw[ex]
    simp only
    split at q
    ·rename_i ty ko w eo
     rw[hh,aP eo]
     simp only[OV.aA]
     cases hj:Nat.beq j 0 with
     |false=>rw[hj] at q; exact q.elim
     |true =>
      have:=fB hj; subst this
      rw[hj] at q
      simp only[cond_true] at q
      cases hb2:(Nat.beq off 0&&Nat.beq ko k) with
      |true =>
       rw[hb2] at q
       simp only[cond_true] at q
       obtain⟨hs,hk⟩:=kE q
       have ev:s.ev v=v'.aG:=by rw[R.ev e2]; exact dR hb (hs (.inl rfl))
       simp only[Bool.and_eq_true] at hb2
       have f1:=fB hb2.1; have f2:=fB hb2.2; subst f1; subst f2
       rw[ev,OJ g.1,V.rG g.2]
       refine⟨by simp,by simp,by simp,?_⟩
       have:=fin2 hk
       rw[cO] at this
       simp only[BEq.rfl,Bool.and_self,cond_true,List.set_cons_zero]
       exact this
      |false =>
       rw[hb2] at q
       simp only[cond_false] at q
       cases hc:(!(Nat.beq ko 0)&&nZ (bn ko) off k) with
       |false=>rw[hc] at q; exact q.elim
       |true =>
        rw[hc] at q
        simp only[cond_true] at q
        split at q
        ·rename_i w' hw
         rw[V.force_eq] at q
         obtain⟨hs,hk⟩:=kE q
         have ev:s.ev v=v'.aG:=by rw[R.ev e2]; exact dR hb (hs (.inl rfl))
         have hb':(off==0&&ko==k)=false:=by
          rw[Bool.and_eq_false_iff] at hb2 ⊢
          rcases hb2 with hb2|hb2
          ·left; simpa using Nat.ne_of_beq_eq_false hb2
          ·right; simpa using Nat.ne_of_beq_eq_false hb2
         simp only[Bool.and_eq_true] at hc
         rw[ev,OJ g.1,V.rG g.2]
         refine⟨by simp,by simp,?_,?_⟩
         ·simp only[hb',Bool.false_or,Bool.and_eq_true]; exact⟨Zw hc.1,hc.2⟩
         ·have:=fin2 hk
          rw[cO] at this
          simp only[hb',cond_false,List.set_cons_zero,List.getD_cons_zero]
          have ew:w.aG.splice off v'.aG=w'.aG:=by
           unfold setCells at hw
           split at hw
           ·rename_i l c f1 f2
            cases hw
            unfold T.splice
            rw[V.GH f1,V.GH f2]
            simp only[V.aG,wV,JW,JX,dM]
           ·cases hw
          rw[ew]
          exact this
        ·exact q.elim
    ·rename_i ty ko r eo
     rw[hh,aP eo]
     simp only[OV.aA,V.aV,List.append_nil]
     cases hb2:(Nat.beq off 0&&Nat.beq ko k) with
     |false=>rw[hb2] at q; exact q.elim
     |true =>
      rw[hb2] at q
      simp only[cond_true] at q
      split at q
      ·rename_i r' hr
       obtain⟨hs,hk0⟩:=kE q
       obtain⟨ZE,hk⟩:=hk0
       have ev:s.ev v=v'.aG:=by rw[R.ev e2]; exact dR hb (hs (.inl rfl))
       simp only[Bool.and_eq_true] at hb2
       have f1:=fB hb2.1; have f2:=fB hb2.2; subst f1; subst f2
       rw[Rw.zA] at ZE
       rw[ev,OJ g.1,V.rG g.2]
       refine⟨by simp,by rw[Rw.dZ]; omega,by simp,?_⟩
       have:=fin2 hk
       rw[cO] at this
       simp only[Option.map_some,OV.aA,V.aV,List.append_nil,Rw.Vz hr] at this
       simp only[BEq.rfl,Bool.and_self,cond_true]
       exact this
      ·obtain⟨hs,hk0⟩:=kE q
       obtain⟨ZE,hk⟩:=hk0
       have ev:s.ev v=v'.aG:=by rw[R.ev e2]; exact dR hb (hs (.inl rfl))
       simp only[Bool.and_eq_true] at hb2
       have f1:=fB hb2.1; have f2:=fB hb2.2; subst f1; subst f2
       rw[Rw.zA] at ZE
       rw[ev,OJ g.1,V.rG g.2]
       refine⟨by simp,by rw[Rw.dZ]; omega,by simp,?_⟩
       have:=fin2 hk
       rw[cO] at this
       simp only[Option.map_some,OV.aA] at this
       rw[iU,List.map_set,<- iU,Rw.Zt] at this
       simp only[BEq.rfl,Bool.and_self,cond_true]
       exact this
    ·rename_i ty ko y eo
     rw[hh,aP eo]
     simp only[OV.aA]
     cases hb2:(Nat.beq off 0&&Nat.beq ko k) with
     |false=>rw[hb2] at q; exact q.elim
     |true =>
      rw[hb2] at q
      simp only[cond_true] at q
      obtain⟨hs,hk0⟩:=kE q
      obtain⟨ZE,hk⟩:=hk0
      have ev:s.ev v=v'.aG:=by rw[R.ev e2]; exact dR hb (hs (.inl rfl))
      simp only[Bool.and_eq_true] at hb2
      have f1:=fB hb2.1; have f2:=fB hb2.2; subst f1; subst f2
      rw[ev,OJ g.1,V.rG g.2]
      refine⟨by simp,by rw[dM]; exact ZE,by simp,?_⟩
      have:=fin2 hk
      rw[cO] at this
      simp only[Option.map_some,OV.aA] at this
      rw[iU,List.map_set,<- iU] at this
      simp only[BEq.rfl,Bool.and_self,cond_true]
      exact this
    ·exact q.elim
  ·rename_i x0 v0 _ e1 e2
   split at q
   ·rename_i i j off s0 hb0
    split at q
    rename_i v' s' hb
    cases g:Ew k [v']&&v'.ku h&&Nat.beq off 0 with
    |false=>rw[g] at q; exact q.elim
    |true =>
     rw[g] at q
     simp only[Bool.and_eq_true] at g
     simp only[cond_true] at q
     obtain⟨hs,hk⟩:=kE q
     have hs2:=Sd.lH.1 (hs (.inl rfl))
     have ex:s.ev x= .ptr i j off:=by rw[R.ev e1,dR hb0 hs2.1]; rfl
     have ev:s.ev v=v'.aG:=by rw[R.ev e2]; exact dR hb hs2.2
     have f1:=fB g.2; subst f1
     obtain⟨ty,r,r',h',a1,a2,a3,a4,a5⟩:=hk.ok
     rw[Rw.zA] at a3
     simp only[lU]
     rw[ex]
     simp only
     rw[hh,aP a1]
     simp only[OV.aA,V.aV,List.append_nil]
     rw[ev,OJ g.1.1,V.rG g.1.2]
     refine⟨by simp,by rw[Rw.dZ]; omega,by simp,?_⟩
     simp only[BEq.rfl,Bool.and_self,cond_true]
     rw[<- Rw.Vz a2]
     refine⟨m,h',hl,R,?_,hp,hn,a5⟩
     rw[a4]; simp only[OV.aA,V.aV,List.append_nil]
   ·exact q.elim
  ·exact q.elim
 ·rename_i k x
  split at q
  ·rename_i v0 e1
   split at q
   ·rename_i i j off s0 hb0
    split at q
    ·rename_i ty ko y eo
     cases hb2:(Nat.beq off 0&&Nat.beq ko k) with
     |false=>rw[hb2] at q; exact q.elim
     |true =>
      rw[hb2] at q
      simp only[cond_true] at q
      obtain⟨hs,hk⟩:=kE q
      have ex:s.ev x= .ptr i j off:=by rw[R.ev e1,dR hb0 (hs (.inl rfl))]; rfl
      simp only[Bool.and_eq_true] at hb2
      have f1:=fB hb2.1; have f2:=fB hb2.2; subst f1; subst f2
      obtain⟨v,hv,hk⟩:=hk.ok
      rw[V.seq_eq] at hk
      refine abP rfl ?_ hk
      have hj:j<y.length:=by
       rcases Nat.lt_or_ge j y.length with h|h
       ·exact h
       ·rw[List.getElem?_eq_none h] at hv; cases hv
      unfold Ok; simp only[qc,qt]; rw[ex]
      simp only[hh,aP eo,OV.aA]
      simp only[BEq.rfl,Bool.and_self,Bool.true_or,cond_true,dM]
      exact⟨⟨hj,trivial⟩,xO hv⟩
    ·exact q.elim
   ·rename_i i j off s0 hb0
    obtain⟨hs,hk⟩:=kE q
    have ex:s.ev x=(V.ptr i j off).aG:=by rw[R.ev e1,dR hb0 (hs (.inl rfl))]; rfl
    obtain⟨ty,ko,r,eo,hk⟩:=hk.ok
    split at hk
    ·rename_i v s' hq
     obtain⟨hs',hk⟩:=kE hk
     rw[V.seq_eq] at hk
     exact abP rfl (Ul hh (u:=.ptr i j off) (by simp only[ldZ,eo]; exact hq) (hs' (.inl rfl)) ex) hk
    ·exact hk.elim
   ·exact q.elim
  ·exact q.elim
 ·rename_i k x i
  split at q
  ·rename_i v0 w0 e1 e2
   split at q
   ·rename_i o s0 n0 s1 hb0 hb1
    obtain⟨hs,hk⟩:=kE q
    have hs2:=Sd.lH.1 (hs (.inl rfl))
    have ex:s.ev x=(V.own o).aG:=by rw[R.ev e1,dR hb0 hs2.1]; rfl
    have ei:s.ev i=(V.int n0).aG:=by rw[R.ev e2,dR hb1 hs2.2]
    obtain⟨ty,ko,r,eo,hk⟩:=hk.ok
    cases hb2:Nat.beq ko k with
    |false=>rw[hb2] at hk; exact hk.elim
    |true =>
     rw[hb2] at hk
     simp only[cond_true] at hk
     obtain⟨hr,hk⟩:=hk
     have hok:Ok s (.ia k x i) (.ptr o n0.toNat 0):=Zx hh (u:=.own o) (v:=.int n0) (r:=.ptr o n0.toNat 0) (sd:=.yes (r.rng n0)) (by simp only[iaZ,eo,hb2,dK,cond_true]) hr ex ei
     exact abP (v:=.pin o n0.toNat 0) rfl ⟨hok.1,hok.2⟩ hk
   ·exact q.elim
  ·exact q.elim
 ·rename_i str x
  split at q
  ·rename_i v0 e1
   split at q
   ·rename_i o s0 hb0
    obtain⟨hs,hk⟩:=kE q
    have ex:s.ev x=(V.own o).aG:=by rw[R.ev e1,dR hb0 (hs (.inl rfl))]; rfl
    obtain⟨ty,ko,r,eo,hk⟩:=hk.ok
    cases hb2:(!str&& !(Nat.beq ko fU)) with
    |false=>rw[hb2] at hk; exact hk.elim
    |true =>
     rw[hb2] at hk
     simp only[cond_true] at hk
     rw[V.seq_eq] at hk
     exact abP rfl (Vu hh (u:=.own o) (r:=r.lenV) (sd:=.no) (by simp only[abB,eo,hb2,dK,cond_true]) ex) hk
   ·exact q.elim
  ·exact q.elim
 ·rename_i ty k bytes x y
  split at q
  ·rename_i vx vy e1 e2
   split at q
   ·rename_i r' x' es
    simp only[lU]
    rw[R.ev e1,R.ev e2,hh,abN es]
    simp only
    split at q
    ·rename_i k'
     obtain⟨c,hk⟩:=q
     have e0:(V.row k' true Rw.nil).aG= .sl k' true []:=rfl
     rw[e0]
     unfold nI at c
     rw[yP] at c
     refine⟨.inr rfl,.inl (.inl rfl),by simpa using c.1,by simpa using c.2,?_⟩
     have:=fin hk
     rw[cO] at this
     exact this
    ·rename_i k' r hnn
     cases hb2:Nat.beq k' k with
     |false=>rw[hb2] at q; exact q.elim
     |true =>
      rw[hb2] at q
      have:=fB hb2; subst this
      simp only[cond_true] at q
      split at q
      ·rename_i w hw
       obtain⟨c1,c2,hk⟩:=q.ok
       simp only[V.aG]
       unfold nI at c2
       rw[yP] at c1 c2
       refine⟨.inl trivial,?_,by rw[Rw.dZ]; exact c2.1,by rw[Rw.dZ]; exact c2.2,?_⟩
       ·rcases c1 with (c|c)|⟨c,hk2⟩
        ·left; left; exact List.eq_nil_of_length_eq_zero (by rw[Rw.dZ]; exact c)
        ·left; right; intro e; rw[e] at c; simp at c
        ·right
         refine⟨c,?_⟩
         have f1:=fin hk2
         rw[<- hh] at f1
         rw[show({(s.put d (V.row k' true r).aG) with hp:=s.hp}:AS)=s.put d (.sl k' true r.aV) by cases d<;>rfl] at f1
         exact f1
       ·have:=fin hk
        rw[cO] at this
        simp only[Option.map_some,OV.aA,Rw.IG hw,List.append_assoc] at this
        exact this
      ·exact q.elim
    ·rename_i i
     split at q
     ·rename_i ty' ko r xx eo
      cases hb2:(Nat.beq ko k&&Nat.beq ty' ty) with
      |false=>rw[hb2] at q; exact q.elim
      |true =>
       rw[hb2] at q
       simp only[cond_true] at q
       simp only[Bool.and_eq_true] at hb2
       have f1:=fB hb2.1; have f2:=fB hb2.2; subst f1; subst f2
       split at q
       ·rename_i w z hw
        obtain⟨c,hk⟩:=q
        simp only[V.aG,aP eo,OV.aA]
        unfold nI at c
        rw[yP,yP] at c
        refine⟨by simp,c.1,c.2,?_⟩
        have:=fin hk
        rw[cO,cO] at this
        simp only[Option.map_some,Option.map_none,OV.aA,abO hw] at this
        exact this
       ·exact q.elim
     ·rename_i ty' ko y eo
      cases hb2:(Nat.beq ko k&&Nat.beq ty' ty) with
      |false=>rw[hb2] at q; exact q.elim
      |true =>
       rw[hb2] at q
       simp only[cond_true] at q
       simp only[Bool.and_eq_true] at hb2
       have f1:=fB hb2.1; have f2:=fB hb2.2; subst f1; subst f2
       obtain⟨c,hk⟩:=q
       simp only[V.aG,aP eo,OV.aA]
       unfold nI at c
       rw[yP] at c
       refine⟨by simp,by rw[dM]; exact c.1,by rw[dM]; exact c.2,?_⟩
       have:=fin hk
       rw[cO,cO] at this
       simp only[Option.map_some,Option.map_none,OV.aA,wV,Rw.Zt] at this
       exact this
     ·exact q.elim
    ·rename_i i
     obtain⟨r,h',a1,a2,hk⟩:=q.ok
     split at hk
     ·rename_i w hw
      obtain⟨c,hk⟩:=hk
      simp only[V.aG,aP a1,OV.aA,V.aV,List.append_nil]
      unfold nI at c
      rw[yP] at c
      refine⟨by simp,by rw[Rw.dZ]; exact c.1,by rw[Rw.dZ]; exact c.2,?_⟩
      have:=fin hk
      rw[cO,a2] at this
      simp only[Option.map_some,OV.aA,Rw.IG hw,List.append_assoc] at this
      exact this
     ·exact hk.elim
    ·exact q.elim
   ·exact q.elim
  ·exact q.elim
 ·rename_i k z x
  split at q
  ·rename_i i lo hi e
   split at q
   ·rename_i ty ko r eo
    cases g:(Nat.beq ko k&&z.kd==k&&z.ku h.au&&z.free) with
    |false=>rw[g] at q; exact q.elim
    |true =>
     rw[g] at q
     simp only[cond_true] at q
     obtain⟨⟨c1,c2⟩,hk⟩:=q
     simp only[Bool.and_eq_true] at g
     obtain⟨⟨⟨g1,g2⟩,g3⟩,g4⟩:=g
     have f1:=fB g1; subst f1
     simp only[lU]
     rw[R.ev e]
     simp only[V.aG,hh,aP eo,OV.aA]
     refine⟨by simp[g2,g3,g4],by simp[Rw.dZ,c2,V.aV],?_⟩
     have el:(r.take lo).aV++V.aV (List.replicate (hi-lo) (Eh z))=List.take lo (r.aV++V.aV [])++List.replicate (hi-lo) z++List.drop hi (r.aV++V.aV []):=by
      rw[Rw.EX,iU,List.map_replicate,xM]
      simp[V.aV,Rw.dZ,c2]
     cases d with
     |none =>
      simp only at hk
      refine⟨_,_,hl,R,?_,hp,hn,hk⟩
      rw[cO]
      simp only[Option.map_some,OV.aA,el]
     |some dd =>
      simp only at hk
      have:=fin hk
      rw[cO] at this
      simp only[Option.map_some,OV.aA,el] at this
      exact this
   ·exact q.elim
  ·exact q.elim
 ·rename_i ty k z nn ps
  split at q
  ·rename_i vs s' hb
   split at q
   ·rename_i l hl
    cases g:((z.kd==k)&&z.free&&Ew k vs&&Dc h vs&&Nat.ble (nn*bn k) 16777216&&zT k) with
    |false=>rw[g] at q; exact q.elim
    |true =>
     rw[g] at q
     simp only[cond_true] at q
     obtain⟨hs,hk⟩:=kE q
     have he:=uz R hb (hs (.inl rfl))
     have he':(ps.map fun p=>s.ev p.2)=V.aV vs:=by rw[<- he]; simp
     simp only[Bool.and_eq_true] at g
     obtain⟨⟨⟨⟨⟨g1,g2⟩,g3⟩,g4⟩,g5⟩,g6⟩:=g
     obtain⟨i1,i2⟩:=Vw hl he' g3
     have e:V.aV (List.replicate nn (Eh z))=List.replicate nn z:=by rw[iU,List.map_replicate,xM]
     rw[e] at i2
     simp only[lU]
     rw[i1,i2,he',hh,GI g4,g1,g2,g5,g6]
     refine⟨rfl,?_⟩
     have:=fin hk
     rw[cO] at this
     simp only[Option.map_some,OV.aA,Rw.aV,List.nil_append] at this
     exact this
   ·exact q.elim
  ·exact q.elim
 ·rename_i x
  split at q
  ·rename_i k' f r e
   obtain⟨q1,q2⟩:=q
   simp only[lU]
   rw[R.ev e]
   have f1:=fun hz=>fin (q1 hz)
   have f2:=fin q2
   rw[<- hh] at f1 f2
   refine⟨fun hl=>?_,?_⟩
   ·have:=f1 (by rw[<- Rw.dZ]; exact congrArg List.length hl)
    rw[show({(s.put d (V.bool true).aG) with hp:=s.hp}:AS)=s.put d (.lit (.bool true)) by cases d<;>rfl] at this
    exact this
   ·rw[show({(s.put d (V.bool false).aG) with hp:=s.hp}:AS)=s.put d (.lit (.bool false)) by cases d<;>rfl] at f2
    exact f2
  ·rename_i i e
   split at q
   ·rename_i ty ko r eo
    cases hb:Nat.beq ko fU with
    |true=>rw[hb] at q; exact q.elim
    |false =>
     rw[hb] at q
     obtain⟨q1,q2⟩:=q
     simp only[lU]
     rw[R.ev e]
     have f1:=fun hz=>fin (q1 hz)
     have f2:=fin q2
     rw[<- hh] at f1 f2
     simp only[V.aG,hh,aP eo,OV.aA]
     refine⟨fun hl=>?_,?_,Nat.ne_of_beq_eq_false hb⟩
     ·have:=f1 (by rw[<- Rw.dZ]; simpa [V.aV] using congrArg List.length hl)
      rw[show({(s.put d (V.bool true).aG) with hp:=s.hp}:AS)=s.put d (.lit (.bool true)) by cases d<;>rfl] at this
      exact this
     ·rw[show({(s.put d (V.bool false).aG) with hp:=s.hp}:AS)=s.put d (.lit (.bool false)) by cases d<;>rfl] at f2
      exact f2
   ·exact q.elim
  ·exact q.elim
 ·rename_i ty
  simp only[lU]
  have:=fin q
  rw[cO] at this
  rw[hh]
  exact this
 ·rename_i z x i
  split at q
  ·rename_i o k e1 e2
   split at q
   ·rename_i ty es eo
    obtain⟨q1,q2⟩:=q
    rw[bD rfl]
    simp only[qc,qt]
    rw[R.ev e1,R.ev e2]
    simp only[V.aG,T.int,hh,aP eo,OV.aA,List.map_nil,List.append_nil,ad7]
    refine⟨trivial,?_⟩
    cases hg:HY k es with
    |some l =>
     have f1:=fin (q1 l hg)
     rw[<- hh] at f1
     rw[show({(s.put d (V.dH [.row 0 false (.bools l),.bool true]).aG) with hp:=s.hp}:AS)=s.put d (.dH [.sl 0 false (l.map T.bool),.lit (.bool true)]) by cases d<;>rfl] at f1
     exact f1
    |none =>
     have f2:=fin (q2 hg)
     rw[<- hh] at f2
     rw[show({(s.put d (V.dH [Eh z,.bool false]).aG) with hp:=s.hp}:AS)=s.put d (.dH [(Eh z).aG,.lit (.bool false)]) by cases d<;>rfl,xM] at f2
     exact f2
   ·exact q.elim
  ·exact q.elim
 ·rename_i x i v
  split at q
  ·rename_i o k w e1 e2 e3
   split at q
   rename_i v' s' hb
   split at q
   ·rename_i ty es eo
    cases g:Ew 0 [v']&&v'.ku h with
    |false=>rw[g] at q; exact q.elim
    |true =>
     rw[g] at q
     simp only[Bool.and_eq_true] at g
     simp only[cond_true] at q
     obtain⟨hs,c,hk⟩:=kE q
     have ev:s.ev v=v'.aG:=by rw[R.ev e3]; exact dR hb (hs (.inl rfl))
     have hkd:=OJ g.1
     have hst:=V.rG g.2
     simp only[lU]
     rw[R.ev e1,R.ev e2,ev]
     simp only[V.aG,T.int,hh,aP eo,OV.aA,List.map_nil,List.append_nil]
     refine⟨trivial,?_,?_⟩
     ·rw[hkd]
      have:v'.aG.yC h.au=true:=by
       revert hst hkd
       cases v'.aG<;>simp[T.ku,T.kd]
      rw[this]; rfl
     ·have hK:Kz N pn nx K {s with hp:=Hz.au ((o,some (.map ty es [(k,v')]))::h)}:=⟨m,_,hl,R,rfl,hp,hn,hk⟩
      rw[cO] at hK
      have:=afb (v:=v'.aG) c
      simp only[T.int] at this
      rw[this]
      exact hK
   ·exact q.elim
  ·exact q.elim
 ·exact q.elim
end
section
variable {P:Program} {m:Fm} {h:Hz}
theorem Kz.put{N pn nx:Nat}{K:Fm->Hz->Prop}{s:AS}{d:Option Nat}{v:V}{t:T}{h':Hz}(hl:s.fr.length=N)(hd: ∀ i,d=some i->i<N)(R:Rp m s.fr)(hp:s.pin=pn)(hn:s.nx=nx)(ht:t=v.aG)(hk:K (iH d v m) h') :
  Kz N pn nx K {(s.put d t) with hp:=h'.au}:=by
 subst ht
 exact⟨_,h',by show(s.put d v.aG).fr.length=N; rw[Vy,hl],R.put (v:=v) (fun i e=>by rw[hl]; exact hd i e) rfl,rfl,by show(s.put d v.aG).pin=pn; cases d<;>exact hp,by show(s.put d v.aG).nx=nx; cases d<;>exact hn,hk⟩
theorem JZ{N pn nx n:Nat}{K:Fm->Hz->Prop}{KW:Nat->Fm->Hz->Prop}{s:AS}{d:Option Nat}{dr:Bool}{g:Option Bool}{f:FuncId}{l:List V}(hl:s.fr.length=N)(hd: ∀ i,d=some i->i<N)(R:Rp m s.fr)(hh:s.hp=h.au)(hp:s.pin=pn)(hn:s.nx=nx)
  (hg:g=none\/g=some true) (q:ah P dr g f l h n (fun v h'=>v.seq fun v=>K (iH d (rW g v) m) h') (fun k v h'=>v.seq fun v=>KW k (iH d v m) h')) (hq:dr=true-> ∀ (v:V) (h':Hz),¬ (v.seq fun v=>KW 0 (iH d v m) h')) :
  mO P dr n d f (V.aV l) (Kz N pn nx K) s\/(dr=false/\ ∃ k,jC P f (V.aV l) s.hp n k fun t hp=>Kz N pn (nx+k) (KW k) {(s.put d t) with hp:=hp,nx:=s.nx+k}):=by
 unfold mO
 rw[hh]
 rcases q.ok with q|⟨rfl,rfl,k,q⟩|⟨_,hdr,_,⟨_,_,v,o,_,_,hk⟩,_⟩
 rotate_left
 rotate_left
 ·exact absurd hk (hq hdr _ _)
 rotate_left
 ·refine .inr ⟨rfl,k,q.mono ?_⟩
  rintro t hp' ⟨v,h',rfl,rfl,hk⟩
  rw[V.seq_eq] at hk
  obtain⟨m',h'',a1,a2,a3,a4,_,a6⟩:=Kz.put (K:=KW k) hl hd R hp hn rfl hk
  exact⟨m',h'',a1,a2,a3,a4,by show s.nx+k=nx+k; rw[hn],a6⟩
 left
 rcases hg with rfl|rfl
 ·refine aS.mono q ?_
  rintro t hp' ⟨v,h',e1,e2,e3,hk⟩
  rw[V.seq_eq] at hk
  subst e2
  refine⟨fun e=>⟨by rw[(e3 e).1],(e3 e).2⟩,Kz.put (v:=v) hl hd R hp hn e1 hk⟩
 ·rcases q with ⟨v,c,hf,hk⟩|⟨hdr,c,_⟩
  rotate_left
  ·refine aS.mono (c rfl) ?_
   rintro t hp' ⟨v,h',e1,e2,hk⟩
   rw[V.seq_eq] at hk
   subst e2
   exact⟨fun e=>(by rw[hdr] at e; cases e),Kz.put (v:=rW (some true) v) hl hd R hp hn (e1.trans (GL v).symm) hk⟩
  rw[V.seq_eq] at hk
  refine aS.mono (c rfl) ?_
  rintro t hp' ⟨e1,e2⟩
  subst e2
  refine⟨fun _=>⟨rfl,by rw[e1]; exact V.nY v hf⟩,Kz.put (v:=rW (some true) v) hl hd R hp hn (by rw[e1]; exact(GL v).symm) hk⟩
theorem xP{N pn nx n:Nat}{K:Fm->Hz->Prop}{s:AS}{d:Option Nat}{dr:Bool}{g:Option Bool}{f:FuncId}{l:List V}(hl:s.fr.length=N)(hd: ∀ i,d=some i->i<N)(R:Rp m s.fr)(hh:s.hp=h.au)(hp:s.pin=pn)(hn:s.nx=nx)
  (hg:g=none\/g=some true) (q:ah P dr g f l h n (fun v h'=>v.seq fun v=>K (iH d (rW g v) m) h') (fun _ _ _=>False)):mO P dr n d f (V.aV l) (Kz N pn nx K) s:=by
 rcases JZ (KW:=fun _ _ _=>False) hl hd R hh hp hn hg ⟨q.ok.imp id fun h=>h.imp (fun⟨a,b,k,c⟩=>⟨a,b,k,c.mono fun _ _ ⟨_,_,_,_,h⟩=>h.elim⟩) (fun⟨a,b,d,c⟩=>⟨a,b,d,c.mono fun _ _ ⟨_,_,_,_,h⟩=>h.elim⟩)⟩ (fun _ v h' hk=>by rw[V.seq_eq] at hk; exact hk) with h|⟨_,k,⟨t,hp',hk⟩,_⟩
 ·exact h
 ·obtain⟨_,_,_,_,_,_,_,hk⟩:=hk; exact hk.elim
theorem ah.guard{dr:Bool}{f:FuncId}{args:List V}{n:Nat}{K:V->Hz->Prop}{KW:Nat->V->Hz->Prop}(q:ah P dr (some false) f args h n K KW): ∃ v,K v h:=by
 rcases q.ok with (⟨v,_,_,k⟩|⟨_,_,k⟩)|⟨h1,_⟩|⟨h1,_⟩
 ·exact⟨v,k⟩
 ·exact⟨_,k rfl⟩
 ·cases h1
 ·cases h1
theorem Xp{dr fl:Bool}{a b c:Prop}:DX dr fl a b c↔(dr=false/\a)\/(dr=true/\bif fl then c else b):=by
 cases dr<;>cases fl<;>simp[DX]
theorem tH{dr fl:Bool}{C:Bool->Prop}(q:DX dr fl (C false) (C true) (C false)):C (dr&& !fl):=by
 cases dr<;>cases fl<;>exact q
theorem Uo{N pn nx n:Nat}{KK:Nat->Fm->Hz->Prop}{s:AS}{o:aJ}{dr:Bool}(hl:s.fr.length=N)(hd: ∀ i,o.d=some i->i<N)(R:Rp m s.fr)(hh:s.hp=h.au)(hp:s.pin=pn)(hn:s.nx=nx)
  (q:ad5 P dr nx n o KK m h):(gv o.g s=some true/\jo o s/\(lU P (o.dr dr) n o.d o.op (Kz N pn nx (KK 0)) s\/opW P dr n o.d o.op (fun s'=> ∃ k,Kz N pn (nx+k) (KK k) s') s))\/(gv o.g s=some false/\Kz N pn nx (KK 0) (s.put o.d T.un)):=by
 unfold ad5 at q
 split at q
 ·exact q.elim
 ·rename_i g hg
  cases hf:H7 nx o m with
  |false=>rw[hf] at q; exact q.elim
  |true =>
   rw[hf] at q
   simp only[cond_true] at q
   have hfl:jo o s:=JY R (by rw[hn]; exact hf)
   have un: ∀ {v:V} {h':Hz},h'=h->KK 0 (iH o.d (rW (some false) v) m) h'->Kz N pn nx (KK 0) (s.put o.d T.un):=fun {v h'} e hk=>by
    subst e
    have:=Kz.put (s:=s) (v:=rW (some false) v) (t:=T.un) hl hd R hp hn (Um v).symm hk
    rw[<- hh] at this
    have e2:({(s.put o.d T.un) with hp:=s.hp}:AS)=s.put o.d T.un:=by
     cases o.d<;>rfl
    rw[e2] at this
    exact this
   rcases Xo R hg with ⟨h1,h2⟩|⟨h1,rfl⟩
   ·refine .inl ⟨h1,hfl,?_⟩
    split at q
    ·rename_i f xs eo
     split at q
     ·rename_i l sd hb
      obtain⟨hs,q⟩:=kE q
      have ed:o.dr dr=(dr&& !o.fl):=by unfold aJ.dr; rw[eo]
      rw[ed,eo]
      show mO P (dr&& !o.fl) n o.d f (xs.map s.ev) _ s\/(dr=false/\ ∃ k,jC P f (xs.map s.ev) s.hp n k _)
      rw[uz R hb (hs h2)]
      split at q
      ·rw[Xp] at q
       rcases q with ⟨e,q⟩|q
       ·rw[e]
        exact(JZ (g:=none) hl hd R hh hp hn h2 q (fun e=>by cases e)).imp id fun⟨a,k,b⟩=>⟨a,k,b.mono fun _ _ hk=>⟨k,hk⟩⟩
       ·obtain⟨hdt,q⟩:=q
        refine .inl (xP (g:=none) hl hd R hh hp hn h2 ?_)
        rw[hdt]
        cases hf2:o.fl<;>rw[hf2] at q<;>exact q
      ·rename_i bb _
       exact .inl (xP hl hd R hh hp hn h2 (tH (C:=fun dr=>ah P dr (some bb) f l h n (fun v h'=>v.seq fun v=>KK 0 (iH o.d (rW (some bb) v) m) h') (fun _ _ _=>False)) q))
     ·exact q.elim
    ·rename_i x xs eo
     split at q
     ·rename_i v0 l sd e1 hb
      split at q
      ·rename_i f cap s0 hb0
       obtain⟨hs,q⟩:=kE q
       have hs2:=Sd.lH.1 (hs h2)
       have ed:o.dr dr=(dr&& !o.fl):=by unfold aJ.dr; rw[eo]
       rw[ed,eo]
       left
       simp only[lU]
       rw[R.ev e1,dR hb0 hs2.1]
       simp only[V.aG]
       rw[uz R hb hs2.2,<- wV]
       cases hbl:Nat.blt f 4096 with
       |true=>rw[hbl] at q; exact xP hl hd R hh hp hn h2 (tH (C:=fun dr=>ah P dr g f (l++cap) h n (fun v h'=>v.seq fun v=>KK 0 (iH o.d (rW g v) m) h') (fun _ _ _=>False)) q)
       |false=>rw[hbl] at q; exact xP (l:=.agg cap::l) hl hd R hh hp hn h2 (tH (C:=fun dr=>ah P dr g (f % 4096) (.agg cap::l) h n (fun v h'=>v.seq fun v=>KK 0 (iH o.d (rW g v) m) h') (fun _ _ _=>False)) q)
      ·exact q.elim
     ·exact q.elim
    ·rename_i hn1 hn2
     have ed:o.dr dr=dr:=by
      unfold aJ.dr
      split
      ·rename_i e; exact absurd e (hn1 _ _)
      ·rename_i e; exact absurd e (hn2 _ _)
      ·rfl
     rw[ed]
     left
     split at q
     ·rename_i v sd hq
      obtain⟨hs,hk⟩:=kE q
      rw[V.seq_eq] at hk
      obtain⟨hqu,hc,ht⟩:=ZA R hh hq (hs h2)
      rw[bD hqu]
      refine⟨hc,?_⟩
      have:=Kz.put (s:=s) (v:=rW g v) (t:=qt s o.op) hl hd R hp hn (by rw[ht]; rcases h2 with rfl|rfl; rfl; exact(GL v).symm) hk
      rw[<- hh] at this
      have e2:({(s.put o.d (qt s o.op)) with hp:=s.hp}:AS)=s.put o.d (qt s o.op):=by cases o.d<;>rfl
      rw[e2] at this
      exact this
     ·split at q
      ·exact Nb hl hd R hh hp hn q
      ·rename_i b _
       rcases h2 with h2|h2
       ·cases h2
       ·cases h2
        obtain⟨qa,_⟩:=q
        exact Nb hl hd R hh hp hn (qa rfl)
   ·refine .inr ⟨h1,?_⟩
    split at q
    ·split at q
     ·obtain⟨hs,q⟩:=kE q
      obtain⟨v,hk⟩:=ah.guard (tH (C:=fun dr=>ah P dr (some false) _ _ h n (fun v h'=>v.seq fun v=>KK 0 (iH o.d (rW (some false) v) m) h') (fun _ _ _=>False)) q)
      rw[V.seq_eq] at hk
      exact un rfl hk
     ·exact q.elim
    ·split at q
     ·rename_i v0 l sd e1 hb
      split at q
      ·rename_i f cap s0 hb0
       obtain⟨hs,q⟩:=kE q
       cases hbl:Nat.blt f 4096 with
       |true =>
        rw[hbl] at q
        obtain⟨v,hk⟩:=ah.guard (tH (C:=fun dr=>ah P dr (some false) f (l++cap) h n (fun v h'=>v.seq fun v=>KK 0 (iH o.d (rW (some false) v) m) h') (fun _ _ _=>False)) q)
        rw[V.seq_eq] at hk
        exact un rfl hk
       |false =>
        rw[hbl] at q
        obtain⟨v,hk⟩:=ah.guard (tH (C:=fun dr=>ah P dr (some false) (f % 4096) (.agg cap::l) h n (fun v h'=>v.seq fun v=>KK 0 (iH o.d (rW (some false) v) m) h') (fun _ _ _=>False)) q)
        rw[V.seq_eq] at hk
        exact un rfl hk
      ·exact q.elim
     ·exact q.elim
    ·split at q
     ·obtain⟨hs,hk⟩:=kE q
      rw[V.seq_eq] at hk
      exact un rfl hk
     ·obtain⟨_,qb⟩:=q
      have e3:V.cnd false (phZ o.op)=rW (some false) (phZ o.op):=by cases o.op<;>rfl
      exact un (v:=phZ o.op) rfl (by rw[<- e3]; exact qb rfl)
theorem Xq{N pn nx n:Nat}{KK:Nat->Fm->Hz->Prop}{s:AS}{o:aJ}{dr:Bool}(hl:s.fr.length=N)(hd: ∀ i,o.d=some i->i<N)(R:Rp m s.fr)(hh:s.hp=h.au)(hp:s.pin=pn)(hn:s.nx=nx)
  (q:opZ P dr nx n o KK m h):(gv o.g s=some true/\jo o s/\(opR P dr n o (Kz N pn nx (KK 0)) s\/opW P dr n o.d o.op (fun s'=> ∃ k,Kz N pn (nx+k) (KK k) s') s))\/(gv o.g s=some false/\Kz N pn nx (KK 0) (s.put o.d T.un)):=by
 unfold opZ at q
 cases har:o.ar with
 |true =>
  rw[har] at q
  simp only at q
  unfold arZ at q
  split at q
  ·rename_i f xs eo eg
   cases hf:(o.fl&&H7 nx o m) with
   |false=>rw[hf] at q; exact q.elim
   |true =>
    rw[hf] at q
    simp only[cond_true] at q
    rw[Bool.and_eq_true] at hf
    have hfl:jo o s:=JY R (by rw[hn]; exact hf.2)
    refine .inl ⟨by rw[eg]; rfl,hfl,.inl (.inr ⟨har,hf.1,?_⟩)⟩
    split at q
    ·rename_i l sd hb
     obtain⟨hs,q⟩:=kE q
     obtain⟨v,ob,c1,c2,c3,hk⟩:=q.ok
     rw[eo]
     refine⟨v.aG,ob.map OV.aA,c1,?_,?_,?_⟩
     ·intro o' ho'
      cases ob with
      |none=>cases ho'
      |some ob=>cases ho'; exact c2 _ rfl
     ·intro hp' he _
      rw[uz R hb (hs (.inl rfl))]
      exact c3 hp' (by rw[<- hh]; exact he)
     ·rw[V.seq_eq] at hk
      cases ob with
      |none =>
       show Kz N pn nx (KK 0) {(s.put o.d v.aG) with hp:=s.hp}
       rw[hh]
       exact Kz.put (v:=v) hl hd R hp hn rfl hk
      |some ob =>
       have e:jq s.hp n (some ob.aA)=Hz.au ((n,some ob)::h):=by rw[cO,hh]; rfl
       show Kz N pn nx (KK 0) {(s.put o.d v.aG) with hp:=jq s.hp n (some ob.aA)}
       rw[e]
       exact Kz.put (v:=v) hl hd R hp hn rfl hk
    ·exact q.elim
  ·exact q.elim
 |false =>
 rw[har] at q
 simp only at q
 cases had:o.ad with
 |false =>
  rw[had] at q
  rcases Uo hl hd R hh hp hn q with ⟨h1,h2,h3⟩|h1
  ·exact .inl ⟨h1,h2,h3.imp (fun h=>.inl ⟨har,jI (fun s' _ _ h=>⟨fun e=>(by rw[had] at e; cases e),h⟩) h⟩) id⟩
  ·exact .inr h1
 |true =>
  rw[had] at q
  simp only at q
  unfold adZ at q
  split at q
  ·rename_i f xs eo eg
   cases hf:(o.fl&&H7 nx o m) with
   |false=>rw[hf] at q; exact q.elim
   |true =>
    rw[hf] at q
    simp only[cond_true] at q
    rw[Bool.and_eq_true] at hf
    have hfl:jo o s:=JY R (by rw[hn]; exact hf.2)
    refine .inl ⟨by rw[eg]; rfl,hfl,.inl (.inl ⟨har,?_⟩)⟩
    split at q
    ·rename_i l sd hb
     obtain⟨hs,q⟩:=kE q
     have ed:o.dr dr=false:=by unfold aJ.dr; rw[eo,hf.1]; cases dr<;>rfl
     rw[ed,eo]
     show aS P f (xs.map s.ev) s.hp n _
     rw[uz R hb (hs (.inl rfl)),hh]
     have hx: ∀ {h':Hz} {s':AS},s'.hp=h'.au->(h'=h\/ ∃ o,h'=(n,some o)::h/\h.get n=none)-> ∀ i ob,s.hp i=some ob->s'.hp i=some ob:=by
      intro h' s' e1 e2 i ob hi
      rw[e1]
      rw[hh] at hi
      rcases e2 with rfl|⟨o',rfl,hn0⟩
      ·exact hi
      ·rw[cO]
       have hne:i≠n:=by
        rintro rfl
        simp only[Hz.au,hn0] at hi; cases hi
       simp only[upd,if_neg hne]; exact hi
     rcases q.ok with q|⟨_,e,_⟩|⟨_,_,hn0,q⟩
     ·refine aS.mono q ?_
      rintro t hp' ⟨v,h',e1,e2,e3,hk⟩
      rw[V.seq_eq] at hk
      subst e2
      exact⟨(fun e=>by cases e),fun _=>hx rfl (.inl (e3 rfl).1),Kz.put (v:=v) hl hd R hp hn e1 hk⟩
     ·cases e
     ·refine aS.mono q ?_
      rintro t hp' ⟨v,o',e1,e2,hk⟩
      rw[V.seq_eq] at hk
      subst e2
      exact⟨(fun e=>by cases e),fun _=>hx rfl (.inr ⟨o',rfl,hn0⟩),Kz.put (v:=v) hl hd R hp hn e1 hk⟩
    ·exact q.elim
  ·exact q.elim
theorem QM{N pn ml:Nat}{K:Fm->Hz->Nat->Prop}{dr:Bool}: ∀ {nx:Nat} {ops:List aJ} {i:Nat} {m:Fm} {h:Hz} {s:AS},OI N ops=true->s.fr.length=N->Rp m s.fr->s.hp=h.au->s.pin=pn->s.nx=nx ->
  QL P dr ml nx K ops i m h->rY P dr ml (fun s=> ∃ m h,s.fr.length=N/\Rp m s.fr/\s.hp=h.au/\s.pin=pn/\K m h s.nx) ops i s:=by
 intro nx ops
 induction ops generalizing nx with
 |nil =>
  intro i m h s _ hl R hh hp hn q
  exact⟨m,h,hl,R,hh,hp,by show K m h (s.nx+ml); rw[hn]; exact q⟩
 |cons o r ih =>
  intro i m h s hd hl R hh hp hn q
  simp only[OI,Bool.and_eq_true] at hd
  have hd1: ∀ j,o.d=some j->j<N:=fun j e=>by
   have:=hd.1
   rw[e] at this
   simpa using this
  simp only[rY]
  rw[DK]
  have next: ∀ s',s'.nx=s.nx->s'.pin=s.pin->Kz N pn nx (QL P dr ml nx K r (i+1)) s'->rY P dr ml (fun s=> ∃ m h,s.fr.length=N/\Rp m s.fr/\s.hp=h.au/\s.pin=pn/\K m h s.nx) r (i+1) s':=by
   rintro s' _ _ ⟨m',h',a1,a2,a3,a4,a5,a6⟩
   exact ih hd.2 a1 a2 a3 a4 a5 a6
  have afc: ∀ s',(∃ k,Kz N pn (nx+k) (QL P dr ml (nx+k) K r (i+1)) s')->rY P dr ml (fun s=> ∃ m h,s.fr.length=N/\Rp m s.fr/\s.hp=h.au/\s.pin=pn/\K m h s.nx) r (i+1) s':=by
   rintro s' ⟨k,m',h',a1,a2,a3,a4,a5,a6⟩
   exact ih hd.2 a1 a2 a3 a4 a5 a6
  rcases Xq hl hd1 R hh hp hn q with ⟨h1,h2,h3⟩|⟨h1,h2⟩
  ·refine .inl ⟨h1,h2,?_⟩
   rw[hn]
   exact h3.imp (fun h=>h.imp (fun h=>⟨h.1,jI (fun s' a b c=>⟨c.1,next s' a b c.2⟩) h.2⟩) fun h=>⟨h.1,h.2.1,JG (fun s' a b c=>next s' a b c) h.2.2⟩) (QD afc)
  ·exact .inr ⟨h1,next _ (fE _ _ _) (gU _ _ _) h2⟩
theorem pG{N pn:Nat}: ∀ {c:fG} {Q:Qz} {m:Fm} {h:Hz} {s:AS},rZ N c=true->s.fr.length=N->Rp m s.fr->s.hp=h.au->s.pin=pn->az P N pn c Q m h s.nx->aw P c (Lift N pn Q) s:=by
 intro c
 induction c with
 |skip=>intro Q m h s _ hl R hh hp q; exact⟨m,h,hl,R,hh,hp,q⟩
 |reg dr ops =>
  intro Q m h s hd hl R hh hp q
  exact QM hd hl R hh hp rfl q
 |seq a b ia ib =>
  intro Q m h s hd hl R hh hp q
  simp only[rZ,Bool.and_eq_true] at hd
  simp only[aw]
  refine lZ ?_ (ia hd.1 hl R hh hp q)
  rintro e s' ⟨m',h',b1,b2,b3,b4,b5⟩
  cases e with
  |normal=>exact ib hd.2 b1 b2 b3 b4 b5
  |exit j=>exact⟨m',h',b1,b2,b3,b4,b5⟩
  |ret=>exact⟨m',h',b1,b2,b3,b4,b5⟩
 |cond c a b ia ib =>
  intro Q m h s hd hl R hh hp q
  simp only[rZ,Bool.and_eq_true] at hd
  simp only[az] at q
  simp only[aw]
  split at q
  ·rename_i t e
   rw[R.ev e]
   obtain⟨q1,q2⟩:=q
   exact⟨fun e=>ia hd.1 hl R hh hp (q1 e),fun e=>ib hd.2 hl R hh hp (q2 e)⟩
  ·exact q.elim
 |blk id b ib =>
  intro Q m h s hd hl R hh hp q
  simp only[aw]
  refine lZ ?_ (ib hd hl R hh hp q)
  rintro e s' ⟨m',h',b1,b2,b3,b4,b5⟩
  cases e with
  |normal=>exact⟨m',h',b1,b2,b3,b4,b5⟩
  |ret=>exact⟨m',h',b1,b2,b3,b4,b5⟩
  |exit j =>
   simp only at b5 ⊢
   by_cases e:j=id
   ·subst e; simp at b5 ⊢; exact⟨m',h',b1,b2,b3,b4,b5⟩
   ·have e1:Nat.beq j id=false:=by
     cases hb:Nat.beq j id with
     |false=>rfl
     |true=>exact absurd (fB hb) e
    have e2:(j==id)=false:=by simpa using e
    rw[e1] at b5; rw[e2]
    exact⟨m',h',b1,b2,b3,b4,b5⟩
 |exit i=>intro Q m h s _ hl R hh hp q; exact⟨m,h,hl,R,hh,hp,q⟩
 |ret=>intro Q m h s _ hl R hh hp q; exact⟨m,h,hl,R,hh,hp,q⟩
 |loop b ib =>
  intro Q m h s _ hl R hh hp q
  have:=q.ok s.fr hl R
  rw[<- hh,<- hp] at this
  simp only[aw]
  rw[hp] at this
  have e:(⟨s.fr,s.hp,s.nx,pn⟩:AS)=s:=by rw[<- hp]
  rw[e] at this
  exact this
end
end Go.Ab
