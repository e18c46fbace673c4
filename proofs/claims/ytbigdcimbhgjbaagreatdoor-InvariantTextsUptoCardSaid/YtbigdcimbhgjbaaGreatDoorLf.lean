/-
 The typed layer, part 1: typed values, rows, objects. Definitions alone.
-/
import Derived.Test.YtbigdcimbhgjbaaGreatDoorLd
import Derived.Test.YtbigdcimbhgjbaaGreatDoorLc
namespace Go.Ab
inductive Dat where
 |lin (x:Zz)
 |Po (x:yM)
 |rule (x:Rule)
 |eu (x:aS)
 |cnt (x:Cnt)
 |prop (x:Prop')
 |clause (x:Clause)
 |elem (x:Elem)
@[reducible] def abC(l:List Bool):T:=.sl 0 false (l.map T.bool)
@[reducible] def abD(l:List (List Int)):T:=.sl 0 false (l.map Go.Ab.ints)
inductive Rw where
 |ints (l:List Int)
 |bools (l:List Bool)
 |strs (l:List Str)
 |jT (l:List (List Int))
 |mF (l:List (List Bool))
 |mG (l:List (List (List Int)))
 |zD (l:List Zz)
 |pG (l:List yM)
 |rules (l:List Rule)
 |cnts (l:List Cnt)
 |clauses (l:List Clause)
 |elems (l:List Elem)
 |nil
inductive V where
 |int (n:Int)
 |bool (b:Bool)
 |u8 (n:Int)
 |str (s:Str)
 |dat (d:Dat)
 |agg (l:List V)
 |row (k:Nat) (full:Bool) (r:Rw)
 |yQ (k:Nat) (full:Bool) (l:List V)
 |ref (k:Nat) (v:V)
 |own (i:Nat)
 |inn (i:Nat)
 |pin (i j off:Nat)
 |ptr (i j off:Nat)
 |ru (i lo hi:Nat)
 |fn (f:FuncId) (cap:List V)
 |fH (l:List V)
 |cnd (b:Bool) (v:V)
 |raw (t:T)
def Dat.aI:Dat->T
 | .lin x=>QM x
 | .Po x=>Ou x
 | .rule x=>Gn x
 | .eu x=>Vz x
 | .cnt x=>XD x
 | .prop x=>ac8 x
 | .clause x=>tu x
 | .elem x=>sZ x
def Dat.kd:Dat->Nat
 | .lin _=>5
 | .Po _=>7
 | .rule _=>19
 | .eu _=>11
 | .cnt _=>3
 | .prop _=>7
 | .clause _=>4
 | .elem _=>3
def Rw.aX:Rw->List T
 | .ints l=>l.map T.int
 | .bools l=>l.map T.bool
 | .strs l=>l.map eS
 | .jT l=>l.map Go.Ab.ints
 | .mF l=>l.map abC
 | .mG l=>l.map abD
 | .zD l=>l.map QM
 | .pG l=>l.map Ou
 | .rules l=>l.map Gn
 | .cnts l=>l.map XD
 | .clauses l=>l.map tu
 | .elems l=>l.map sZ
 | .nil=>[]
mutual
def V.aI:V->T
 | .int n=>.int n
 | .bool b=>.bool b
 | .u8 n=>.lit (.int .u8 n)
 | .str s=>eS s
 | .dat d=>d.aI
 | .agg l=>.agg (V.aX l)
 | .row k f r=>.sl k f r.aX
 | .yQ k f l=>.sl k f (V.aX l)
 | .ref k v=>.ref k v.aI
 | .own i=>.own i
 | .inn i=>.own i
 | .pin i j off=>.ptr i j off
 | .ptr i j off=>.ptr i j off
 | .ru i lo hi=>.ru i lo hi
 | .fn f cap=>.fn f (V.aX cap)
 | .fH l=>.fH (V.aX l)
 | .cnd b v=>bif b then v.aI else T.un
 | .raw t=>t
def V.aX:List V->List T
 |[]=>[]
 |v::r=>v.aI::V.aX r
end
def Dat.cells:Dat->List V
 | .lin x=>[.int x.c,.int x.n,.int x.t,.int x.f]
 | .Po x=>[.int x.message,.int x.DK,.int x.bound.c,.int x.bound.n,.int x.bound.t,.int x.bound.f]
 | .rule x=>[.str x.name,.int x.kind,.int x.fr,.int x.to,.int x.jk,.int x.CO,.row 0 false (.ints x.response),.row 7 false (.pG x.guards),.row 0 false (.ints x.ex),.row 0 false (.ints x.all),.int x.read,.int x.write,.row 0 false (.ints x.send),.int x.pos,.row 0 false (.ints x.left),.row 0 false (.ints x.right),.row 0 false (.ints x.parent),.int x.direction]
 | .eu x=>[.str x.name,.int x.topology,.row 0 false (.strs x.states),.row 0 false (.strs x.messages),.row 0 false (.strs x.values),.int x.fault,.row 5 false (.zD x.bY),.row 0 false (.ints x.initial),.row 0 false (.ints x.leader),.row 19 false (.rules x.rules)]
 | .cnt x=>[.row 0 false (.ints x.states),.int x.least]
 | .prop x=>[.str x.name,.int x.kind,.row 0 false (.ints x.start),.row 3 false (.cnts x.bad),.row 0 false (.ints x.adjacent),.row 0 false (.ints x.goal)]
 | .clause x=>[.row 0 false (.jT x.each),.row 0 false (.ints x.values),.row 0 false (.ints x.some)]
 | .elem x=>[.int x.value,.row 0 false (.ints x.counts)]
theorem Dat.EH(d:Dat):d.aI= .agg (V.aX d.cells):=by cases d<;>rfl
theorem Dat.abE(d:Dat):d.aI.kd=d.kd:=by cases d<;>rfl
def Rw.len:Rw->Nat
 | .ints l=>l.length
 | .bools l=>l.length
 | .strs l=>l.length
 | .jT l=>l.length
 | .mF l=>l.length
 | .mG l=>l.length
 | .zD l=>l.length
 | .pG l=>l.length
 | .rules l=>l.length
 | .cnts l=>l.length
 | .clauses l=>l.length
 | .elems l=>l.length
 | .nil=>0
def Rw.lenV:Rw->V
 | .ints l=>.int l.length
 | .bools l=>.int l.length
 | .strs l=>.int l.length
 | .jT l=>.int l.length
 | .mF l=>.int l.length
 | .mG l=>.int l.length
 | .zD l=>.int l.length
 | .pG l=>.int l.length
 | .rules l=>.int l.length
 | .cnts l=>.int l.length
 | .clauses l=>.int l.length
 | .elems l=>.int l.length
 | .nil=>.int 0
def Rw.rng(n:Int):Rw->Prop
 | .ints l=>0<=n/\n<l.length
 | .bools l=>0<=n/\n<l.length
 | .strs l=>0<=n/\n<l.length
 | .jT l=>0<=n/\n<l.length
 | .mF l=>0<=n/\n<l.length
 | .mG l=>0<=n/\n<l.length
 | .zD l=>0<=n/\n<l.length
 | .pG l=>0<=n/\n<l.length
 | .rules l=>0<=n/\n<l.length
 | .cnts l=>0<=n/\n<l.length
 | .clauses l=>0<=n/\n<l.length
 | .elems l=>0<=n/\n<l.length
 | .nil=>False
def Rw.oK(n:Int):Rw->Prop
 | .ints l=>0<=n/\n<=l.length
 | .bools l=>0<=n/\n<=l.length
 | .strs l=>0<=n/\n<=l.length
 | .jT l=>0<=n/\n<=l.length
 | .mF l=>0<=n/\n<=l.length
 | .mG l=>0<=n/\n<=l.length
 | .zD l=>0<=n/\n<=l.length
 | .pG l=>0<=n/\n<=l.length
 | .rules l=>0<=n/\n<=l.length
 | .cnts l=>0<=n/\n<=l.length
 | .clauses l=>0<=n/\n<=l.length
 | .elems l=>0<=n/\n<=l.length
 | .nil=>n=0
def Rw.get(i:Nat):Rw->V
 | .ints l=>.int (l.getD i 0)
 | .bools l=>.bool (l.getD i false)
 | .strs l=>.str (l.getD i [])
 | .jT l=>.row 0 false (.ints (l.getD i []))
 | .mF l=>.row 0 false (.bools (l.getD i []))
 | .mG l=>.row 0 false (.jT (l.getD i []))
 | .zD l=>.dat (.lin (l.getD i default))
 | .pG l=>.dat (.Po (l.getD i default))
 | .rules l=>.dat (.rule (l.getD i default))
 | .cnts l=>.dat (.cnt (l.getD i default))
 | .clauses l=>.dat (.clause (l.getD i default))
 | .elems l=>.dat (.elem (l.getD i default))
 | .nil=>.raw .any
def Rw.take(i:Nat):Rw->Rw
 | .ints l=>.ints (l.take i)
 | .bools l=>.bools (l.take i)
 | .strs l=>.strs (l.take i)
 | .jT l=>.jT (l.take i)
 | .mF l=>.mF (l.take i)
 | .mG l=>.mG (l.take i)
 | .zD l=>.zD (l.take i)
 | .pG l=>.pG (l.take i)
 | .rules l=>.rules (l.take i)
 | .cnts l=>.cnts (l.take i)
 | .clauses l=>.clauses (l.take i)
 | .elems l=>.elems (l.take i)
 | .nil=>.nil
def Rw.drop(i:Nat):Rw->Rw
 | .ints l=>.ints (l.drop i)
 | .bools l=>.bools (l.drop i)
 | .strs l=>.strs (l.drop i)
 | .jT l=>.jT (l.drop i)
 | .mF l=>.mF (l.drop i)
 | .mG l=>.mG (l.drop i)
 | .zD l=>.zD (l.drop i)
 | .pG l=>.pG (l.drop i)
 | .rules l=>.rules (l.drop i)
 | .cnts l=>.cnts (l.drop i)
 | .clauses l=>.clauses (l.drop i)
 | .elems l=>.elems (l.drop i)
 | .nil=>.nil
def Rw.app:Rw->Rw->Option Rw
 |r,.nil=>some r
 | .nil,r=>some r
 | .ints a,.ints b=>some (.ints (a++b))
 | .bools a,.bools b=>some (.bools (a++b))
 | .strs a,.strs b=>some (.strs (a++b))
 | .jT a,.jT b=>some (.jT (a++b))
 | .mF a,.mF b=>some (.mF (a++b))
 | .mG a,.mG b=>some (.mG (a++b))
 | .zD a,.zD b=>some (.zD (a++b))
 | .pG a,.pG b=>some (.pG (a++b))
 | .rules a,.rules b=>some (.rules (a++b))
 | .cnts a,.cnts b=>some (.cnts (a++b))
 | .clauses a,.clauses b=>some (.clauses (a++b))
 | .elems a,.elems b=>some (.elems (a++b))
 |_,_=>none
def Rw.kd:Rw->Nat
 | .ints _=>0
 | .bools _=>0
 | .strs _=>0
 | .jT _=>0
 | .mF _=>0
 | .mG _=>0
 | .zD _=>5
 | .pG _=>7
 | .rules _=>19
 | .cnts _=>3
 | .clauses _=>4
 | .elems _=>3
 | .nil=>0
def V.one:V->Option Rw
 | .int n=>some (.ints [n])
 | .bool b=>some (.bools [b])
 | .str s=>some (.strs [s])
 | .row 0 false (.ints l)=>some (.jT [l])
 | .row 0 false (.bools l)=>some (.mF [l])
 | .row 0 false (.jT l)=>some (.mG [l])
 | .dat (.lin x)=>some (.zD [x])
 | .dat (.Po x)=>some (.pG [x])
 | .dat (.rule x)=>some (.rules [x])
 | .dat (.cnt x)=>some (.cnts [x])
 | .dat (.clause x)=>some (.clauses [x])
 | .dat (.elem x)=>some (.elems [x])
 | .agg [.int a,.row 0 false (.ints c)]=>some (.elems [⟨a,c⟩])
 | .agg [.row 0 false (.ints c),.int a]=>some (.cnts [⟨c,a⟩])
 | .agg [.row 0 false (.jT e),.row 0 false (.ints v),.row 0 false (.ints s)]=>some (.clauses [⟨e,v,s⟩])
 |_=>none
def Rw.Vu:List V->Option Rw
 |[]=>some .nil
 |v::r=>match v.one,Rw.Vu r with
  |some a,some b=>a.app b
  |_,_=>none
def Rw.vs:Rw->List V
 | .ints l=>l.map .int
 | .bools l=>l.map .bool
 | .strs l=>l.map .str
 | .jT l=>l.map fun c=>.row 0 false (.ints c)
 | .mF l=>l.map fun c=>.row 0 false (.bools c)
 | .mG l=>l.map fun c=>.row 0 false (.jT c)
 | .zD l=>l.map fun c=>.dat (.lin c)
 | .pG l=>l.map fun c=>.dat (.Po c)
 | .rules l=>l.map fun c=>.dat (.rule c)
 | .cnts l=>l.map fun c=>.dat (.cnt c)
 | .clauses l=>l.map fun c=>.dat (.clause c)
 | .elems l=>l.map fun c=>.dat (.elem c)
 | .nil=>[]
inductive OV where
 |row (ty k:Nat) (r:Rw) (x:List V)
 |box (ty k:Nat) (v:V)
 |map (ty:Nat) (es:List (Int×List Bool)) (x:List (Int×V))
 |gen (ty k:Nat) (x:List V)
def Fz(e:Int×List Bool):T:=.fH [.int e.1,.sl 0 false (e.2.map T.bool)]
def V6(e:Int×V):T:=.fH [.int e.1,e.2.aI]
def OV.aF:OV->Ob
 | .row ty k r x=>⟨ty,k,r.aX++V.aX x⟩
 | .box ty k v=>⟨ty,k,[v.aI]⟩
 | .map ty es x=>⟨ty,eU,es.map Fz++x.map V6⟩
 | .gen ty k x=>⟨ty,k,V.aX x⟩
abbrev Fm:=List (Nat×V)
def Fm.get(i:Nat):Fm->Option V
 |[]=>none
 |(j,v)::r=>bif Nat.beq j i then some v else Fm.get i r
abbrev Hz:=List (Nat×Option OV)
def Hz.get(i:Nat):Hz->Option OV
 |[]=>none
 |(j,o)::r=>bif Nat.beq j i then o else Hz.get i r
def Hz.aj(h:Hz):Hp:=fun i=>(h.get i).map OV.aF
mutual
def Aq:T->V
 | .lit (.int .i64 n)=>.int n
 | .lit (.int .u8 n)=>.u8 n
 | .lit (.bool b)=>.bool b
 | .lit (.string b)=>.str b.data.toList
 | .sl k f []=>.row k f .nil
 | .agg l=>.agg (Vu l)
 | .fn f l=>.fn f (Vu l)
 |t=>.raw t
def Vu:List T->List V
 |[]=>[]
 |t::r=>Aq t::Vu r
end
def V.kd:V->Option Nat
 | .dat d=>some d.kd
 | .agg l=>some (l.length+1)
 | .cnd _ _=>none
 | .raw _=>none
 |_=>some 0
def V.cells:V->Option (List V)
 | .dat d=>some d.cells
 | .agg l=>some l
 | .cnd _ _=>none
 | .raw _=>none
 |v=>some [v]
def V.jS(h:Hz):V->Bool
 | .own i=>(h.get i).isSome
 | .ptr i _ _=>(h.get i).isSome
 | .ru i _ _=>(h.get i).isSome
 | .cnd _ _=>false
 | .raw _=>false
 | .fH _=>false
 | .inn _=>false
 | .pin _ _ _=>false
 |_=>true
def V.part(off:Nat):Nat->V->Option V
 |0,.dat d=>d.cells[off]?
 |0,.agg l=>l[off]?
 |k+1,.dat (.Po x)=>bif (Nat.beq off 2)&&(Nat.beq k 4) then some (.dat (.lin x.bound)) else none
 |k+1,.agg l=>some (.agg ((l.drop off).take k))
 |_,_=>none
inductive VC(p k:Prop):Prop where
 |mk:p->k->VC p k
inductive Fork(b:Bool)(x y:Prop):Prop where
 |mk:(b=true->x)->(b=false->y)->Fork b x y
inductive Sd where
 |no
 |yes (p:Prop)
def Sd.holds:Sd->Prop
 | .no=>True
 | .yes p=>p
def Sd.and:Sd->Sd->Sd
 | .no,b=>b
 |a,.no=>a
 | .yes p,.yes q=>.yes (p/\q)
def Sd.imp(t:Bool)(b:Bool):Sd->Sd
 | .no=>.no
 | .yes p=>.yes (t=b->p)
def Sd.vc(g:Option Bool)(k:Prop):Sd->Prop
 | .no=>k
 | .yes p=>match g with
  |none=>VC p k
  |some b=>VC (b=true->p) k
def V.bare:V->V×Sd
 | .cnd c v=>(v,.yes (c=true))
 |v=>(v,.no)
mutual
def V.free:V->Bool
 | .own _=>false
 | .ptr _ _ _=>false
 | .ru _ _ _=>false
 | .inn _=>false
 | .pin _ _ _=>false
 | .cnd _ _=>false
 | .raw t=>t.free
 | .agg l=>V.bZ l
 | .fn _ l=>V.bZ l
 | .fH l=>V.bZ l
 |_=>true
def V.bZ:List V->Bool
 |[]=>true
 |v::r=>V.free v&&V.bZ r
end
def yI(m:Fm):X->Option V
 | .t n=>m.get n
 | .c t=>some (Aq t)
def evL(m:Fm):List X->Option (List V)
 |[]=>some []
 |x::r=>match yI m x,evL m r with
  |some v,some l=>some (v::l)
  |_,_=>none
abbrev yN:=Option (V×Sd)
def Kq(m:Fm)(x:X)(f:V->yN):yN :=
 match yI m x with
 |some v=>match v.bare with
  |(u,s)=>match f u with
   |some (r,s')=>some (r,s.and s')
   |none=>none
 |none=>none
def qz2(m:Fm)(x y:X)(f:V->V->yN):yN:=Kq m x fun u=>Kq m y fun v=>f u v
def okI(n:Int):Prop:= -9223372036854775808<=n/\n<9223372036854775808
def ad9(a b:Int):Int:=a.fdiv (2 ^ min b.toNat 64)
def abG(op:BinOp):V->V->yN
 | .int a,.int b=>match op with
  | .add=>some (.int (a+b),.yes (okI (a+b)))
  | .sub=>some (.int (a-b),.yes (okI (a-b)))
  | .mul=>some (.int (a*b),.yes (okI (a*b)))
  | .eql=>some (.bool (a==b),.no)
  | .neq=>some (.bool (a !=b),.no)
  | .lss=>some (.bool (decide (a<b)),.no)
  | .leq=>some (.bool (decide (a<=b)),.no)
  | .gtr=>some (.bool (decide (b<a)),.no)
  | .geq=>some (.bool (decide (b<=a)),.no)
  |_=>none
 | .u8 a,.u8 b=>match op with
  | .eql=>some (.bool (a==b),.no)
  | .neq=>some (.bool (a !=b),.no)
  | .lss=>some (.bool (decide (a<b)),.no)
  | .leq=>some (.bool (decide (a<=b)),.no)
  | .gtr=>some (.bool (decide (b<a)),.no)
  | .geq=>some (.bool (decide (b<=a)),.no)
  |_=>none
 | .str a,.str b=>match op with
  | .eql=>some (.bool (a==b),.no)
  | .neq=>some (.bool (!(a==b)),.no)
  | .add=>some (.str (a++b),.yes (a.length+b.length<=9223372036854775807))
  |_=>none
 | .raw (.lit (.int .u64 a)),.raw (.lit (.int .u64 b))=>match op with
  | .shr=>some (.raw (.lit (.int .u64 (ad9 a b))),.yes (0<=b))
  | .and=>some (.raw (.lit (.int .u64 (aa6 .u64 a b))),.no)
  | .rem=>some (.raw (.lit (.int .u64 (a.tmod b))),.yes (b≠0))
  | .eql=>some (.bool (a==b),.no)
  | .geq=>some (.bool (decide (b<=a)),.no)
  |_=>none
 |_,_=>none
def Ag:X->Bool
 | .c (.lit (.bool true))=>true
 |_=>false
def xF:X->Bool
 | .c (.lit (.bool false))=>true
 |_=>false
def aaB(t:Bool)(xa xb:X):V->V->Option V
 | .bool x,.bool y=>bif Ag xa then some (.bool (t||y)) else bif xF xb then some (.bool (t&&x)) else some (.bool (bif t then x else y))
 | .int x,.int y=>some (.int (bif t then x else y))
 | .str x,.str y=>some (.str (bif t then x else y))
 |_,_=>none
def XF(t:Bool)(xa xb:X)(a b:V×Sd):yN :=
 match a,b with
 |(a,sa),(b,sb)=>match aaB t xa xb a b with
  |some v=>some (v,(sa.imp t true).and (sb.imp t false))
  |none=>none
def dB{α:Type}(b:Bool)(x:Option α):Option α:=bif b then x else none
def V.QO(k:Nat):Option V->yN
 |some u=>some (.ref k u,.no)
 |none=>none
def V.F7:Option V->yN
 |some u=>some (u,.no)
 |none=>none
def faZ(h:Hz)(off k:Nat):V->yN
 | .ref kt v=>dB (!(Nat.beq kt 0)&&mZ (bC kt) off k) (V.QO k (v.part off k))
 | .ptr i j o=>dB (h.get i).isSome (some (.ptr i j (o+off),.no))
 |_=>none
def fvZ(off k:Nat)(v:V):yN :=
 match v.kd with
 |some kt=>dB (!(Nat.beq kt 0)&&mZ (bC kt) off k) (V.F7 (v.part off k))
 |none=>none
def abH:List V->Nat->Option V
 |[],_=>none
 |v::_,0=>some v
 |_::r,n+1=>abH r n
def iaZ(h:Hz)(k:Nat):V->V->yN
 | .yQ k' _ l,.int n=>match abH l n.toNat with
  |some v=>dB (Nat.beq k' k) (some (.ref k v,.yes (0<=n)))
  |none=>none
 | .row k' _ r,.int n=>dB (Nat.beq k' k) (some (.ref k (r.get n.toNat),.yes (r.rng n)))
 | .own o,.int n=>match h.get o with
  |some (.row _ k' r [])=>dB (Nat.beq k' k) (some (.ptr o n.toNat 0,.yes (r.rng n)))
  |some (.gen _ k' x)=>dB (Nat.beq k' k) (some (.ptr o n.toNat 0,.yes (0<=n/\n<x.length)))
  |_=>none
 | .ru o lo hi,.int n=>match h.get o with
  |some (.row _ k' _ [])=>dB (Nat.beq k' k) (some (.ptr o (lo+n.toNat) 0,.yes (0<=n/\n<(hi-lo:Nat))))
  |_=>none
 |_,_=>none
def chZ:V->V->yN
 | .str s,.int n=>some (.u8 (s.getD n.toNat 0).toNat,.yes (0<=n/\n<s.length))
 | .str s,.u8 n=>some (.u8 (s.getD n.toNat 0).toNat,.yes (0<=n/\n<s.length))
 |_,_=>none
def ldB(k j off ko:Nat)(v:V):yN :=
 bif Nat.beq j 0 then(bif Nat.beq off 0&&Nat.beq ko k then some (v,.no) else dB (!(Nat.beq ko 0)&&mZ (bC ko) off k) (V.F7 (v.part off k))) else none
def ldR(k j off ko:Nat)(r:Rw):yN :=
 bif Nat.beq off 0&&Nat.beq ko k then some (r.get j,.yes (r.rng j)) else
  match (r.get j).part off k with
  |some u=>dB (!(Nat.beq ko 0)&&mZ (bC ko) off k) (some (u,.yes (r.rng j)))
  |none=>none
def ldZ(h:Hz)(k:Nat):V->yN
 | .ref k' v=>dB (Nat.beq k' k&&Nat.blt 0 (bC k)) (some (v,.no))
 | .ptr i j off=>match h.get i with
  |some (.box _ ko v)=>ldB k j off ko v
  |some (.row _ ko r [])=>ldR k j off ko r
  |_=>none
 |_=>none
def ncZ(h:Hz):V->yN
 | .ref k v=>some (.ref k v,.no)
 | .ptr i j o=>dB (h.get i).isSome (some (.ptr i j o,.no))
 | .fn f l=>some (.fn f l,.no)
 |_=>none
def ZE(h:Hz)(str:Bool):V->yN
 | .row _ _ r=>dB (!str) (some (r.lenV,.no))
 | .yQ _ _ l=>dB (!str) (some (.int l.length,.no))
 | .str s=>dB str (some (.int s.length,.no))
 | .own o=>match h.get o with
  |some (.row _ k r x)=>dB (!str&& !(Nat.beq k eU)) (match x with|[]=>some (r.lenV,.no)|x=>some (.int (r.len+x.length),.no))
  |some (.gen _ k x)=>dB (!str&& !(Nat.beq k eU)) (some (.int x.length,.no))
  |_=>none
 | .ru o lo hi=>dB (!str&&(h.get o).isSome) (some (.int (hi-lo:Nat),.no))
 |_=>none
def mxZ:V->V->yN
 | .int a,.int b=>some (.int (max a b),.no)
 |_,_=>none
def mnZ:V->V->yN
 | .int a,.int b=>some (.int (min a b),.no)
 |_,_=>none
def zF(m:Fm):List X->Option (List V×Sd)
 |[]=>some ([],.no)
 |x::r=>match yI m x,zF m r with
  |some v,some (l,s)=>match v.bare with|(u,s')=>some (u::l,s'.and s)
  |_,_=>none
def SC:List (Nat×Nat×X)->List V->List V->Option (List V)
 |[],[],z=>some z
 |(off,n,_)::ps,v::vs,z=>match v.cells with
  |some c=>dB (Nat.beq c.length n&&Nat.ble (off+n) z.length) (SC ps vs (z.take off++c++z.drop (off+n)))
  |none=>none
 |_,_,_=>none
def A8(h:Hz):List V->Bool
 |[]=>true
 |v::r=>v.jS h&&A8 h r
def mkZ(m:Fm)(h:Hz)(z:List T)(ps:List (Nat×Nat×X)):yN :=
 match zF m (ps.map fun p=>p.2.2) with
 |some (vs,s)=>match SC ps vs (Vu z) with
  |some l=>dB (A8 h vs) (some (.agg l,s))
  |none=>none
 |none=>none
def EW(k:Nat):List V->Bool
 |[]=>true
 |v::r=>(match v.kd with|some k'=>Nat.beq k' k|none=>false)&&EW k r
def XG(n:Nat):List (Nat×X)->List V->List V->Option (List V)
 |[],[],z=>some z
 |(i,_)::ps,v::vs,z=>dB (Nat.blt i n) (XG n ps vs (z.set i v))
 |_,_,_=>none
def msZ(m:Fm)(h:Hz)(k:Nat)(z:T)(n:Nat)(ps:List (Nat×X)):yN :=
 match zF m (ps.map fun p=>p.2) with
 |some (vs,s)=>match XG n ps vs (List.replicate n (Aq z)) with
  |some l=>dB ((z.kd==k)&&z.free&&EW k vs&&A8 h vs&&V.bZ vs&&Nat.ble (n*bC k) 16777216&&Nat.blt 0 (bC k))
    (match Rw.Vu l with
    |some r=>some (.row k true r,s)
    |none=>some (.yQ k true l,s))
  |none=>none
 |none=>none
def kOk(k k':Nat):Rw->Bool
 | .nil=>true
 |_=>Nat.beq k' k
def IG(m:Fm):Option X->Option (Option V×Sd)
 |none=>some (none,.no)
 |some x=>match yI m x with
  |some v=>match v.bare with|(u,s)=>some (some u,s)
  |none=>none
def XH(k k':Nat)(f:Bool)(r:Rw):Option V->Option V->Option V->yN
 |none,none,none=>dB (kOk k k' r) (some (.row k f r,.no))
 |some (.int a),none,none=>dB (kOk k k' r) (some (.row k f (r.drop a.toNat),.yes (r.oK a)))
 |none,some (.int b),none=>dB (kOk k k' r) (some (.row k (f&&decide (b=r.len)) (r.take b.toNat),.yes (r.oK b)))
 |some (.int a),some (.int b),none=>dB (kOk k k' r) (some (.row k false ((r.take b.toNat).drop a.toNat),.yes (0<=a/\a<=b/\r.oK b)))
 |none,some (.int b),some (.int c)=>dB (kOk k k' r) (some (.row k (decide (b=c)) (r.take b.toNat),.yes (0<=b/\b<=c/\r.oK c)))
 |_,_,_=>none
def XI(k i ko:Nat)(r:Rw):Option V->Option V->Option V->yN
 |some (.int a),none,none=>dB (Nat.beq ko k) (some (.ru i a.toNat r.len,.yes (r.oK a)))
 |none,some (.int b),none=>dB (Nat.beq ko k) (some (.ru i 0 b.toNat,.yes (r.oK b)))
 |some (.int a),some (.int b),none=>dB (Nat.beq ko k) (some (.ru i a.toNat b.toNat,.yes (0<=a/\a<=b/\r.oK b)))
 |_,_,_=>none
def QS(k i ko:Nat)(r:Rw)(xs:List V):Option V->Option V->Option V->yN
 |none,some (.int b),none=>dB (Nat.beq ko k) (some (.ru i 0 b.toNat,.yes (r.oK b)))
 |lo,hi,mx=>match xs with|[]=>XI k i ko r lo hi mx|_=>none
def slZ(h:Hz)(x:Bool)(k:Nat)(v:V)(lo hi mx:Option V):yN :=
 match v with
 | .row k' f r=>XH k k' f r lo hi mx
 | .own i=>bif x then(match h.get i with
  |some (.row _ ko r xs)=>QS k i ko r xs lo hi mx
  |_=>none) else none
 |_=>none
def slX(m:Fm)(h:Hz)(b:Bool)(k:Nat)(x:X)(lo hi mx:Option X):yN :=
 Kq m x fun v=>match IG m lo,IG m hi,IG m mx with
  |some (lo,s1),some (hi,s2),some (mx,s3)=>match slZ h b k v lo hi mx with
   |some (u,s)=>some (u,s1.and (s2.and (s3.and s)))
   |none=>none
  |_,_,_=>none
def ssZ(s:Str):Option V->Option V->yN
 |some (.int a),none=>some (.str (s.drop a.toNat),.yes (0<=a/\a<=s.length))
 |none,some (.int b)=>some (.str (s.take b.toNat),.yes (0<=b/\b<=s.length))
 |some (.int a),some (.int b)=>some (.str ((s.take b.toNat).drop a.toNat),.yes (0<=a/\a<=b/\b<=s.length))
 |_,_=>none
def ssX(m:Fm)(x:X)(lo hi:Option X):yN :=
 Kq m x fun v=>match v,IG m lo,IG m hi with
  | .str s,some (lo,s1),some (hi,s2)=>match ssZ s lo hi with
   |some (u,s)=>some (u,s1.and (s2.and s))
   |none=>none
  |_,_,_=>none
def exZ(i:Nat):V->yN
 | .fH l=>match l[i]? with|some v=>some (v,.no)|none=>none
 |_=>none
def abI(ne:Bool)(n:Nat):V->V->yN
 | .dat (.lin x),.dat (.lin y)=>dB (Nat.beq n 4) (some (.bool (bif ne then !(x==y) else x==y),.no))
 | .dat (.Po x),.dat (.Po y)=>dB (Nat.beq n 6) (some (.bool (bif ne then !(x==y) else x==y),.no))
 |_,_=>none
def wX(n:Int):List (Int×List Bool)->Option (List Bool)
 |[]=>none
 |(m,v)::r=>bif n==m then some v else wX n r
def mfZ(m:Fm)(h:Hz)(f:FuncId)(cap:List X):yN :=
 match zF m cap with
 |some (l,s)=>dB (A8 h l&&EW 0 l&&Nat.blt f 4096) (some (.fn f l,s))
 |none=>none
def mbZ(f:FuncId):V->yN
 | .agg l=>dB (Nat.blt f 4096) (some (.fn (f+4096) l,.no))
 | .dat d=>dB (Nat.blt f 4096) (some (.fn (f+4096) d.cells,.no))
 |_=>none
def abJ:V->yN
 | .row _ true r=>some (r.lenV,.no)
 |_=>none
def saZ(n:Nat):V->yN
 | .ref k (.agg l)=>match Rw.Vu l with
  |some r=>dB (Nat.beq k (n+1)&&Nat.beq l.length n&&Nat.blt 0 n) (some (.row 0 true r,.no))
  |none=>none
 |_=>none
def qz(m:Fm)(h:Hz):mO->yN
 | .mv x=>match yI m x with|some v=>some (v,.no)|none=>none
 | .pick c a b=>Kq m c fun c=>match c,yI m a,yI m b with
  | .bool t,some va,some vb=>XF t a b va.bare vb.bare
  |_,_,_=>none
 | .bin op x y=>qz2 m x y (abG op)
 | .bb ne x y=>qz2 m x y fun x y=>match x,y with
  | .bool a,.bool b=>some (.bool (bif ne then !(a==b) else a==b),.no)
  |_,_=>none
 | .not x=>Kq m x fun v=>match v with| .bool b=>some (.bool !b,.no)|_=>none
 | .conv .i64 x=>Kq m x fun v=>match v with
  | .int n=>some (.int n,.yes (okI n))
  | .u8 n=>some (.int n,.yes (okI n))
  | .raw (.lit (.int .u64 n))=>some (.int n,.yes (okI n))
  |_=>none
 | .conv .u64 x=>Kq m x fun v=>match v with
  | .int n=>some (.raw (.lit (.int .u64 n)),.yes (0<=n/\n<18446744073709551616))
  | .raw (.lit (.int .i64 n))=>some (.raw (.lit (.int .u64 (IntKind.u64.wrap n))),.no)
  |_=>none
 | .conv .u8 x=>Kq m x fun v=>match v with
  | .raw (.lit (.int .u64 n))=>some (.u8 n,.yes (0<=n/\n<256))
  |_=>none
 | .fa off k x=>Kq m x (faZ h off k)
 | .fv off k x=>Kq m x (fvZ off k)
 | .ia k x i=>qz2 m x i (iaZ h k)
 | .ch x i=>qz2 m x i chZ
 | .ld k x=>Kq m x (ldZ h k)
 | .nc x=>Kq m x (ncZ h)
 | .len s x=>Kq m x (ZE h s)
 | .mx x y=>qz2 m x y mxZ
 | .mn x y=>qz2 m x y mnZ
 | .mk z ps=>mkZ m h z ps
 | .ms _ k z n ps=>msZ m h k z n ps
 | .sl k x lo hi mx=>slX m h false k x lo hi mx
 | .Pm k x lo hi mx=>slX m h true k x lo hi mx
 | .ss x lo hi=>ssX m x lo hi
 | .ex x i=>Kq m x (exZ i)
 | .mf f cap=>mfZ m h f cap
 | .eqs ne n x y=>qz2 m x y (abI ne n)
 | .Le x=>Kq m x abJ
 | .mb f x=>Kq m x (mbZ f)
 | .sa n x=>Kq m x (saZ n)
 |_=>none
theorem aaC(b:ByteArray):eS b.data.toList= .lit (.string b):=by
 unfold eS bs; simp
mutual
theorem wo:(t:T)->(Aq t).aI=t
 | .lit v=>by
  cases v with
  |int k n=>cases k<;>simp[Aq,V.aI]
  |bool b=>simp[Aq,V.aI]
  |string b=>simp only[Aq,V.aI]; exact aaC b
  |_=>simp[Aq,V.aI]
 | .agg l=>by simp only[Aq,V.aI]; rw[yA l]
 | .sl k f l=>by cases l<;>simp[Aq,V.aI,Rw.aX]
 | .ref k t=>by simp[Aq,V.aI]
 | .own i=>by simp[Aq,V.aI]
 | .ptr i j k=>by simp[Aq,V.aI]
 | .ru i j k=>by simp[Aq,V.aI]
 | .fn f l=>by simp only[Aq,V.aI]; rw[yA l]
 | .fH l=>by simp[Aq,V.aI]
 | .any=>by simp[Aq,V.aI]
theorem yA:(l:List T)->V.aX (Vu l)=l
 |[]=>rfl
 |t::r=>by simp only[Vu,V.aX]; rw[wo t,yA r]
end
theorem jM(l:List V):V.aX l=l.map V.aI:=by
 induction l with
 |nil=>rfl
 |cons v r ih=>simp[V.aX,ih]
theorem dR(l:List V):(V.aX l).length=l.length:=by rw[jM]; simp
theorem vI(a b:List V):V.aX (a++b)=V.aX a++V.aX b:=by simp[jM]
theorem II(a:List V)(n:Nat):V.aX (a.take n)=(V.aX a).take n:=by simp[jM]
theorem IJ(a:List V)(n:Nat):V.aX (a.drop n)=(V.aX a).drop n:=by simp[jM]
def Rp(m:Fm)(fr:List T):Prop:= ∀ i v,m.get i=some v->fr[i]? =some v.aI
theorem Rp.getD{m:Fm}{fr:List T}(R:Rp m fr){i:Nat}{v:V}{d:T}(h:m.get i=some v):fr.getD i d=v.aI:=by
 rw[List.getD_eq_getElem?_getD,R i v h]; rfl
theorem Rp.ev{m:Fm}{s:AS}(R:Rp m s.fr){x:X}{v:V}(h:yI m x=some v):s.ev x=v.aI:=by
 cases x with
 |t n=>exact R.getD h
 |c t=>simp only[yI,Option.some.injEq] at h; subst h; exact(wo t).symm
theorem dF{v u:V}{s:Sd}(h:v.bare=(u,s))(hs:s.holds):v.aI=u.aI:=by
 unfold V.bare at h
 split at h
 ·cases h; simp only[Sd.holds] at hs; simp[V.aI,hs]
 ·cases h; rfl
theorem Sd.kX{a b:Sd}:(a.and b).holds↔a.holds/\b.holds:=by cases a<;>cases b<;>simp[Sd.and,Sd.holds]
theorem Sd.Kr{t b:Bool}{s:Sd}:(s.imp t b).holds↔(t=b->s.holds):=by cases s<;>simp[Sd.imp,Sd.holds]
theorem jO{m:Fm}{s:AS}(R:Rp m s.fr){x:X}{f:V->yN}{r:V}{sd:Sd}(h:Kq m x f=some (r,sd))(hs:sd.holds): ∃ u s',f u=some (r,s')/\s'.holds/\s.ev x=u.aI:=by
 unfold Kq at h
 split at h
 ·rename_i v hv
  split at h
  rename_i u s0 hb
  split at h
  ·rename_i r' s' hf
   cases h
   rw[Sd.kX] at hs
   exact⟨u,s',hf,hs.2,by rw[R.ev hv,dF hb hs.1]⟩
  ·cases h
 ·cases h
theorem yB{m:Fm}{s:AS}(R:Rp m s.fr){x y:X}{f:V->V->yN}{r:V}{sd:Sd}(h:qz2 m x y f=some (r,sd))(hs:sd.holds): ∃ u v s',f u v=some (r,s')/\s'.holds/\s.ev x=u.aI/\s.ev y=v.aI:=by
 obtain⟨u,s',h1,h2,h3⟩:=jO R h hs
 obtain⟨v,s'',h4,h5,h6⟩:=jO R h1 h2
 exact⟨u,v,s'',h4,h5,h3,h6⟩
theorem aT{α:Type}{b:Bool}{x:Option α}{y:α}(h:dB b x=some y):b=true/\x=some y:=by
 cases b<;>simp[dB] at h; exact⟨rfl,h⟩
theorem adb{n:Int}(h1:0<=n)(h2:n<18446744073709551616):IntKind.u64.wrap n=n:=by
 have e:IntKind.u64.wrap n=(if(false&&decide (n % 18446744073709551616>=9223372036854775808))=true then n % 18446744073709551616-18446744073709551616 else n % 18446744073709551616):=rfl
 rw[e]
 simp only[Bool.false_and,Bool.false_eq_true,if_false]
 omega
theorem abK{n:Int}(h1:0<=n)(h2:n<256):IntKind.u8.wrap n=n:=by
 have e:IntKind.u8.wrap n=(if(false&&decide (n % 256>=128))=true then n % 256-256 else n % 256):=rfl
 rw[e]
 simp only[Bool.false_and,Bool.false_eq_true,if_false]
 omega
theorem SE{n:Int}(h:okI n):IntKind.i64.wrap n=n:=wrap64 h.1 h.2
theorem Rw.dP(r:Rw):r.aX.length=r.len:=by cases r<;>simp[Rw.aX,Rw.len]
theorem Rw.LZ(r:Rw):r.lenV= .int r.len:=by cases r<;>rfl
theorem Rw.yC{n:Int}{r:Rw}:r.rng n↔(0<=n/\n<r.len):=by cases r<;>simp[Rw.rng,Rw.len]<;>omega
theorem Rw.sH{n:Int}{r:Rw}:r.oK n↔(0<=n/\n<=r.len):=by cases r<;>simp[Rw.oK,Rw.len]<;>omega
theorem getD_map'{α:Type}{f:α->T}{l:List α}{i:Nat}{d:α}(h:i<l.length):(l.map f).getD i .any=f (l.getD i d):=by
 simp[List.getD_eq_getElem?_getD,h]
theorem Rw.L6{r:Rw}{i:Nat}(h:i<r.len):r.aX.getD i .any=(r.get i).aI:=by
 cases r<;>simp only[Rw.len] at h<;>simp only[Rw.aX,Rw.get,V.aI,Dat.aI,Rw.aX]<;>first|exact getD_map' h|omega
theorem Rw.DL(r:Rw)(n:Nat):(r.take n).aX=r.aX.take n:=by cases r<;>simp[Rw.take,Rw.aX]
theorem Rw.Oy(r:Rw)(n:Nat):(r.drop n).aX=r.aX.drop n:=by cases r<;>simp[Rw.drop,Rw.aX]
theorem Rw.XJ(r:Rw):V.aX r.vs=r.aX:=by
 rw[jM]
 cases r<;>simp[Rw.vs,Rw.aX,V.aI,Dat.aI]
theorem Rw.F8{a b c:Rw}(h:a.app b=some c):c.aX=a.aX++b.aX:=by
 unfold Rw.app at h
 split at h<;>first|(cases h; done)|(cases h; simp[Rw.aX])
theorem V.ZF{v:V}{r:Rw}(h:v.one=some r):r.aX=[v.aI]:=by
 unfold V.one at h
 split at h<;>first|(cases h; done)|(cases h; simp[Rw.aX,V.aI,V.aX,Dat.aI,sZ,XD,tu])
theorem Rw.yA: ∀ {l:List V} {r:Rw},Rw.Vu l=some r->r.aX=V.aX l:=by
 intro l
 induction l with
 |nil=>intro r h; cases h; rfl
 |cons v l ih =>
  intro r h
  simp only[Rw.Vu] at h
  split at h
  ·rename_i a b h1 h2
   rw[Rw.F8 h,V.ZF h1,ih h2]; rfl
  ·cases h
theorem V.L8{v:V}{k:Nat}(h:v.kd=some k):v.aI.kd=k:=by
 cases v with
 |dat d=>cases h; exact Dat.abE d
 |_=>simp only[V.kd,Option.some.injEq,reduceCtorEq] at h<;>subst h<;>simp[V.aI,T.kd,eS,dR]
theorem V.EI{v:V}{l:List V}(h:v.cells=some l):v.aI.cells=V.aX l:=by
 cases v<;>simp only[V.cells,Option.some.injEq,reduceCtorEq] at h<;>subst h<;>simp[V.aI,Dat.EH,T.cells,eS,V.aX]
theorem Hz.xG{h:Hz}{i:Nat}:(h.aj i).isSome=(h.get i).isSome:=by simp[Hz.aj]
theorem V.qA{h:Hz}{v:V}(hv:v.jS h=true):v.aI.jS h.aj=true:=by
 cases v<;>simp only[V.jS,Bool.false_eq_true] at hv<;>simp[V.aI,T.jS,T.xg,eS,Value.oneCell',Hz.xG,hv]
 rename_i d
 cases d<;>rfl
theorem V.XK{h:Hz}{v:V}(hv:v.jS h=true)(hk:v.kd=some 0):v.aI.xg h.aj=true:=by
 cases v<;>simp only[V.jS,Bool.false_eq_true] at hv<;>simp only[V.kd,Option.some.injEq,Nat.succ_ne_zero] at hk<;>simp[V.aI,T.xg,eS,Value.oneCell',Hz.xG,hv]
 rename_i d
 cases d<;>cases hk
theorem Dat.free(d:Dat):d.aI.free=true:=by cases d<;>rfl
mutual
theorem V.lI:(v:V)->v.free=true->v.aI.free=true
 | .int _,_=>by simp[V.aI,T.free]
 | .bool _,_=>by simp[V.aI,T.free]
 | .u8 _,_=>by simp[V.aI,T.free]
 | .str _,_=>by simp[V.aI,T.free,eS]
 | .dat d,_=>by simp only[V.aI]; exact d.free
 | .agg l,h=>by simp only[V.aI,T.free]; simp only[V.free] at h; exact V.gJ l h
 | .row _ _ _,_=>by simp[V.aI,T.free]
 | .yQ _ _ _,_=>by simp[V.aI,T.free]
 | .ref _ _,_=>by simp[V.aI,T.free]
 | .own _,h=>by simp[V.free] at h
 | .inn _,h=>by simp[V.free] at h
 | .pin _ _ _,h=>by simp[V.free] at h
 | .ptr _ _ _,h=>by simp[V.free] at h
 | .ru _ _ _,h=>by simp[V.free] at h
 | .fn _ l,h=>by simp only[V.aI,T.free]; simp only[V.free] at h; exact V.gJ l h
 | .fH l,h=>by simp only[V.aI,T.free]; simp only[V.free] at h; exact V.gJ l h
 | .cnd _ _,h=>by simp[V.free] at h
 | .raw t,h=>by simp only[V.aI]; simpa only[V.free] using h
theorem V.gJ:(l:List V)->V.bZ l=true->T.bZ (V.aX l)=true
 |[],_=>by simp[V.aX,T.bZ]
 |v::r,h=>by
  simp only[V.bZ,Bool.and_eq_true] at h
  simp only[V.aX,T.bZ,Bool.and_eq_true]
  exact⟨V.lI v h.1,V.gJ r h.2⟩
end
theorem wu{l:List V}{i:Nat}{u:V}(h:l[i]? =some u):(V.aX l).getD i .any=u.aI:=by
 rw[jM,List.getD_eq_getElem?_getD,List.getElem?_map,h]; rfl
theorem V.DN{off k:Nat}{v u:V}(h:v.part off k=some u):v.aI.part off k=u.aI:=by
 unfold V.part at h
 split at h
 ·simp only[V.aI,Dat.EH,T.part,T.cells]; exact wu h
 ·simp only[V.aI,T.part,T.cells]; exact wu h
 ·rename_i k x
  cases hb:(Nat.beq off 2)&&(Nat.beq k 4) with
  |false=>rw[hb] at h; cases h
  |true =>
   rw[hb] at h
   simp only[Bool.and_eq_true,Nat.beq_eq] at hb
   obtain⟨rfl,rfl⟩:=hb
   cases h; rfl
 ·cases h
  simp only[V.aI,T.part,T.cells,II,IJ]
 ·cases h
theorem gB{a b:Nat}(h:Nat.beq a b=true):a=b:=Nat.eq_of_beq_eq_true h
section
variable {m:Fm} {h:Hz} {s:AS}
def Ok(s:AS)(op:mO)(v:V):Prop:=qc s op/\qt s op=v.aI
theorem ZG{op:BinOp}{x y:X}{u v r:V}{sd:Sd}(q:abG op u v=some (r,sd))(hs:sd.holds)(h1:s.ev x=u.aI)(h2:s.ev y=v.aI):Ok s (.bin op x y) r:=by
 unfold Ok; simp only[qc,qt]; rw[h1,h2]
 unfold abG at q
 split at q
 ·rename_i a b
  split at q<;>first|(cases q; done)|(cases q; simp only[Sd.holds] at hs; simp[V.aI,Ar,YC,SE,hs])
 ·split at q<;>first|(cases q; done)|(cases q; simp[V.aI,Ar,YC])
 ·split at q
  ·cases q; simp[V.aI,Ar,eS,Af]
  ·cases q; simp[V.aI,Ar,eS,Af]
  ·rename_i a b _
   cases q
   simp only[Sd.holds] at hs
   have hsz:(((bs a).size+(bs b).size:Nat):Int)<=9223372036854775807:=by
    have e1:(bs a).size=a.length:=by simp[bs,ByteArray.size]
    have e2:(bs b).size=b.length:=by simp[bs,ByteArray.size]
    rw[e1,e2]; exact Int.ofNat_le.2 hs
   have hap:bs a++bs b=bs (a++b):=by apply ByteArray.ext; simp[bs]
   have hsz2:((bs a).size:Int)+(bs b).size<=9223372036854775807:=by omega
   simp[V.aI,Ar,eS,hsz2,hap]
  ·cases q
 ·split at q
  ·cases q
   simp only[Sd.holds] at hs
   refine⟨?_,?_⟩
   ·simp only[V.aI,Ar,hs,decide_true,cond_true,Option.isSome]
   ·simp only[V.aI,Ar,hs,decide_true,cond_true]; rfl
  ·cases q; simp[V.aI,Ar,YC]
  ·cases q
   simp only[Sd.holds] at hs
   simp[V.aI,Ar,YC,hs]
  ·cases q; simp[V.aI,Ar,YC]
  ·cases q; simp[V.aI,Ar,YC]
  ·cases q
 ·cases q
theorem QT{x:X}(hx:Ag x=true):x= .c (.lit (.bool true)):=by
 unfold Ag at hx
 split at hx
 ·rfl
 ·cases hx
theorem Oz{x:X}(hx:xF x=true):x= .c (.lit (.bool false)):=by
 unfold xF at hx
 split at hx
 ·rfl
 ·cases hx
theorem XL{c xa xb:X}{t:Bool}{va vb r:V}{sd:Sd}(R:Rp m s.fr)(ha:yI m xa=some va)(hb:yI m xb=some vb)(q:XF t xa xb va.bare vb.bare=some (r,sd))(hs:sd.holds)(hc:s.ev c= .lit (.bool t)):Ok s (.pick c xa xb) r:=by
 unfold Ok; simp only[qc,qt]; rw[hc]
 refine⟨rfl,?_⟩
 unfold XF at q
 split at q
 rename_i a sa b sb ea eb
 split at q
 ·rename_i v hp
  cases q
  rw[Sd.kX,Sd.Kr,Sd.Kr] at hs
  have h1:t=true->s.ev xa=a.aI:=fun e=>by rw[R.ev ha,dF ea (hs.1 e)]
  have h2:t=false->s.ev xb=b.aI:=fun e=>by rw[R.ev hb,dF eb (hs.2 e)]
  unfold aaB at hp
  split at hp
  ·rename_i x y
   have hp':r= .bool (bif Ag xa then t||y else bif xF xb then t&&x else bif t then x else y):=by
    cases e1:Ag xa<;>cases e2:xF xb<;>simp[e1,e2] at hp ⊢ <;>exact hp.symm
   subst hp'
   have key:zf (.lit (.bool t)) (s.ev xa) (s.ev xb)= .lit (.bool (bif t then x else y)):=by
    cases t with
    |true =>
     rw[h1 rfl]; simp only[V.aI,zf]
     split<;>simp_all
    |false =>
     rw[h2 rfl]; simp only[V.aI,zf]
     split<;>simp_all
   rw[key]
   simp only[V.aI]
   congr 2
   cases e1:Ag xa with
   |true =>
    have:=QT e1; subst this
    simp only[yI,Option.some.injEq] at ha; subst ha
    simp only[Aq,V.bare,Prod.mk.injEq] at ea
    have:=ea.1; cases this
    cases t<;>rfl
   |false =>
    cases e2:xF xb with
    |true =>
     have:=Oz e2; subst this
     simp only[yI,Option.some.injEq] at hb; subst hb
     simp only[Aq,V.bare,Prod.mk.injEq] at eb
     have:=eb.1; cases this
     cases t<;>simp
    |false=>rfl
  ·cases hp
   cases t with
   |true=>rw[h1 rfl]; simp only[V.aI,zf,cond_true]
   |false=>rw[h2 rfl]; simp only[V.aI,zf,cond_false]; split<;>simp_all
  ·cases hp
   cases t with
   |true=>rw[h1 rfl]; simp only[V.aI,zf,cond_true,eS]
   |false=>rw[h2 rfl]; simp only[V.aI,zf,cond_false,eS]; split<;>simp_all
  ·cases hp
 ·cases q
theorem QU{k:Nat}{p:Option V}{r:V}{sd:Sd}(q:V.QO k p=some (r,sd)): ∃ u,p=some u/\r= .ref k u:=by
 unfold V.QO at q
 split at q
 ·cases q; exact⟨_,rfl,rfl⟩
 ·cases q
theorem Fb{p:Option V}{r:V}{sd:Sd}(q:V.F7 p=some (r,sd)):p=some r:=by
 unfold V.F7 at q
 split at q
 ·cases q; rfl
 ·cases q
theorem XM{k:Nat}(h:(!(Nat.beq k 0))=true):(!(k==0))=true:=by
 cases k<;>simp_all
theorem abL(hh:s.hp=h.aj){off k:Nat}{x:X}{u r:V}{sd:Sd}(q:faZ h off k u=some (r,sd))(h1:s.ev x=u.aI):Ok s (.fa off k x) r:=by
 unfold Ok; simp only[qc,qt]; rw[h1]
 unfold faZ at q
 split at q
 ·obtain⟨g,q⟩:=aT q
  obtain⟨u,e,rfl⟩:=QU q
  simp only[Bool.and_eq_true] at g
  simp only[V.aI,V.DN e,Bool.and_eq_true]
  exact⟨⟨XM g.1,g.2⟩,trivial⟩
 ·obtain⟨g,q⟩:=aT q
  cases q
  simp only[V.aI,hh,Hz.xG,g,and_self]
 ·cases q
theorem abM{off k:Nat}{x:X}{u r:V}{sd:Sd}(q:fvZ off k u=some (r,sd))(h1:s.ev x=u.aI):Ok s (.fv off k x) r:=by
 unfold Ok; simp only[qc,qt]; rw[h1]
 unfold fvZ at q
 split at q
 ·rename_i kt hk
  obtain⟨g,q⟩:=aT q
  rw[V.L8 hk,V.DN (Fb q)]
  simp only[Bool.and_eq_true] at g ⊢
  exact⟨⟨XM g.1,g.2⟩,trivial⟩
 ·cases q
theorem aH{i:Nat}{o:OV}(e:h.get i=some o):h.aj i=some o.aF:=by simp[Hz.aj,e]
theorem ZH: ∀ {l:List V} {i:Nat} {v:V},abH l i=some v->i<l.length/\(V.aX l).getD i .any=v.aI:=by
 intro l
 induction l with
 |nil=>intro i v h; cases h
 |cons u r ih =>
  intro i v h
  cases i with
  |zero=>cases h; exact⟨Nat.succ_pos _,rfl⟩
  |succ i =>
   obtain⟨a,b⟩:=ih h
   exact⟨Nat.succ_lt_succ a,by simpa [V.aX] using b⟩
theorem XO(hh:s.hp=h.aj){k:Nat}{x i:X}{u v r:V}{sd:Sd}(q:iaZ h k u v=some (r,sd))(hs:sd.holds)(h1:s.ev x=u.aI)(h2:s.ev i=v.aI):Ok s (.ia k x i) r:=by
 unfold Ok; simp only[qc,qt]; rw[h1,h2]
 unfold iaZ at q
 split at q
 ·rename_i k' f l n
  split at q
  ·rename_i v hv
   obtain⟨g,q⟩:=aT q
   cases q
   have:=gB g; subst this
   simp only[Sd.holds] at hs
   obtain⟨a,b⟩:=ZH hv
   simp only[V.aI,WY,dR]
   exact⟨⟨trivial,hs,by omega⟩,by rw[b]⟩
  ·cases q
 ·rename_i k' f w n
  obtain⟨g,q⟩:=aT q
  cases q
  have:=gB g; subst this
  simp only[Sd.holds,Rw.yC] at hs
  simp only[V.aI,WY,Rw.dP]
  refine⟨⟨trivial,hs⟩,?_⟩
  rw[Rw.L6 (by omega)]
 ·rename_i o n
  split at q
  ·rename_i ty k' w e
   obtain⟨g,q⟩:=aT q
   cases q
   have:=gB g; subst this
   simp only[Sd.holds,Rw.yC] at hs
   simp only[V.aI,hh,aH e,OV.aF,V.aX,List.append_nil,WY,Rw.dP]
   exact⟨⟨trivial,hs⟩,trivial⟩
  ·rename_i ty k' x e
   obtain⟨g,q⟩:=aT q
   cases q
   have:=gB g; subst this
   simp only[Sd.holds] at hs
   simp only[V.aI,hh,aH e,OV.aF,WY,dR]
   exact⟨⟨trivial,hs⟩,trivial⟩
  ·cases q
 ·rename_i o lo hi n
  split at q
  ·rename_i ty k' w e
   obtain⟨g,q⟩:=aT q
   cases q
   have:=gB g; subst this
   simp only[Sd.holds] at hs
   simp only[V.aI,hh,aH e,OV.aF,WY]
   exact⟨⟨trivial,hs⟩,trivial⟩
  ·cases q
 ·cases q
theorem abN{x i:X}{u v r:V}{sd:Sd}(q:chZ u v=some (r,sd))(hs:sd.holds)(h1:s.ev x=u.aI)(h2:s.ev i=v.aI):Ok s (.ch x i) r:=by
 unfold Ok; simp only[qc,qt]; rw[h1,h2]
 unfold chZ at q
 split at q
 ·cases q
  simp only[Sd.holds] at hs
  simp only[V.aI,eS,WY,yw,XE]
  exact⟨hs,trivial⟩
 ·cases q
  simp only[Sd.holds] at hs
  simp only[V.aI,eS,WY,yw,XE]
  exact⟨hs,trivial⟩
 ·cases q
theorem QV(hh:s.hp=h.aj){k:Nat}{x:X}{u r:V}{sd:Sd}(q:ldZ h k u=some (r,sd))(hs:sd.holds)(h1:s.ev x=u.aI):Ok s (.ld k x) r:=by
 unfold Ok; simp only[qc,qt]; rw[h1]
 unfold ldZ at q
 split at q
 ·obtain⟨g,q⟩:=aT q
  cases q
  simp only[Bool.and_eq_true] at g
  have:=gB g.1; subst this
  simp[V.aI,g.2]
 ·rename_i i j off
  split at q
  ·rename_i ty ko v e
   simp only[V.aI,hh,aH e,OV.aF]
   unfold ldB at q
   cases hj:Nat.beq j 0 with
   |false=>rw[hj] at q; cases q
   |true =>
    have:=gB hj; subst this
    rw[hj] at q
    simp only[cond_true] at q
    cases hb:(Nat.beq off 0&&Nat.beq ko k) with
    |true =>
     rw[hb] at q; cases q
     simp only[Bool.and_eq_true] at hb
     have e1:=gB hb.1; have e2:=gB hb.2; subst e1; subst e2
     simp
    |false =>
     rw[hb] at q
     simp only[cond_false] at q
     obtain⟨g,q⟩:=aT q
     have hb':(off==0&&ko==k)=false:=by
      rw[Bool.and_eq_false_iff] at hb ⊢
      rcases hb with hb|hb
      ·left; simpa using Nat.ne_of_beq_eq_false hb
      ·right; simpa using Nat.ne_of_beq_eq_false hb
     simp only[hb',cond_false,Bool.false_or,List.getD_cons_zero,V.DN (Fb q),List.length_cons,List.length_nil]
     simp only[Bool.and_eq_true] at g ⊢
     exact⟨⟨by omega,XM g.1,g.2⟩,trivial⟩
  ·rename_i ty ko w e
   simp only[V.aI,hh,aH e,OV.aF,V.aX,List.append_nil]
   unfold ldR at q
   cases hb:(Nat.beq off 0&&Nat.beq ko k) with
   |true =>
    rw[hb] at q; cases q
    simp only[Bool.and_eq_true] at hb
    have e1:=gB hb.1; have e2:=gB hb.2; subst e1; subst e2
    simp only[Sd.holds,Rw.yC] at hs
    have hlt:j<w.len:=by omega
    simp only[BEq.rfl,Bool.and_self,Bool.true_or,cond_true,Rw.dP,Rw.L6 hlt]
    exact⟨⟨hlt,trivial⟩,trivial⟩
   |false =>
    rw[hb] at q
    simp only[cond_false] at q
    split at q
    ·rename_i u hu
     obtain⟨g,q⟩:=aT q
     cases q
     have hb':(off==0&&ko==k)=false:=by
      rw[Bool.and_eq_false_iff] at hb ⊢
      rcases hb with hb|hb
      ·left; simpa using Nat.ne_of_beq_eq_false hb
      ·right; simpa using Nat.ne_of_beq_eq_false hb
     simp only[Sd.holds,Rw.yC] at hs
     have hlt:j<w.len:=by omega
     simp only[hb',cond_false,Bool.false_or,Rw.dP,Rw.L6 hlt,V.DN hu]
     simp only[Bool.and_eq_true] at g ⊢
     exact⟨⟨hlt,XM g.1,g.2⟩,trivial⟩
    ·cases q
  ·cases q
 ·cases q
theorem abO(hh:s.hp=h.aj){x:X}{u r:V}{sd:Sd}(q:ncZ h u=some (r,sd))(h1:s.ev x=u.aI):Ok s (.nc x) r:=by
 unfold Ok; simp only[qc,qt]; rw[h1]
 unfold ncZ at q
 split at q
 ·cases q; simp[V.aI]
 ·obtain⟨g,q⟩:=aT q; cases q; simp[V.aI,hh,Hz.xG,g]
 ·cases q; simp[V.aI]
 ·cases q
theorem SG(hh:s.hp=h.aj){str:Bool}{x:X}{u r:V}{sd:Sd}(q:ZE h str u=some (r,sd))(h1:s.ev x=u.aI):Ok s (.len str x) r:=by
 unfold Ok; simp only[qc,qt]; rw[h1]
 unfold ZE at q
 split at q
 ·obtain⟨g,q⟩:=aT q; cases q
  simp only[Bool.not_eq_true'] at g
  simp[V.aI,Rw.LZ,Rw.dP,g]
 ·obtain⟨g,q⟩:=aT q; cases q
  simp only[Bool.not_eq_true'] at g
  simp[V.aI,dR,g]
 ·obtain⟨g,q⟩:=aT q; cases q
  simp[V.aI,eS,yw,g]
 ·rename_i o
  split at q
  ·rename_i ty k w y e
   obtain⟨g,q⟩:=aT q
   simp only[Bool.and_eq_true,Bool.not_eq_true'] at g
   have hk:k≠eU:=Nat.ne_of_beq_eq_false g.2
   split at q
   ·cases q
    simp only[V.aI,hh,aH e,OV.aF,V.aX,List.append_nil,Rw.LZ,Rw.dP]
    exact⟨⟨g.1,hk⟩,trivial⟩
   ·cases q
    simp only[V.aI,hh,aH e,OV.aF,List.length_append,dR,Rw.dP]
    exact⟨⟨g.1,hk⟩,by simp⟩
  ·rename_i ty k x e
   obtain⟨g,q⟩:=aT q
   cases q
   simp only[Bool.and_eq_true,Bool.not_eq_true'] at g
   simp only[V.aI,hh,aH e,OV.aF,dR]
   exact⟨⟨g.1,Nat.ne_of_beq_eq_false g.2⟩,trivial⟩
  ·cases q
 ·rename_i o lo hi
  obtain⟨g,q⟩:=aT q; cases q
  simp only[Bool.and_eq_true,Bool.not_eq_true'] at g
  simp[V.aI,hh,Hz.xG,g]
 ·cases q
theorem abP{x y:X}{u v r:V}{sd:Sd}(q:mxZ u v=some (r,sd))(h1:s.ev x=u.aI)(h2:s.ev y=v.aI):Ok s (.mx x y) r:=by
 unfold Ok; simp only[qc,qt]; rw[h1,h2]
 unfold mxZ at q
 split at q
 ·rename_i a b
  cases q; simp only[V.aI,true_and]; congr 2; split<;>omega
 ·cases q
theorem abQ{x y:X}{u v r:V}{sd:Sd}(q:mnZ u v=some (r,sd))(h1:s.ev x=u.aI)(h2:s.ev y=v.aI):Ok s (.mn x y) r:=by
 unfold Ok; simp only[qc,qt]; rw[h1,h2]
 unfold mnZ at q
 split at q
 ·rename_i a b
  cases q; simp only[V.aI,true_and]; congr 2; split<;>omega
 ·cases q
theorem abR{i:Nat}{x:X}{u r:V}{sd:Sd}(q:exZ i u=some (r,sd))(h1:s.ev x=u.aI):Ok s (.ex x i) r:=by
 unfold Ok; simp only[qc,qt]; rw[h1]
 unfold exZ at q
 split at q
 ·split at q
  ·rename_i l _ v e
   cases q
   have hi:i<l.length:=(List.getElem?_eq_some_iff.1 e).1
   simp only[V.aI,Nat.blt_eq,dR,wu e]
   exact⟨hi,trivial⟩
  ·cases q
 ·cases q
theorem ZI{ne:Bool}{n:Nat}{x y:X}{u v r:V}{sd:Sd}(q:abI ne n u v=some (r,sd))(h1:s.ev x=u.aI)(h2:s.ev y=v.aI):Ok s (.eqs ne n x y) r:=by
 unfold Ok; simp only[qc,qt]; rw[h1,h2]
 unfold abI at q
 split at q
 ·rename_i x y
  obtain⟨g,q⟩:=aT q; cases q
  have:=gB g; subst this
  have e:rG [.int x.c,.int x.n,.int x.t,.int x.f] [.int y.c,.int y.n,.int y.t,.int y.f]=(x==y):=by
   cases x; cases y; simp[rG,BEq.beq]
  simp only[V.aI,Dat.aI,QM,e]
  exact⟨rfl,trivial⟩
 ·rename_i x y
  obtain⟨g,q⟩:=aT q; cases q
  have:=gB g; subst this
  have e:rG [.int x.message,.int x.DK,.int x.bound.c,.int x.bound.n,.int x.bound.t,.int x.bound.f] [.int y.message,.int y.DK,.int y.bound.c,.int y.bound.n,.int y.bound.t,.int y.bound.f]=(x==y):=by
   obtain⟨a,b,c,d,e,f⟩:=x; obtain⟨a',b',c',d',e',f'⟩:=y; simp[rG,BEq.beq]
  simp only[V.aI,Dat.aI,Ou,e]
  exact⟨rfl,trivial⟩
 ·cases q
theorem abS{n:Nat}{x:X}{u r:V}{sd:Sd}(q:saZ n u=some (r,sd))(h1:s.ev x=u.aI):Ok s (.sa n x) r:=by
 unfold Ok; simp only[qc,qt]; rw[h1]
 unfold saZ at q
 split at q
 ·rename_i k l
  split at q
  ·rename_i w hw
   obtain⟨g,q⟩:=aT q; cases q
   simp only[V.aI,dR]
   exact⟨g,by rw[Rw.yA hw]⟩
  ·cases q
 ·cases q
theorem ZJ{x:X}{u r:V}{sd:Sd}(q:abJ u=some (r,sd))(h1:s.ev x=u.aI):Ok s (.Le x) r:=by
 unfold Ok; simp only[qc,qt]; rw[h1]
 unfold abJ at q
 split at q
 ·cases q; simp[V.aI,Rw.LZ,Rw.dP]
 ·cases q
end
section
variable {m:Fm} {h:Hz} {s:AS}
theorem qE(R:Rp m s.fr): ∀ {xs:List X} {l:List V} {sd:Sd},zF m xs=some (l,sd)->sd.holds->xs.map s.ev=V.aX l:=by
 intro xs
 induction xs with
 |nil=>intro l sd q _; cases q; rfl
 |cons x r ih =>
  intro l sd q hs
  simp only[zF] at q
  split at q
  ·rename_i v l' s' h1 h2
   cases q
   rw[Sd.kX] at hs
   simp only[List.map_cons,V.aX]
   rw[R.ev h1,dF (v:=v) (u:=v.bare.1) (s:=v.bare.2) rfl hs.1,ih h2 hs.2]
  ·cases q
theorem EJ: ∀ {l:List V},A8 h l=true->uS h.aj (V.aX l)=true:=by
 intro l
 induction l with
 |nil=>intro _; rfl
 |cons v r ih =>
  intro q
  simp only[A8,Bool.and_eq_true] at q
  simp only[V.aX,uS,Bool.and_eq_true]
  exact⟨V.qA q.1,ih q.2⟩
theorem F9{k:Nat}: ∀ {l:List V},EW k l=true-> ∀ v∈l,v.kd=some k:=by
 intro l
 induction l with
 |nil=>intro _ v hv; cases hv
 |cons u r ih =>
  intro q v hv
  simp only[EW,Bool.and_eq_true] at q
  rcases List.mem_cons.1 hv with rfl|hv
  ·have:=q.1
   split at this
   ·rename_i k' e; rw[e,gB this]
   ·cases this
  ·exact ih q.2 v hv
theorem UU: ∀ {l:List V},A8 h l=true->EW 0 l=true->x8 h.aj (V.aX l)=true:=by
 intro l
 induction l with
 |nil=>intro _ _; rfl
 |cons v r ih =>
  intro q k
  have hk:=F9 k v (by simp)
  simp only[A8,EW,Bool.and_eq_true] at q k
  simp only[V.aX,x8,Bool.and_eq_true]
  exact⟨V.XK q.1 hk,ih q.2 k.2⟩
theorem XP: ∀ {ps:List (Nat×Nat×X)} {vs z l:List V},SC ps vs z=some l->(ps.map fun p=>s.ev p.2.2)=V.aX vs ->
  En (V.aX z) (ps.map fun p=>(p.1,p.2.1,s.ev p.2.2))=true/\oh (V.aX z) (ps.map fun p=>(p.1,p.2.1,s.ev p.2.2))=V.aX l:=by
 intro ps
 induction ps with
 |nil =>
  intro vs z l q he
  cases vs with
  |nil=>cases q; exact⟨rfl,rfl⟩
  |cons v vs=>simp[V.aX] at he
 |cons p ps ih =>
  intro vs z l q he
  obtain⟨off,n,x⟩:=p
  cases vs with
  |nil=>simp[V.aX] at he
  |cons v vs =>
   simp only[SC] at q
   split at q
   ·rename_i c hc
    obtain⟨g,q⟩:=aT q
    simp only[List.map_cons,V.aX,List.cons.injEq] at he
    simp only[Bool.and_eq_true] at g
    have e1:=gB g.1
    obtain⟨i1,i2⟩:=ih q he.2
    simp only[List.map_cons,En,oh,Bool.and_eq_true]
    have ec:(s.ev x).cells=V.aX c:=by rw[he.1]; exact V.EI hc
    simp only[vI,II,IJ] at i1 i2
    simp only[ec,dR]
    refine⟨⟨⟨by simpa using e1,g.2⟩,i1⟩,i2⟩
   ·cases q
theorem abT(R:Rp m s.fr)(hh:s.hp=h.aj){z:List T}{ps:List (Nat×Nat×X)}{r:V}{sd:Sd}(q:mkZ m h z ps=some (r,sd))(hs:sd.holds):Ok s (.mk z ps) r:=by
 unfold mkZ at q
 split at q
 ·rename_i vs s' hb
  split at q
  ·rename_i l hl
   obtain⟨g,q⟩:=aT q
   cases q
   have he:=qE R hb hs
   have he':(ps.map fun p=>s.ev p.2.2)=V.aX vs:=by rw[<- he]; simp
   obtain⟨i1,i2⟩:=XP hl he'
   rw[yA] at i1 i2
   unfold Ok; simp only[qc,qt]
   rw[i1,i2,he',hh,EJ g]
   exact⟨rfl,rfl⟩
  ·cases q
 ·cases q
theorem SH{k n:Nat}: ∀ {ps:List (Nat×X)} {vs z l:List V},XG n ps vs z=some l->(ps.map fun p=>s.ev p.2)=V.aX vs->EW k vs=true ->
  Hr k n (ps.map fun p=>(p.1,s.ev p.2))=true/\qg (V.aX z) (ps.map fun p=>(p.1,s.ev p.2))=V.aX l:=by
 intro ps
 induction ps with
 |nil =>
  intro vs z l q he _
  cases vs with
  |nil=>cases q; exact⟨rfl,rfl⟩
  |cons v vs=>simp[V.aX] at he
 |cons p ps ih =>
  intro vs z l q he hk
  obtain⟨i,x⟩:=p
  cases vs with
  |nil=>simp[V.aX] at he
  |cons v vs =>
   simp only[XG] at q
   obtain⟨g,q⟩:=aT q
   simp only[List.map_cons,V.aX,List.cons.injEq] at he
   have hkv:=F9 hk v (by simp)
   simp only[EW,Bool.and_eq_true] at hk
   obtain⟨i1,i2⟩:=ih q he.2 hk.2
   have e:V.aX (z.set i v)=(V.aX z).set i (s.ev x):=by rw[he.1]; simp[jM,List.map_set]
   rw[e] at i2
   simp only[List.map_cons,Hr,qg,Bool.and_eq_true]
   refine⟨⟨⟨?_,g⟩,i1⟩,i2⟩
   rw[he.1,V.L8 hkv]; simp
theorem abU(R:Rp m s.fr)(hh:s.hp=h.aj){ty k:Nat}{z:T}{n:Nat}{ps:List (Nat×X)}{r:V}{sd:Sd}(q:msZ m h k z n ps=some (r,sd))(hs:sd.holds):Ok s (.ms ty k z n ps) r:=by
 unfold msZ at q
 split at q
 ·rename_i vs s' hb
  split at q
  ·rename_i l hl
   obtain⟨g,q⟩:=aT q
   have hs':s'.holds/\r.aI= .sl k true (V.aX l):=by
    split at q
    ·rename_i w hw
     cases q; exact⟨hs,by simp only[V.aI]; rw[Rw.yA hw]⟩
    ·cases q; exact⟨hs,rfl⟩
   have he:=qE R hb hs'.1
   have he':(ps.map fun p=>s.ev p.2)=V.aX vs:=by rw[<- he]; simp
   simp only[Bool.and_eq_true] at g
   obtain⟨⟨⟨⟨⟨⟨g1,g2⟩,g3⟩,g4⟩,g5⟩,g6⟩,g7⟩:=g
   obtain⟨i1,i2⟩:=SH hl he' g3
   have e:V.aX (List.replicate n (Aq z))=List.replicate n z:=by rw[jM,List.map_replicate,wo]
   rw[e] at i2
   unfold Ok; simp only[qc,qt]
   rw[i1,i2,he',hh,EJ g4,V.gJ _ g5,g1,g2,g6,g7,hs'.2]
   exact⟨rfl,rfl⟩
  ·cases q
 ·cases q
theorem zG(R:Rp m s.fr){x:Option X}{v:Option V}{sd:Sd}(q:IG m x=some (v,sd))(hs:sd.holds):x.map s.ev=v.map V.aI:=by
 cases x with
 |none=>cases q; rfl
 |some x =>
  simp only[IG] at q
  split at q
  ·rename_i u hu
   cases q
   simp only[Option.map_some]; rw[R.ev hu,dF (v:=u) (u:=u.bare.1) (s:=u.bare.2) rfl hs]
  ·cases q
theorem EK{k k':Nat}{r:Rw}(g:kOk k k' r=true):k'=k\/r.aX=[]:=by
 unfold kOk at g
 split at g
 ·exact .inr rfl
 ·exact .inl (gB g)
theorem OA{k k':Nat}{f:Bool}{w:Rw}{lo hi mx:Option V}{r:V}{sd:Sd}(q:XH k k' f w lo hi mx=some (r,sd))(hs:sd.holds) :
  YD k (.sl k' f w.aX) (lo.map V.aI) (hi.map V.aI) (mx.map V.aI)/\NR k (.sl k' f w.aX) (lo.map V.aI) (hi.map V.aI) (mx.map V.aI)=r.aI:=by
 unfold XH at q
 split at q
 ·obtain⟨g,q⟩:=aT q; cases q
  simp only[Option.map_none,YD,NR,V.aI]
  exact⟨EK g,trivial⟩
 ·obtain⟨g,q⟩:=aT q; cases q
  simp only[Sd.holds,Rw.sH] at hs
  simp only[Option.map_none,Option.map_some,YD,NR,V.aI,Rw.Oy,Rw.dP]
  exact⟨⟨EK g,hs⟩,trivial⟩
 ·obtain⟨g,q⟩:=aT q; cases q
  simp only[Sd.holds,Rw.sH] at hs
  simp only[Option.map_none,Option.map_some,YD,NR,V.aI,Rw.DL,Rw.dP]
  exact⟨⟨EK g,hs⟩,trivial⟩
 ·obtain⟨g,q⟩:=aT q; cases q
  simp only[Sd.holds,Rw.sH] at hs
  simp only[Option.map_none,Option.map_some,YD,NR,V.aI,Rw.DL,Rw.Oy,Rw.dP]
  exact⟨⟨EK g,hs.1,hs.2.1,hs.2.2.2⟩,trivial⟩
 ·obtain⟨g,q⟩:=aT q; cases q
  simp only[Sd.holds,Rw.sH] at hs
  simp only[Option.map_none,Option.map_some,YD,NR,V.aI,Rw.DL,Rw.dP]
  exact⟨⟨EK g,hs.1,hs.2.1,hs.2.2.2⟩,trivial⟩
 ·cases q
theorem XQ{k i ty ko:Nat}{w:Rw}{lo hi mx:Option V}{r:V}{sd:Sd}(q:XI k i ko w lo hi mx=some (r,sd))(hs:sd.holds) :
  C9 k ⟨ty,ko,w.aX⟩ (lo.map V.aI) (hi.map V.aI) (mx.map V.aI)/\yE i ⟨ty,ko,w.aX⟩ (lo.map V.aI) (hi.map V.aI) (mx.map V.aI)=r.aI:=by
 unfold XI at q
 split at q
 ·obtain⟨g,q⟩:=aT q; cases q
  simp only[Sd.holds,Rw.sH] at hs
  simp only[Option.map_none,Option.map_some,C9,yE,V.aI,Rw.dP]
  exact⟨⟨gB g,hs⟩,trivial⟩
 ·obtain⟨g,q⟩:=aT q; cases q
  simp only[Sd.holds,Rw.sH] at hs
  simp only[Option.map_none,Option.map_some,C9,yE,V.aI,Rw.dP]
  exact⟨⟨gB g,hs⟩,trivial⟩
 ·obtain⟨g,q⟩:=aT q; cases q
  simp only[Sd.holds,Rw.sH] at hs
  simp only[Option.map_none,Option.map_some,C9,yE,V.aI,Rw.dP]
  exact⟨⟨gB g,hs.1,hs.2.1,hs.2.2.2⟩,trivial⟩
 ·cases q
theorem UW{k i ty ko:Nat}{w:Rw}{xs:List V}{lo hi mx:Option V}{r:V}{sd:Sd}(q:QS k i ko w xs lo hi mx=some (r,sd))(hs:sd.holds) :
  C9 k ⟨ty,ko,w.aX++V.aX xs⟩ (lo.map V.aI) (hi.map V.aI) (mx.map V.aI)/\yE i ⟨ty,ko,w.aX++V.aX xs⟩ (lo.map V.aI) (hi.map V.aI) (mx.map V.aI)=r.aI:=by
 unfold QS at q
 split at q
 ·obtain⟨g,q⟩:=aT q; cases q
  simp only[Sd.holds,Rw.sH] at hs
  simp only[Option.map_none,Option.map_some,C9,yE,V.aI]
  refine⟨⟨gB g,hs.1,?_⟩,trivial⟩
  have:=hs.2
  simp only[List.length_append,Rw.dP]; omega
 ·split at q
  ·simp only[V.aX,List.append_nil]; exact XQ q hs
  ·cases q
theorem SI(R:Rp m s.fr){b:Bool}{k:Nat}{x:X}{lo hi mx:Option X}{r:V}{sd:Sd}(q:slX m h b k x lo hi mx=some (r,sd))(hs:sd.holds) :
  ∃ v lo' hi' mx' s',slZ h b k v lo' hi' mx'=some (r,s')/\s'.holds/\s.ev x=v.aI/\lo.map s.ev=lo'.map V.aI/\hi.map s.ev=hi'.map V.aI/\mx.map s.ev=mx'.map V.aI:=by
 obtain⟨v,s',q,hs,hv⟩:=jO R q hs
 split at q
 ·rename_i lo' s1 hi' s2 mx' s3 e1 e2 e3
  split at q
  ·rename_i u s4 e4
   cases q
   rw[Sd.kX,Sd.kX,Sd.kX] at hs
   exact⟨v,lo',hi',mx',s4,e4,hs.2.2.2,hv,zG R e1 hs.1,zG R e2 hs.2.1,zG R e3 hs.2.2.1⟩
  ·cases q
 ·cases q
theorem ade(R:Rp m s.fr){k:Nat}{x:X}{lo hi mx:Option X}{r:V}{sd:Sd}(q:slX m h false k x lo hi mx=some (r,sd))(hs:sd.holds):Ok s (.sl k x lo hi mx) r:=by
 obtain⟨v,lo',hi',mx',s',q,hs,hv,e1,e2,e3⟩:=SI R q hs
 unfold Ok; simp only[qc,qt]; rw[hv,e1,e2,e3]
 unfold slZ at q
 split at q
 ·exact OA q hs
 ·cases q
 ·cases q
theorem abV(R:Rp m s.fr)(hh:s.hp=h.aj){k:Nat}{x:X}{lo hi mx:Option X}{r:V}{sd:Sd}(q:slX m h true k x lo hi mx=some (r,sd))(hs:sd.holds):Ok s (.Pm k x lo hi mx) r:=by
 obtain⟨v,lo',hi',mx',s',q,hs,hv,e1,e2,e3⟩:=SI R q hs
 unfold Ok; simp only[qc,qt]; rw[hv,e1,e2,e3]
 unfold slZ at q
 split at q
 ·exact OA q hs
 ·simp only[cond_true] at q
  split at q
  ·rename_i i _ ty ko w xs e
   simp only[V.aI,hh,aH e,OV.aF]
   exact UW q hs
  ·cases q
 ·cases q
theorem BN{t:Str}{a b:Nat}(hab:a<=b)(_hb:b<=t.length):(bs t).extract a b=bs ((t.take b).drop a):=by
 apply ByteArray.ext
 have h1:((bs t).extract a b).data=(bs t).data.extract a b:=ByteArray.data_extract
 rw[h1]
 apply Array.ext'
 simp[bs,List.extract,List.take_drop]
 rw[show a+(b-a)=b by omega]
theorem adf(R:Rp m s.fr){x:X}{lo hi:Option X}{r:V}{sd:Sd}(q:ssX m x lo hi=some (r,sd))(hs:sd.holds):Ok s (.ss x lo hi) r:=by
 obtain⟨v,s',q,hs,hv⟩:=jO R q hs
 split at q
 ·rename_i t lo' s1 hi' s2 e1 e2
  split at q
  ·rename_i u s4 e4
   cases q
   rw[Sd.kX,Sd.kX] at hs
   have f1:=zG R e1 hs.1
   have f2:=zG R e2 hs.2.1
   unfold Ok; simp only[qc,qt]; rw[hv,f1,f2]
   have hs4:=hs.2.2
   unfold ssZ at e4
   split at e4
   ·cases e4
    simp only[Sd.holds] at hs4
    simp only[Option.map_none,Option.map_some,V.aI,eS,yw]
    refine⟨hs4,?_⟩
    rw[BN (by omega) (Nat.le_refl _)]; simp
   ·cases e4
    simp only[Sd.holds] at hs4
    simp only[Option.map_none,Option.map_some,V.aI,eS,yw]
    refine⟨hs4,?_⟩
    rw[BN (by omega) (by omega)]; simp
   ·cases e4
    simp only[Sd.holds] at hs4
    simp only[Option.map_some,V.aI,eS,yw]
    refine⟨hs4,?_⟩
    rw[BN (by omega) (by omega)]
   ·cases e4
  ·cases q
 ·cases q
theorem abW(R:Rp m s.fr)(hh:s.hp=h.aj){f:FuncId}{cap:List X}{r:V}{sd:Sd}(q:mfZ m h f cap=some (r,sd))(hs:sd.holds):Ok s (.mf f cap) r:=by
 unfold mfZ at q
 split at q
 ·rename_i l s' hb
  obtain⟨g,q⟩:=aT q
  cases q
  simp only[Bool.and_eq_true] at g
  unfold Ok; simp only[qc,qt]
  rw[qE R hb hs,hh,UU g.1.1 g.1.2,g.2]
  exact⟨rfl,rfl⟩
 ·cases q
theorem abX{f:FuncId}{x:X}{v r:V}{sd:Sd}(q:mbZ f v=some (r,sd))(h1:s.ev x=v.aI):Ok s (.mb f x) r:=by
 unfold mbZ at q
 split at q
 ·obtain⟨g,q⟩:=aT q; cases q
  unfold Ok; simp only[qc,qt]; rw[h1]; exact⟨Nat.blt_eq.mp g,rfl⟩
 ·obtain⟨g,q⟩:=aT q; cases q
  rename_i d
  unfold Ok; simp only[qc,qt]; rw[h1]; simp only[V.aI]; rw[Dat.EH]; exact⟨Nat.blt_eq.mp g,rfl⟩
 ·cases q
theorem XR(R:Rp m s.fr)(hh:s.hp=h.aj){op:mO}{r:V}{sd:Sd}(q:qz m h op=some (r,sd))(hs:sd.holds):bH op=true/\Ok s op r:=by
 unfold qz at q
 split at q
 ·split at q
  ·rename_i v e; cases q
   exact⟨rfl,trivial,R.ev e⟩
  ·cases q
 ·obtain⟨c,s',q,hs,hc⟩:=jO R q hs
  split at q
  ·rename_i t va vb e1 e2
   exact⟨rfl,XL R e1 e2 q hs hc⟩
  ·cases q
 ·obtain⟨u,v,s',q,hs,h1,h2⟩:=yB R q hs
  exact⟨rfl,ZG q hs h1 h2⟩
 ·obtain⟨u,v,s',q,hs,h1,h2⟩:=yB R q hs
  split at q
  ·cases q; refine⟨rfl,?_⟩; unfold Ok; simp only[qc,qt]; rw[h1,h2]; exact⟨rfl,rfl⟩
  ·cases q
 ·obtain⟨u,s',q,hs,h1⟩:=jO R q hs
  split at q
  ·cases q; refine⟨rfl,?_⟩; unfold Ok; simp only[qc,qt]; rw[h1]; exact⟨rfl,rfl⟩
  ·cases q
 ·obtain⟨u,s',q,hs,h1⟩:=jO R q hs
  split at q
  ·cases q; refine⟨rfl,?_⟩; unfold Ok; simp only[qc,qt]; rw[h1]; simp only[V.aI,true_and]; rw[SE hs]
  ·cases q; refine⟨rfl,?_⟩; unfold Ok; simp only[qc,qt]; rw[h1]; simp only[V.aI,true_and]; rw[SE hs]
  ·cases q; refine⟨rfl,?_⟩; unfold Ok; simp only[qc,qt]; rw[h1]; simp only[V.aI,true_and]; rw[SE hs]
  ·cases q
 ·obtain⟨u,s',q,hs,h1⟩:=jO R q hs
  split at q
  ·cases q; refine⟨rfl,?_⟩; unfold Ok; simp only[qc,qt]; rw[h1]; simp only[V.aI,true_and]; rw[adb hs.1 hs.2]
  ·cases q; refine⟨rfl,?_⟩; unfold Ok; simp only[qc,qt]; rw[h1]; exact⟨trivial,rfl⟩
  ·cases q
 ·obtain⟨u,s',q,hs,h1⟩:=jO R q hs
  split at q
  ·cases q; refine⟨rfl,?_⟩; unfold Ok; simp only[qc,qt]; rw[h1]; simp only[V.aI,true_and]; rw[abK hs.1 hs.2]
  ·cases q
 ·obtain⟨u,s',q,hs,h1⟩:=jO R q hs; exact⟨rfl,abL hh q h1⟩
 ·obtain⟨u,s',q,hs,h1⟩:=jO R q hs; exact⟨rfl,abM q h1⟩
 ·obtain⟨u,v,s',q,hs,h1,h2⟩:=yB R q hs; exact⟨rfl,XO hh q hs h1 h2⟩
 ·obtain⟨u,v,s',q,hs,h1,h2⟩:=yB R q hs; exact⟨rfl,abN q hs h1 h2⟩
 ·obtain⟨u,s',q,hs,h1⟩:=jO R q hs; exact⟨rfl,QV hh q hs h1⟩
 ·obtain⟨u,s',q,hs,h1⟩:=jO R q hs; exact⟨rfl,abO hh q h1⟩
 ·obtain⟨u,s',q,hs,h1⟩:=jO R q hs; exact⟨rfl,SG hh q h1⟩
 ·obtain⟨u,v,s',q,hs,h1,h2⟩:=yB R q hs; exact⟨rfl,abP q h1 h2⟩
 ·obtain⟨u,v,s',q,hs,h1,h2⟩:=yB R q hs; exact⟨rfl,abQ q h1 h2⟩
 ·exact⟨rfl,abT R hh q hs⟩
 ·exact⟨rfl,abU R hh q hs⟩
 ·exact⟨rfl,ade R q hs⟩
 ·exact⟨rfl,abV R hh q hs⟩
 ·exact⟨rfl,adf R q hs⟩
 ·obtain⟨u,s',q,hs,h1⟩:=jO R q hs; exact⟨rfl,abR q h1⟩
 ·exact⟨rfl,abW R hh q hs⟩
 ·obtain⟨u,v,s',q,hs,h1,h2⟩:=yB R q hs; exact⟨rfl,ZI q h1 h2⟩
 ·obtain⟨u,s',q,hs,h1⟩:=jO R q hs; exact⟨rfl,ZJ q h1⟩
 ·obtain⟨u,s',q,hs,h1⟩:=jO R q hs; exact⟨rfl,abX q h1⟩
 ·obtain⟨u,s',q,hs,h1⟩:=jO R q hs; exact⟨rfl,abS q h1⟩
 ·cases q
end
structure ah(P:Program)(dr:Bool)(g:Option Bool)(f:FuncId)(args:List V)(h:Hz)(n:Nat)(K:V->Hz->Prop)(KW:Nat->V->Hz->Prop):Prop where
 ok:(match g with
  |none=>aP P f (V.aX args) h.aj n fun t hp=> ∃ v h',t=v.aI/\hp=h'.aj/\(dr=true->h'=h/\t.free=true)/\K v h'
  |some b=>(∃ v,(b=true->aP P f (V.aX args) h.aj n fun t hp=>t=v.aI/\hp=h.aj)/\v.free=true/\K v h) \/
   (dr=false/\(b=true->aP P f (V.aX args) h.aj n fun t hp=> ∃ v h',t=v.aI/\hp=h'.aj/\K v h')/\(b=false->K (.int 0) h))) \/
  (g=none/\dr=false/\ ∃ k,kF P f (V.aX args) h.aj n k fun t hp=> ∃ v h',t=v.aI/\hp=h'.aj/\KW k v h') \/
  (g=none/\dr=true/\h.get n=none/\aP P f (V.aX args) h.aj n fun t hp=> ∃ v o,t=v.aI/\hp=Hz.aj ((n,some o)::h)/\KW 0 v ((n,some o)::h))
structure Nv(P:Program)(f:FuncId)(args:List V)(h:Hz)(n:Nat)(K:V->Hz->Prop):Prop where
 ok: ∃ (v:V) (o:Option OV),v.aI.ids (fun i=>i=n)/\(∀ ob,o=some ob->T.bZ ob.aF.l=true) /\
  (∀ hp:Hp,(∀ i ob,h.aj i=some ob->hp i=some ob)->aP P f (V.aX args) hp n fun t' h'=>t'=v.aI/\h'=gu hp n (o.map OV.aF)) /\
  K v (match o with|none=>h|some o=>(n,some o)::h)
structure adg(P:Program)(f:FuncId)(cap args:List V)(h:Hz)(n:Nat)(K:V->Hz->Prop):Prop where
 ok:HY P (.fn f (V.aX cap)) (V.aX args) h.aj n fun t hp=> ∃ v h',t=v.aI/\hp=h'.aj/\K v h'
def aea(dr:Bool)(g:Option Bool)(a b:Prop):Prop :=
 match dr with
 |true=>False
 |false=>match g with
  |none=>a
  |some c=>Fork c a b
def BO(dr fl:Bool)(a b c:Prop):Prop :=
 match dr with
 |false=>a
 |true=>match fl with
  |false=>b
  |true=>c
inductive VR(p a b:Prop):Prop where
 |mk:(p->a)->b->VR p a b
inductive aaU(o:Option (List Bool))(yes:List Bool->Prop)(no:Prop):Prop where
 |mk:(∀ l,o=some l->yes l)->(o=none->no)->aaU o yes no
def V.seq(v:V)(K:V->Prop):Prop :=
 match v with
 | .int n=>K (.int n)
 | .bool b=>K (.bool b)
 | .u8 n=>K (.u8 n)
 | .str s=>K (.str s)
 | .dat d=>K (.dat d)
 | .agg l=>K (.agg l)
 | .row k f r=>K (.row k f r)
 | .yQ k f l=>K (.yQ k f l)
 | .ref k v=>K (.ref k v)
 | .own i=>K (.own i)
 | .inn i=>K (.inn i)
 | .pin i j o=>K (.pin i j o)
 | .ptr i j o=>K (.ptr i j o)
 | .ru i a b=>K (.ru i a b)
 | .fn f l=>K (.fn f l)
 | .fH l=>K (.fH l)
 | .cnd b v=>K (.cnd b v)
 | .raw t=>K (.raw t)
theorem V.seq_eq(v:V)(K:V->Prop):v.seq K=K v:=by cases v<;>rfl
def gy(d:Option Nat)(v:V)(m:Fm):Fm :=
 match d with
 |some d=>(d,v)::m
 |none=>m
def rF:Option Bool->V->V
 |none,v=>v
 |some b,.cnd c v=>.cnd (b&&c) v
 |some b,v=>.cnd b v
theorem EL(v:V):(rF (some true) v).aI=v.aI:=by cases v<;>rfl
theorem QW(v:V):(rF (some false) v).aI=T.un:=by cases v<;>rfl
def QX(m:Fm):Option (Nat×Bool)->Option (Option Bool)
 |none=>some none
 |some (g,w)=>match m.get g with
  |some (.bool b)=>some (some (bif w then b else !b))
  |some (.cnd c (.bool b))=>some (some (c&&(bif w then b else !b)))
  |_=>none
def ltX(nx:Nat)(m:Fm):List X->Bool
 |[]=>true
 |x::r=>(match yI m x with|some v=>T.lt nx v.aI|none=>false)&&ltX nx m r
def XT(nx:Nat)(m:Fm):mO->Bool
 | .st _ x _=>match yI m x with|some v=>T.newer nx v.aI|none=>false
 | .app _ _ _ x _=>match yI m x with|some v=>T.newer nx v.aI|none=>false
 | .NQ _ _ _=>false
 | .Qk _ _ _=>false
 | .call _ _=>true
 | .jD _ _=>true
 |op=>ltX nx m op.xs
def ZK(i:Nat)(m:Fm):List X->Bool
 |[]=>true
 |x::r=>(match yI m x with|some v=>T.nid i v.aI|none=>false)&&ZK i m r
def neB(m:Fm)(xs:List X):List Nat->Bool
 |[]=>true
 |d::r=>(bif Nat.blt d 1000000 then(match m.get d with|some (.ptr i _ _)=>ZK i m xs|_=>false)
   else bif Nat.beq d 1000000 then ltX 10000 m xs else(match xs with|x::_=>(match yI m x with|some v=>T.newer 10000 v.aI|none=>false)|[]=>false))&&neB m xs r
def Fe(nx:Nat)(o:aN)(m:Fm):Bool:=(!o.fl||XT nx m o.op)&&neB m o.op.xs o.ne
def isZero:V->Bool
 | .int (.ofNat 0)=>true
 |_=>false
def Tz(n:Nat):T->Option Rw
 | .lit (.int .i64 z)=>some (.ints (List.replicate n z))
 | .lit (.bool z)=>some (.bools (List.replicate n z))
 | .lit (.string z)=>some (.strs (List.replicate n z.data.toList))
 |_=>none
def Rw.set(j:Nat)(v:V)(r:Rw):Option Rw :=
 match r,v with
 | .ints l,.int n=>some (.ints (l.set j n))
 | .bools l,.bool n=>some (.bools (l.set j n))
 | .strs l,.str n=>some (.strs (l.set j n))
 | .rules l,.dat (.rule n)=>some (.rules (l.set j n))
 | .clauses l,.dat (.clause n)=>some (.clauses (l.set j n))
 | .elems l,.dat (.elem n)=>some (.elems (l.set j n))
 | .jT l,.row 0 false (.ints n)=>some (.jT (l.set j n))
 | .mF l,.row 0 false (.bools n)=>some (.mF (l.set j n))
 | .mG l,.row 0 false (.jT n)=>some (.mG (l.set j n))
 |_,_=>none
def abY(h:Hz)(k:Nat):V->Option (Rw×List V)
 | .row k' _ r=>dB (kOk k k' r) (some (r,[]))
 | .yQ k' _ l=>dB (Nat.beq k' k) (some (.nil,l))
 | .own o=>match h.get o with
  |some (.row _ ko r x)=>dB (Nat.beq ko k) (some (r,x))
  |_=>none
 |_=>none
def abZ(r:Rw)(x:List V)(r':Rw)(x':List V):Option (Rw×List V) :=
 match x,r' with
 |[],r'=>match r.app r' with|some w=>some (w,x')|none=>none
 |x,.nil=>some (r,x++x')
 |_,_=>none
def nO(r:Rw)(x:List V):Nat :=
 match x with
 |[]=>r.len
 |x=>r.len+x.length
def kQ(bytes:Nat)(a b:Nat):Prop:=(a+b)*bytes<=140737488355328/\a+b<=1152921504606846976
def setCells(v:V)(off:Nat)(u:V):Option V :=
 match v.cells,u.cells with
 |some l,some c=>some (.agg (l.take off++c++l.drop (off+c.length)))
 |_,_=>none
def L9:List V->(List V->Prop)->Prop
 |[],K=>K []
 |v::r,K=>L9 r fun r'=>K (v::r')
def V.force(v:V)(K:V->Prop):Prop :=
 match v with
 | .agg l=>L9 l fun l=>K (.agg l)
 |v=>K v
theorem UY: ∀ {l:List V} {K:List V->Prop},L9 l K=K l:=by
 intro l
 induction l with
 |nil=>intro K; rfl
 |cons v r ih=>intro K; show L9 r (fun r'=>K (v::r'))=_; rw[ih]
theorem V.force_eq(v:V)(K:V->Prop):v.force K=K v:=by
 cases v<;>first|rfl|exact UY
structure Qb(c p a b:Prop):Prop where
 ok:(c\/b)/\p/\a
theorem Qb.one{c p a b:Prop}(h:c/\p)(k:a):Qb c p a b:=⟨.inl h.1,h.2,k⟩
theorem Qb.both{c p a b:Prop}(h:p)(k:a)(l:b):Qb c p a b:=⟨.inr l,h,k⟩
structure AtZ(y:List V)(j:Nat)(K:V->Prop):Prop where
 ok: ∃ v,y[j]? =some v/\K v
structure InZ(h:Hz)(i:Nat)(K:Nat->Rw->Prop):Prop where
 ok: ∃ ty k r,h.get i=some (.row ty k r [])/\K k r
structure aeb(h:Hz)(i j k:Nat)(v:V)(K:Hz->Prop):Prop where
 ok: ∃ ty r r' h',h.get i=some (.row ty k r [])/\r.set j v=some r'/\r.rng j/\h'.aj=upd h.aj i (some (OV.row ty k r' []).aF)/\K h'
structure adh(h:Hz)(i ty k:Nat)(K:Rw->Hz->Prop):Prop where
 ok: ∃ r h',h.get i=some (.row ty k r [])/\h'.aj=upd h.aj i none/\K r h'
def ZL(dr:Bool)(d:Option Nat)(n:Nat)(m:Fm)(h:Hz)(K:Fm->Hz->Prop):mO->Prop
 | .box ty k x=>match yI m x with
  |some v=>match v.bare with
   |(v,s)=>bif EW k [v]&&v.jS h&&yg k then s.vc none (K (gy d (.ptr n 0 0) m) ((n,some (.box ty k v))::h)) else False
  |none=>False
 | .al ty k z=>bif z.kd==k&&z.jS h.aj&&z.free&&yg k then K (gy d (.ptr n 0 0) m) ((n,some (.box ty k (Aq z)))::h) else False
 | .make ty k bytes z x y=>match yI m x,yI m y with
  |some (.int a),some (.int b)=>bif z.kd==k&&z.jS h.aj&&z.free&&yg k then
    (match (bif isZero (.int a) then some .nil else Tz a.toNat z) with
    |some r=>VC (0<=a/\a<=b/\b*bytes<=140737488355328/\b<=1152921504606846976) (K (gy d (.own n) m) ((n,some (.row ty k r []))::h))
    |none=>VC (0<=a/\a<=b/\b*bytes<=140737488355328/\b<=1152921504606846976) (K (gy d (.own n) m) ((n,some (.gen ty k (List.replicate a.toNat (Aq z))))::h))) else False
  |_,_=>False
 | .st k x v=>match yI m x,yI m v with
  |some (.ptr i j off),some v=>match v.bare with
   |(v,s)=>bif EW k [v]&&v.jS h then
    (match h.get i with
    |some (.box ty ko w)=>bif Nat.beq j 0 then
      (bif Nat.beq off 0&&Nat.beq ko k then s.vc none (K m ((i,some (.box ty ko v))::h))
      else bif !(Nat.beq ko 0)&&mZ (bC ko) off k then(match setCells w off v with
       |some w'=>w'.force fun w'=>s.vc none (K m ((i,some (.box ty ko w'))::h))
       |none=>False) else False) else False
    |some (.row ty ko r [])=>bif Nat.beq off 0&&Nat.beq ko k then(match r.set j v with
      |some r'=>s.vc none (VC (r.rng j) (K m ((i,some (.row ty ko r' []))::h)))
      |none=>s.vc none (VC (r.rng j) (K m ((i,some (.gen ty ko (r.vs.set j v)))::h)))) else False
    |some (.gen ty ko y)=>bif Nat.beq off 0&&Nat.beq ko k then s.vc none (VC (j<y.length) (K m ((i,some (.gen ty ko (y.set j v)))::h))) else False
    |_=>False) else False
  |some x,some v=>(match x.bare with
   |(.pin i j off,s0)=>match v.bare with
    |(v,s)=>bif EW k [v]&&v.jS h&&Nat.beq off 0 then(s0.and s).vc none (aeb h i j k v fun h'=>K m h') else False
   |_=>False)
  |_,_=>False
 | .ld k x=>match yI m x with
  |some v=>(match v.bare with
   |(.ptr i j off,s)=>(match h.get i with
    |some (.gen _ ko y)=>bif Nat.beq off 0&&Nat.beq ko k then s.vc none (AtZ y j fun v=>v.seq fun v=>K (gy d v m) h) else False
    |_=>False)
   |(.pin i j off,s)=>s.vc none (InZ h i fun ko r=>match ldR k j off ko r with
    |some (v,s')=>s'.vc none (v.seq fun v=>K (gy d v m) h)
    |none=>False)
   |_=>False)
  |none=>False
 | .ia k x i=>match yI m x,yI m i with
  |some v,some w=>(match v.bare,w.bare with
   |(.inn o,s),(.int n,s')=>(s.and s').vc none (InZ h o fun ko r=>bif Nat.beq ko k then VC (r.rng n) (K (gy d (.pin o n.toNat 0) m) h) else False)
   |_,_=>False)
  |_,_=>False
 | .len str x=>match yI m x with
  |some v=>(match v.bare with
   |(.inn o,s)=>s.vc none (InZ h o fun ko r=>bif !str&& !(Nat.beq ko eU) then r.lenV.seq fun v=>K (gy d v m) h else False)
   |_=>False)
  |none=>False
 | .app ty k bytes x y=>match yI m x,yI m y with
  |some x,some y=>match abY h k y with
   |some (r',x')=>(match x with
    | .row _ true .nil=>VC (kQ bytes 0 (nO r' x')) (K (gy d (.own n) m) ((n,some (.row ty k r' x'))::h))
    | .row k' true r=>bif Nat.beq k' k then(match r.app r' with
     |some w=>Qb (r.len=0\/0<nO r' x') (kQ bytes r.len (nO r' x')) (K (gy d (.own n) m) ((n,some (.row ty k w x'))::h)) (dr=false/\K (gy d (.row k' true r) m) h)
     |none=>False) else False
    | .own i=>(match h.get i with
     |some (.row ty' ko r x)=>bif Nat.beq ko k&&Nat.beq ty' ty then(match abZ r x r' x' with
      |some (w,z)=>VC (kQ bytes (nO r x) (nO r' x')) (K (gy d (.own n) m) ((n,some (.row ty k w z))::(i,none)::h))
      |none=>False) else False
     |some (.gen ty' ko y)=>bif Nat.beq ko k&&Nat.beq ty' ty then VC (kQ bytes y.length (nO r' x')) (K (gy d (.own n) m) ((n,some (.gen ty k (y++(r'.vs++x'))))::(i,none)::h)) else False
     |_=>False)
    | .inn i=>adh h i ty k fun r h'=>match r.app r' with
     |some w=>VC (kQ bytes r.len (nO r' x')) (K (gy d (.own n) m) ((n,some (.row ty k w x'))::h'))
     |none=>False
    |_=>False)
   |none=>False
  |_,_=>False
 | .Qk k z x=>match yI m x with
  |some (.ru i lo hi)=>match h.get i with
   |some (.row ty ko r [])=>bif Nat.beq ko k&&z.kd==k&&z.jS h.aj&&z.free then
     VC (lo<=hi/\hi=r.len) (match d with
      |none=>K m ((i,some (.row ty ko (r.take lo) (List.replicate (hi-lo) (Aq z))))::h)
      |some _=>K (gy d (.raw T.un) m) ((i,some (.row ty ko (r.take lo) (List.replicate (hi-lo) (Aq z))))::h)) else False
   |_=>False
  |_=>False
 | .FI ty k z nn ps=>match zF m (ps.map fun p=>p.2) with
  |some (vs,s)=>match XG nn ps vs (List.replicate nn (Aq z)) with
   |some l=>bif (z.kd==k)&&z.free&&EW k vs&&A8 h vs&&Nat.ble (nn*bC k) 16777216&&yg k then s.vc none (K (gy d (.own n) m) ((n,some (.row ty k .nil l))::h)) else False
   |none=>False
  |none=>False
 | .y9 x=>match yI m x with
  |some (.row _ _ r)=>VR (r.len=0) (K (gy d (.bool true) m) h) (K (gy d (.bool false) m) h)
  |some (.own i)=>match h.get i with
   |some (.row _ ko r [])=>bif Nat.beq ko eU then False else VR (r.len=0) (K (gy d (.bool true) m) h) (K (gy d (.bool false) m) h)
   |_=>False
  |_=>False
 | .Um ty=>K (gy d (.own n) m) ((n,some (.map ty [] []))::h)
 | .Za z x i=>match yI m x,yI m i with
  |some (.own o),some (.int k)=>match h.get o with
   |some (.map _ es [])=>aaU (wX k es) (fun l=>K (gy d (.fH [.row 0 false (.bools l),.bool true]) m) h) (K (gy d (.fH [Aq z,.bool false]) m) h)
   |_=>False
  |_,_=>False
 | .NQ x i v=>match yI m x,yI m i,yI m v with
  |some (.own o),some (.int k),some v=>match v.bare with
   |(v,s)=>match h.get o with
    |some (.map ty es [])=>bif EW 0 [v]&&v.jS h then s.vc none (VC (wX k es=none) (K m ((o,some (.map ty es [(k,v)]))::h))) else False
    |_=>False
  |_,_,_=>False
 |_=>False
def phZ:mO->V
 | .not _=>.bool false
 |_=>.int 0
def ab1(P:Program)(dr:Bool)(nx n:Nat)(o:aN)(KK:Nat->Fm->Hz->Prop)(m:Fm)(h:Hz):Prop :=
 match QX m o.g with
 |none=>False
 |some g=>bif Fe nx o m then
   (match o.op with
   | .call f xs=>(match zF m xs with
    |some (l,s)=>s.vc g (match g with
     |none=>BO dr o.fl (ah P false none f l h n (fun v h'=>v.seq fun v=>KK 0 (gy o.d v m) h') (fun k v h'=>v.seq fun v=>KK k (gy o.d v m) h')) (ah P true none f l h n (fun v h'=>v.seq fun v=>KK 0 (gy o.d v m) h') (fun _ _ _=>False)) (ah P false none f l h n (fun v h'=>v.seq fun v=>KK 0 (gy o.d v m) h') (fun _ _ _=>False))
     |some b=>BO dr o.fl (ah P false (some b) f l h n (fun v h'=>v.seq fun v=>KK 0 (gy o.d (rF (some b) v) m) h') (fun _ _ _=>False)) (ah P true (some b) f l h n (fun v h'=>v.seq fun v=>KK 0 (gy o.d (rF (some b) v) m) h') (fun _ _ _=>False)) (ah P false (some b) f l h n (fun v h'=>v.seq fun v=>KK 0 (gy o.d (rF (some b) v) m) h') (fun _ _ _=>False)))
    |none=>False)
   | .jD x xs=>(match yI m x,zF m xs with
    |some v,some (l,s)=>(match v.bare with
     |(.fn f cap,s0)=>(s0.and s).vc g (bif Nat.blt f 4096 then BO dr o.fl (ah P false g f (l++cap) h n (fun v h'=>v.seq fun v=>KK 0 (gy o.d (rF g v) m) h') (fun _ _ _=>False)) (ah P true g f (l++cap) h n (fun v h'=>v.seq fun v=>KK 0 (gy o.d (rF g v) m) h') (fun _ _ _=>False)) (ah P false g f (l++cap) h n (fun v h'=>v.seq fun v=>KK 0 (gy o.d (rF g v) m) h') (fun _ _ _=>False)) else bif Nat.blt f 8192 then BO dr o.fl (ah P false g (f % 4096) (.agg cap::l) h n (fun v h'=>v.seq fun v=>KK 0 (gy o.d (rF g v) m) h') (fun _ _ _=>False)) (ah P true g (f % 4096) (.agg cap::l) h n (fun v h'=>v.seq fun v=>KK 0 (gy o.d (rF g v) m) h') (fun _ _ _=>False)) (ah P false g (f % 4096) (.agg cap::l) h n (fun v h'=>v.seq fun v=>KK 0 (gy o.d (rF g v) m) h') (fun _ _ _=>False)) else aea dr g (adg P f cap l h n (fun v h'=>v.seq fun v=>KK 0 (gy o.d v m) h')) (KK 0 (gy o.d (.cnd false (.int 0)) m) h))
     |_=>False)
    |_,_=>False)
   |op=>(match qz m h op with
    |some (v,s)=>s.vc g (v.seq fun v=>KK 0 (gy o.d (rF g v) m) h)
    |none=>(match g with
     |none=>ZL dr o.d n m h (KK 0) op
     |some b=>Fork b (ZL dr o.d n m h (KK 0) op) (KK 0 (gy o.d (.cnd false (phZ op)) m) h))))
   else False
def adZ(P:Program)(nx n:Nat)(o:aN)(KK:Nat->Fm->Hz->Prop)(m:Fm)(h:Hz):Prop :=
 match o.op,o.g with
 | .call f xs,none=>bif o.fl&&Fe nx o m then
   (match zF m xs with
   |some (l,s)=>s.vc none (ah P true none f l h n (fun v h'=>v.seq fun v=>KK 0 (gy o.d v m) h') (fun _ v h'=>v.seq fun v=>KK 0 (gy o.d v m) h'))
   |none=>False)
   else False
 |_,_=>False
def arZ(P:Program)(nx n:Nat)(o:aN)(KK:Nat->Fm->Hz->Prop)(m:Fm)(h:Hz):Prop :=
 match o.op,o.g with
 | .call f xs,none=>bif o.fl&&Fe nx o m then
   (match zF m xs with
   |some (l,s)=>s.vc none (Nv P f l h n (fun v h'=>v.seq fun v=>KK 0 (gy o.d v m) h'))
   |none=>False)
   else False
 |_,_=>False
def opZ(P:Program)(dr:Bool)(nx n:Nat)(o:aN)(KK:Nat->Fm->Hz->Prop)(m:Fm)(h:Hz):Prop :=
 match o.ar with
 |true=>arZ P nx n o KK m h
 |false=>match o.ad with
 |true=>adZ P nx n o KK m h
 |false=>ab1 P dr nx n o KK m h
def OB(P:Program)(dr:Bool)(ml:Nat)(nx:Nat)(K:Fm->Hz->Nat->Prop):List aN->Nat->Fm->Hz->Prop
 |[],_,m,h=>K m h (nx+ml)
 |o::r,i,m,h=>opZ P dr nx (nx+i) o (fun k=>OB P dr ml (nx+k) K r (i+1)) m h
abbrev Qz:=oZ->Fm->Hz->Nat->Prop
def Lift(N pn:Nat)(Q:Qz)(e:oZ)(s:AS):Prop:= ∃ m h,s.fr.length=N/\Rp m s.fr/\s.hp=h.aj/\s.pin=pn/\Q e m h s.nx
structure aQ(P:Program)(N pn:Nat)(b:fO)(Q:Qz)(m:Fm)(h:Hz)(nx:Nat):Prop where
 ok: ∀ fr,fr.length=N->Rp m fr->yF (aw P b) (Lift N pn Q) ⟨fr,h.aj,nx,pn⟩
def az(P:Program)(N pn:Nat):fO->Qz->Fm->Hz->Nat->Prop
 | .skip,Q,m,h,nx=>Q .normal m h nx
 | .reg dr ops,Q,m,h,nx=>OB P dr ops.length nx (fun m h nx=>Q .normal m h nx) ops 0 m h
 | .seq a b,Q,m,h,nx=>az P N pn a (fun e m h nx=>match e with| .normal=>az P N pn b Q m h nx|e=>Q e m h nx) m h nx
 | .cond c a b,Q,m,h,nx =>
  match yI m c with
  |some (.bool t)=>Fork t (az P N pn a Q m h nx) (az P N pn b Q m h nx)
  |_=>False
 | .blk id b,Q,m,h,nx=>az P N pn b (fun e m h nx=>match e with| .exit j=>(bif Nat.beq j id then Q .normal m h nx else Q (.exit j) m h nx)|e=>Q e m h nx) m h nx
 | .exit id,Q,m,h,nx=>Q (.exit id) m h nx
 | .ret,Q,m,h,nx=>Q .ret m h nx
 | .loop b,Q,m,h,nx=>aQ P N pn b Q m h nx
def Mc(N:Nat):List aN->Bool
 |[]=>true
 |o::r=>(match o.d with|some d=>Nat.blt d N|none=>true)&&Mc N r
def qQ(N:Nat):fO->Bool
 | .skip=>true
 | .reg _ ops=>Mc N ops
 | .seq a b=>qQ N a&&qQ N b
 | .cond _ a b=>qQ N a&&qQ N b
 | .blk _ b=>qQ N b
 | .exit _=>true
 | .ret=>true
 | .loop b=>qQ N b
section
variable {P:Program} {m:Fm} {h:Hz}
theorem aY{i:Nat}{o:Option OV}:Hz.aj ((i,o)::h)=upd h.aj i (o.map OV.aF):=by
 funext j
 simp only[Hz.aj,Hz.get,upd]
 by_cases e:j=i
 ·subst e; simp
 ·have:Nat.beq i j=false:=by
   cases hb:Nat.beq i j with
   |false=>rfl
   |true=>exact absurd (gB hb).symm e
  simp[this,e]
theorem Rp.put{fr:List T}(R:Rp m fr){d:Option Nat}{v:V}(hd: ∀ i,d=some i->i<fr.length){s:AS}(hs:s.fr=fr):Rp (gy d v m) (s.put d v.aI).fr:=by
 subst hs
 cases d with
 |none=>exact R
 |some d =>
  intro i u hu
  simp only[gy,Fm.get] at hu
  show(s.fr.set d v.aI)[i]? =_
  cases hb:Nat.beq d i with
  |true =>
   rw[hb] at hu; simp at hu; subst hu
   have:=gB hb; subst this
   rw[List.getElem?_set_self (hd d rfl)]
  |false =>
   rw[hb] at hu
   have hne:d≠i:=Nat.ne_of_beq_eq_false hb
   rw[List.getElem?_set_ne hne]
   exact R i u hu
theorem SK{s:AS}{d:Option Nat}{t:T}:(s.put d t).fr.length=s.fr.length:=by cases d<;>simp[AS.put]
theorem jZ{g:Option Bool}{k:Prop}{s:Sd}(q:s.vc g k):((g=none\/g=some true)->s.holds)/\k:=by
 unfold Sd.vc at q
 split at q
 ·exact⟨fun _=>trivial,q⟩
 ·split at q
  ·obtain⟨a,b⟩:=q; exact⟨fun _=>a,b⟩
  ·obtain⟨a,b⟩:=q; exact⟨fun hg=>a (by rcases hg with e|e<;>cases e; rfl),b⟩
theorem UZ{s:AS}(R:Rp m s.fr){g:Option (Nat×Bool)}{g':Option Bool}(q:QX m g=some g'):(gv g s=some true/\(g'=none\/g'=some true))\/(gv g s=some false/\g'=some false):=by
 unfold QX at q
 split at q
 ·cases q; exact .inl ⟨rfl,.inl rfl⟩
 ·rename_i d w
  split at q
  ·rename_i b e
   cases q
   have hg:s.fr.getD d .any= .lit (.bool b):=R.getD e
   simp only[gv,hg]
   cases w<;>cases b<;>simp
  ·rename_i c b e
   cases q
   have hg:s.fr.getD d .any=bif c then .lit (.bool b) else T.un:=R.getD e
   cases c with
   |true=>simp only[gv,hg,cond_true]; cases w<;>cases b<;>simp
   |false=>simp only[gv,hg,cond_false]; simp
  ·cases q
theorem SL{s:AS}(R:Rp m s.fr){nx:Nat}: ∀ {xs:List X},ltX nx m xs=true->(xs.all fun x=>T.lt nx (s.ev x))=true:=by
 intro xs
 induction xs with
 |nil=>intro _; rfl
 |cons x r ih =>
  intro q
  simp only[ltX,Bool.and_eq_true] at q
  simp only[List.all_cons,Bool.and_eq_true]
  refine⟨?_,ih q.2⟩
  have:=q.1
  split at this
  ·rename_i v e; rw[R.ev e]; exact this
  ·cases this
theorem XU{s:AS}(R:Rp m s.fr){i:Nat}: ∀ {xs:List X},ZK i m xs=true->(xs.all fun x=>T.nid i (s.ev x))=true:=by
 intro xs
 induction xs with
 |nil=>intro _; rfl
 |cons x r ih =>
  intro q
  simp only[ZK,Bool.and_eq_true] at q
  simp only[List.all_cons,Bool.and_eq_true]
  refine⟨?_,ih q.2⟩
  have:=q.1
  split at this
  ·rename_i v e; rw[R.ev e]; exact this
  ·cases this
theorem ab2{s:AS}(R:Rp m s.fr){xs:List X}: ∀ {l:List Nat},neB m xs l=true->Et s xs l=true:=by
 intro l
 induction l with
 |nil=>intro _; rfl
 |cons d r ih =>
  intro q
  simp only[neB,Bool.and_eq_true] at q
  simp only[Et,Bool.and_eq_true]
  refine⟨?_,ih q.2⟩
  have:=q.1
  cases h1:Nat.blt d 1000000 with
  |true =>
   rw[h1,cond_true] at this
   rw[cond_true]
   split at this
   ·rename_i i j o e
    have hg:s.fr.getD d .any= .ptr i j o:=R.getD e
    simp only[AS.obj,hg]
    exact XU R this
   ·cases this
  |false =>
   rw[h1,cond_false] at this
   rw[cond_false]
   cases h2:Nat.beq d 1000000 with
   |true=>rw[h2,cond_true] at this; rw[cond_true]; exact SL R this
   |false =>
    rw[h2,cond_false] at this
    rw[cond_false]
    cases xs with
    |nil=>cases this
    |cons x l =>
     simp only at this ⊢
     split at this
     ·rename_i v e; rw[R.ev e]; exact this
     ·cases this
theorem IK{s:AS}(R:Rp m s.fr){o:aN}(q:Fe s.nx o m=true):iV o s:=by
 unfold Fe at q
 simp only[Bool.and_eq_true,Bool.or_eq_true,Bool.not_eq_true'] at q
 refine⟨fun hf=>?_,ab2 R q.2⟩
 have h1:XT s.nx m o.op=true:=by
  rcases q.1 with h|h
  ·rw[hf] at h; cases h
  ·exact h
 unfold XT at h1
 split at h1
 ·rename_i k x v e
  rw[e]
  split at h1
  ·rename_i u hu; simp only; rw[R.ev hu]; exact h1
  ·cases h1
 ·rename_i e
  rw[e]
  split at h1
  ·rename_i u hu; simp only; rw[R.ev hu]; exact h1
  ·cases h1
 ·cases h1
 ·cases h1
 ·rename_i e; rw[e]
 ·rename_i e; rw[e]
 ·rename_i op h2 h3 h4 h5 h6 h7
  have:=SL R h1
  split
  ·rename_i e; exact absurd e (h2 _ _ _)
  ·rename_i e; exact absurd e (h3 _ _ _ _ _)
  ·rename_i e; exact absurd e (h4 _ _ _)
  ·rename_i e; exact absurd e (h5 _ _ _)
  ·rfl
  ·rfl
  ·exact this
def Kz(N pn nx:Nat)(K:Fm->Hz->Prop)(s:AS):Prop:= ∃ m h,s.fr.length=N/\Rp m s.fr/\s.hp=h.aj/\s.pin=pn/\s.nx=nx/\K m h
theorem Md{k:Nat}{v:V}(q:EW k [v]=true):v.aI.kd=k:=V.L8 (F9 q v (by simp))
theorem ZM{n:Nat}{z:T}{r:Rw}(q:Tz n z=some r):r.aX=List.replicate n z:=by
 unfold Tz at q
 split at q<;>cases q
 ·simp[Rw.aX]
 ·simp[Rw.aX]
 ·simp only[Rw.aX,List.map_replicate]; rw[aaC]
theorem Rw.SN{j:Nat}{v:V}{r w:Rw}(q:r.set j v=some w):w.aX=r.aX.set j v.aI:=by
 unfold Rw.set at q
 split at q<;>first|(cases q; done)|(cases q; simp[Rw.aX,V.aI,Dat.aI,List.map_set])
theorem ZN{k:Nat}{y:V}{r:Rw}{x:List V}(q:abY h k y=some (r,x)):Qm h.aj k y.aI= .list (r.aX++V.aX x):=by
 unfold abY at q
 split at q
 ·rename_i k' f w
  obtain⟨g,q⟩:=aT q; cases q
  simp only[V.aI,Qm,V.aX,List.append_nil]
  rcases EK g with rfl|e
  ·cases r.aX<;>simp
  ·rw[e]
 ·rename_i k' f l
  obtain⟨g,q⟩:=aT q; cases q
  have:=gB g; subst this
  simp only[V.aI,Qm,Rw.aX,List.nil_append]
  cases hx:V.aX x<;>simp
 ·split at q
  ·rename_i o _ ty ko w z e
   obtain⟨g,q⟩:=aT q; cases q
   have:=gB g; subst this
   simp[V.aI,Qm,aH e,OV.aF]
  ·cases q
 ·cases q
theorem xH{r:Rw}{x:List V}:nO r x=(r.aX++V.aX x).length:=by
 unfold nO
 split
 ·simp[V.aX,Rw.dP]
 ·simp[dR,Rw.dP]
theorem ZO{r r' w:Rw}{x x' z:List V}(q:abZ r x r' x'=some (w,z)):w.aX++V.aX z=(r.aX++V.aX x)++(r'.aX++V.aX x'):=by
 unfold abZ at q
 split at q
 ·split at q
  ·rename_i w' e; cases q; rw[Rw.F8 e]; simp[V.aX]
  ·cases q
 ·cases q; simp[vI,Rw.aX]
 ·cases q
theorem ab3{k:Int}: ∀ {es:List (Int×List Bool)},vU k (es.map Fz)=(wX k es).map fun l=>.sl 0 false (l.map T.bool):=by
 intro es
 induction es with
 |nil=>rfl
 |cons e es ih =>
  obtain⟨m,l⟩:=e
  simp only[List.map_cons,Fz,vU,T.int,wX]
  cases k==m
  ·exact ih
  ·rfl
theorem adi{k:Int}{v:T}: ∀ {es:List (Int×List Bool)},wX k es=none->zh k v (es.map Fz)=es.map Fz++[.fH [.int k,v]]:=by
 intro es
 induction es with
 |nil=>intro _; rfl
 |cons e es ih =>
  obtain⟨m,l⟩:=e
  intro h
  simp only[wX] at h
  cases hb:k==m with
  |true=>rw[hb] at h; cases h
  |false =>
   rw[hb] at h
   simp only[List.map_cons,Fz,zh,T.int,hb,cond_false,List.cons_append]
   rw[ih h]
theorem Kt{N pn n nx:Nat}{d:Option Nat}{op:mO}{K:Fm->Hz->Prop}{s:AS}{dr:Bool}(hl:s.fr.length=N)(hd: ∀ i,d=some i->i<N)(R:Rp m s.fr)(hh:s.hp=h.aj)(hp:s.pin=pn)(hn:s.nx=nx)(q:ZL dr d n m h K op) :
  lu P dr n d op (Kz N pn nx K) s:=by
 have hd': ∀ i,d=some i->i<s.fr.length:=fun i e=>by rw[hl]; exact hd i e
 have fin: ∀ {v:V} {h':Hz},K (gy d v m) h'->Kz N pn nx K {(s.put d v.aI) with hp:=h'.aj}:=fun {v h'} hk =>
  ⟨_,h',by show(s.put d v.aI).fr.length=N; rw[SK,hl],R.put (v:=v) hd' rfl,rfl,by show(s.put d v.aI).pin=pn; cases d<;>exact hp,by show(s.put d v.aI).nx=nx; cases d<;>exact hn,hk⟩
 have ZP: ∀ {op:mO} {v:V},bH op=true->Ok s op v->K (gy d v m) h->lu P dr n d op (Kz N pn nx K) s:=fun {op v} hq ho hk=>by
  rw[bF hq]
  refine⟨ho.1,?_⟩
  rw[ho.2]
  have:=fin hk
  rw[<- hh] at this
  rw[show({(s.put d v.aI) with hp:=s.hp}:AS)=s.put d v.aI by cases d<;>rfl] at this
  exact this
 unfold ZL at q
 split at q
 ·rename_i ty k x
  split at q
  ·rename_i v e
   split at q
   rename_i v' s' hb
   cases g:EW k [v']&&v'.jS h&&yg k with
   |false=>rw[g] at q; exact q.elim
   |true =>
    rw[g] at q
    simp only[Bool.and_eq_true] at g
    simp only[cond_true] at q
    obtain⟨hs,hk⟩:=jZ q
    have ev:s.ev x=v'.aI:=by rw[R.ev e]; exact dF hb (hs (.inl rfl))
    simp only[lu]
    rw[ev,Md g.1.1,hh,V.qA g.1.2,g.2]
    refine⟨by simp,?_⟩
    have:=fin hk
    rw[aY] at this
    exact this
  ·exact q.elim
 ·rename_i ty k z
  cases g:z.kd==k&&z.jS h.aj&&z.free&&yg k with
  |false=>rw[g] at q; exact q.elim
  |true =>
   rw[g] at q
   simp only[lu]
   rw[hh,g]
   refine⟨rfl,?_⟩
   have:=fin q
   rw[aY] at this
   simp only[Option.map_some,OV.aF,wo] at this
   exact this
 ·rename_i ty k bytes z x y
  split at q
  ·rename_i a b e1 e2
   cases g:z.kd==k&&z.jS h.aj&&z.free&&yg k with
   |false=>rw[g] at q; exact q.elim
   |true =>
    rw[g] at q
    simp only[cond_true] at q
    split at q
    ·rename_i r er
     obtain⟨c,hk⟩:=q
     simp only[lu]
     rw[R.ev e1,R.ev e2]
     simp only[V.aI]
     rw[hh,g]
     refine⟨rfl,c,?_⟩
     have:=fin hk
     rw[aY] at this
     simp only[Option.map_some,OV.aF,V.aX,List.append_nil] at this
     have hr:r.aX=List.replicate a.toNat z:=by
      cases hz:isZero (.int a) with
      |false=>rw[hz] at er; exact ZM er
      |true =>
       rw[hz] at er; cases er
       unfold isZero at hz
       split at hz
       ·rename_i e; cases e; rfl
       ·cases hz
     rw[hr] at this
     exact this
    ·obtain⟨c,hk⟩:=q
     simp only[lu]
     rw[R.ev e1,R.ev e2]
     simp only[V.aI]
     rw[hh,g]
     refine⟨rfl,c,?_⟩
     have:=fin hk
     rw[aY] at this
     simp only[Option.map_some,OV.aF] at this
     rw[jM,List.map_replicate,wo] at this
     exact this
  ·exact q.elim
 ·rename_i k x v
  split at q
  ·rename_i i j off v0 e1 e2
   split at q
   rename_i v' s' hb
   cases g:EW k [v']&&v'.jS h with
   |false=>rw[g] at q; exact q.elim
   |true =>
    rw[g] at q
    simp only[Bool.and_eq_true] at g
    simp only[cond_true] at q
    have fin2: ∀ {h':Hz},K m h'->Kz N pn nx K {s with hp:=h'.aj}:=fun {h'} hk=>⟨m,h',hl,R,rfl,hp,hn,hk⟩
    have ex:s.ev x= .ptr i j off:=R.ev e1
    simp only[lu]
    rw[ex]
    simp only
    split at q
    ·rename_i ty ko w eo
     rw[hh,aH eo]
     simp only[OV.aF]
     cases hj:Nat.beq j 0 with
     |false=>rw[hj] at q; exact q.elim
     |true =>
      have:=gB hj; subst this
      rw[hj] at q
      simp only[cond_true] at q
      cases hb2:(Nat.beq off 0&&Nat.beq ko k) with
      |true =>
       rw[hb2] at q
       simp only[cond_true] at q
       obtain⟨hs,hk⟩:=jZ q
       have ev:s.ev v=v'.aI:=by rw[R.ev e2]; exact dF hb (hs (.inl rfl))
       simp only[Bool.and_eq_true] at hb2
       have f1:=gB hb2.1; have f2:=gB hb2.2; subst f1; subst f2
       rw[ev,Md g.1,V.qA g.2]
       refine⟨by simp,by simp,by simp,?_⟩
       have:=fin2 hk
       rw[aY] at this
       simp only[BEq.rfl,Bool.and_self,cond_true,List.set_cons_zero]
       exact this
      |false =>
       rw[hb2] at q
       simp only[cond_false] at q
       cases hc:(!(Nat.beq ko 0)&&mZ (bC ko) off k) with
       |false=>rw[hc] at q; exact q.elim
       |true =>
        rw[hc] at q
        simp only[cond_true] at q
        split at q
        ·rename_i w' hw
         rw[V.force_eq] at q
         obtain⟨hs,hk⟩:=jZ q
         have ev:s.ev v=v'.aI:=by rw[R.ev e2]; exact dF hb (hs (.inl rfl))
         have hb':(off==0&&ko==k)=false:=by
          rw[Bool.and_eq_false_iff] at hb2 ⊢
          rcases hb2 with hb2|hb2
          ·left; simpa using Nat.ne_of_beq_eq_false hb2
          ·right; simpa using Nat.ne_of_beq_eq_false hb2
         simp only[Bool.and_eq_true] at hc
         rw[ev,Md g.1,V.qA g.2]
         refine⟨by simp,by simp,?_,?_⟩
         ·simp only[hb',Bool.false_or,Bool.and_eq_true]; exact⟨XM hc.1,hc.2⟩
         ·have:=fin2 hk
          rw[aY] at this
          simp only[hb',cond_false,List.set_cons_zero,List.getD_cons_zero]
          have ew:w.aI.splice off v'.aI=w'.aI:=by
           unfold setCells at hw
           split at hw
           ·rename_i l c f1 f2
            cases hw
            unfold T.splice
            rw[V.EI f1,V.EI f2]
            simp only[V.aI,vI,II,IJ,dR]
           ·cases hw
          rw[ew]
          exact this
        ·exact q.elim
    ·rename_i ty ko r eo
     rw[hh,aH eo]
     simp only[OV.aF,V.aX,List.append_nil]
     cases hb2:(Nat.beq off 0&&Nat.beq ko k) with
     |false=>rw[hb2] at q; exact q.elim
     |true =>
      rw[hb2] at q
      simp only[cond_true] at q
      split at q
      ·rename_i r' hr
       obtain⟨hs,hk0⟩:=jZ q
       obtain⟨CZ,hk⟩:=hk0
       have ev:s.ev v=v'.aI:=by rw[R.ev e2]; exact dF hb (hs (.inl rfl))
       simp only[Bool.and_eq_true] at hb2
       have f1:=gB hb2.1; have f2:=gB hb2.2; subst f1; subst f2
       rw[Rw.yC] at CZ
       rw[ev,Md g.1,V.qA g.2]
       refine⟨by simp,by rw[Rw.dP]; omega,by simp,?_⟩
       have:=fin2 hk
       rw[aY] at this
       simp only[Option.map_some,OV.aF,V.aX,List.append_nil,Rw.SN hr] at this
       simp only[BEq.rfl,Bool.and_self,cond_true]
       exact this
      ·obtain⟨hs,hk0⟩:=jZ q
       obtain⟨CZ,hk⟩:=hk0
       have ev:s.ev v=v'.aI:=by rw[R.ev e2]; exact dF hb (hs (.inl rfl))
       simp only[Bool.and_eq_true] at hb2
       have f1:=gB hb2.1; have f2:=gB hb2.2; subst f1; subst f2
       rw[Rw.yC] at CZ
       rw[ev,Md g.1,V.qA g.2]
       refine⟨by simp,by rw[Rw.dP]; omega,by simp,?_⟩
       have:=fin2 hk
       rw[aY] at this
       simp only[Option.map_some,OV.aF] at this
       rw[jM,List.map_set,<- jM,Rw.XJ] at this
       simp only[BEq.rfl,Bool.and_self,cond_true]
       exact this
    ·rename_i ty ko y eo
     rw[hh,aH eo]
     simp only[OV.aF]
     cases hb2:(Nat.beq off 0&&Nat.beq ko k) with
     |false=>rw[hb2] at q; exact q.elim
     |true =>
      rw[hb2] at q
      simp only[cond_true] at q
      obtain⟨hs,hk0⟩:=jZ q
      obtain⟨CZ,hk⟩:=hk0
      have ev:s.ev v=v'.aI:=by rw[R.ev e2]; exact dF hb (hs (.inl rfl))
      simp only[Bool.and_eq_true] at hb2
      have f1:=gB hb2.1; have f2:=gB hb2.2; subst f1; subst f2
      rw[ev,Md g.1,V.qA g.2]
      refine⟨by simp,by rw[dR]; exact CZ,by simp,?_⟩
      have:=fin2 hk
      rw[aY] at this
      simp only[Option.map_some,OV.aF] at this
      rw[jM,List.map_set,<- jM] at this
      simp only[BEq.rfl,Bool.and_self,cond_true]
      exact this
    ·exact q.elim
  ·rename_i x0 v0 _ e1 e2
   split at q
   ·rename_i i j off s0 hb0
    split at q
    rename_i v' s' hb
    cases g:EW k [v']&&v'.jS h&&Nat.beq off 0 with
    |false=>rw[g] at q; exact q.elim
    |true =>
     rw[g] at q
     simp only[Bool.and_eq_true] at g
     simp only[cond_true] at q
     obtain⟨hs,hk⟩:=jZ q
     have hs2:=Sd.kX.1 (hs (.inl rfl))
     have ex:s.ev x= .ptr i j off:=by rw[R.ev e1,dF hb0 hs2.1]; rfl
     have ev:s.ev v=v'.aI:=by rw[R.ev e2]; exact dF hb hs2.2
     have f1:=gB g.2; subst f1
     obtain⟨ty,r,r',h',a1,a2,a3,a4,a5⟩:=hk.ok
     rw[Rw.yC] at a3
     simp only[lu]
     rw[ex]
     simp only
     rw[hh,aH a1]
     simp only[OV.aF,V.aX,List.append_nil]
     rw[ev,Md g.1.1,V.qA g.1.2]
     refine⟨by simp,by rw[Rw.dP]; omega,by simp,?_⟩
     simp only[BEq.rfl,Bool.and_self,cond_true]
     rw[<- Rw.SN a2]
     refine⟨m,h',hl,R,?_,hp,hn,a5⟩
     rw[a4]; simp only[OV.aF,V.aX,List.append_nil]
   ·exact q.elim
  ·exact q.elim
 ·rename_i k x
  split at q
  ·rename_i v0 e1
   split at q
   ·rename_i i j off s0 hb0
    split at q
    ·rename_i ty ko y eo
     cases hb2:(Nat.beq off 0&&Nat.beq ko k) with
     |false=>rw[hb2] at q; exact q.elim
     |true =>
      rw[hb2] at q
      simp only[cond_true] at q
      obtain⟨hs,hk⟩:=jZ q
      have ex:s.ev x= .ptr i j off:=by rw[R.ev e1,dF hb0 (hs (.inl rfl))]; rfl
      simp only[Bool.and_eq_true] at hb2
      have f1:=gB hb2.1; have f2:=gB hb2.2; subst f1; subst f2
      obtain⟨v,hv,hk⟩:=hk.ok
      rw[V.seq_eq] at hk
      refine ZP rfl ?_ hk
      have hj:j<y.length:=by
       rcases Nat.lt_or_ge j y.length with h|h
       ·exact h
       ·rw[List.getElem?_eq_none h] at hv; cases hv
      unfold Ok; simp only[qc,qt]; rw[ex]
      simp only[hh,aH eo,OV.aF]
      simp only[BEq.rfl,Bool.and_self,Bool.true_or,cond_true,dR]
      exact⟨⟨hj,trivial⟩,wu hv⟩
    ·exact q.elim
   ·rename_i i j off s0 hb0
    obtain⟨hs,hk⟩:=jZ q
    have ex:s.ev x=(V.ptr i j off).aI:=by rw[R.ev e1,dF hb0 (hs (.inl rfl))]; rfl
    obtain⟨ty,ko,r,eo,hk⟩:=hk.ok
    split at hk
    ·rename_i v s' hq
     obtain⟨hs',hk⟩:=jZ hk
     rw[V.seq_eq] at hk
     exact ZP rfl (QV hh (u:=.ptr i j off) (by simp only[ldZ,eo]; exact hq) (hs' (.inl rfl)) ex) hk
    ·exact hk.elim
   ·exact q.elim
  ·exact q.elim
 ·rename_i k x i
  split at q
  ·rename_i v0 w0 e1 e2
   split at q
   ·rename_i o s0 n0 s1 hb0 hb1
    obtain⟨hs,hk⟩:=jZ q
    have hs2:=Sd.kX.1 (hs (.inl rfl))
    have ex:s.ev x=(V.own o).aI:=by rw[R.ev e1,dF hb0 hs2.1]; rfl
    have ei:s.ev i=(V.int n0).aI:=by rw[R.ev e2,dF hb1 hs2.2]
    obtain⟨ty,ko,r,eo,hk⟩:=hk.ok
    cases hb2:Nat.beq ko k with
    |false=>rw[hb2] at hk; exact hk.elim
    |true =>
     rw[hb2] at hk
     simp only[cond_true] at hk
     obtain⟨hr,hk⟩:=hk
     have hok:Ok s (.ia k x i) (.ptr o n0.toNat 0):=XO hh (u:=.own o) (v:=.int n0) (r:=.ptr o n0.toNat 0) (sd:=.yes (r.rng n0)) (by simp only[iaZ,eo,hb2,dB,cond_true]) hr ex ei
     exact ZP (v:=.pin o n0.toNat 0) rfl ⟨hok.1,hok.2⟩ hk
   ·exact q.elim
  ·exact q.elim
 ·rename_i str x
  split at q
  ·rename_i v0 e1
   split at q
   ·rename_i o s0 hb0
    obtain⟨hs,hk⟩:=jZ q
    have ex:s.ev x=(V.own o).aI:=by rw[R.ev e1,dF hb0 (hs (.inl rfl))]; rfl
    obtain⟨ty,ko,r,eo,hk⟩:=hk.ok
    cases hb2:(!str&& !(Nat.beq ko eU)) with
    |false=>rw[hb2] at hk; exact hk.elim
    |true =>
     rw[hb2] at hk
     simp only[cond_true] at hk
     rw[V.seq_eq] at hk
     exact ZP rfl (SG hh (u:=.own o) (r:=r.lenV) (sd:=.no) (by simp only[ZE,eo,hb2,dB,cond_true]) ex) hk
   ·exact q.elim
  ·exact q.elim
 ·rename_i ty k bytes x y
  split at q
  ·rename_i vx vy e1 e2
   split at q
   ·rename_i r' x' es
    simp only[lu]
    rw[R.ev e1,R.ev e2,hh,ZN es]
    simp only
    split at q
    ·rename_i k'
     obtain⟨c,hk⟩:=q
     have e0:(V.row k' true Rw.nil).aI= .sl k' true []:=rfl
     rw[e0]
     unfold kQ at c
     rw[xH] at c
     refine⟨.inr rfl,.inl (.inl rfl),by simpa using c.1,by simpa using c.2,?_⟩
     have:=fin hk
     rw[aY] at this
     exact this
    ·rename_i k' r hnn
     cases hb2:Nat.beq k' k with
     |false=>rw[hb2] at q; exact q.elim
     |true =>
      rw[hb2] at q
      have:=gB hb2; subst this
      simp only[cond_true] at q
      split at q
      ·rename_i w hw
       obtain⟨c1,c2,hk⟩:=q.ok
       simp only[V.aI]
       unfold kQ at c2
       rw[xH] at c1 c2
       refine⟨.inl trivial,?_,by rw[Rw.dP]; exact c2.1,by rw[Rw.dP]; exact c2.2,?_⟩
       ·rcases c1 with (c|c)|⟨c,hk2⟩
        ·left; left; exact List.eq_nil_of_length_eq_zero (by rw[Rw.dP]; exact c)
        ·left; right; intro e; rw[e] at c; simp at c
        ·right
         refine⟨c,?_⟩
         have f1:=fin hk2
         rw[<- hh] at f1
         rw[show({(s.put d (V.row k' true r).aI) with hp:=s.hp}:AS)=s.put d (.sl k' true r.aX) by cases d<;>rfl] at f1
         exact f1
       ·have:=fin hk
        rw[aY] at this
        simp only[Option.map_some,OV.aF,Rw.F8 hw,List.append_assoc] at this
        exact this
      ·exact q.elim
    ·rename_i i
     split at q
     ·rename_i ty' ko r xx eo
      cases hb2:(Nat.beq ko k&&Nat.beq ty' ty) with
      |false=>rw[hb2] at q; exact q.elim
      |true =>
       rw[hb2] at q
       simp only[cond_true] at q
       simp only[Bool.and_eq_true] at hb2
       have f1:=gB hb2.1; have f2:=gB hb2.2; subst f1; subst f2
       split at q
       ·rename_i w z hw
        obtain⟨c,hk⟩:=q
        simp only[V.aI,aH eo,OV.aF]
        unfold kQ at c
        rw[xH,xH] at c
        refine⟨by simp,c.1,c.2,?_⟩
        have:=fin hk
        rw[aY,aY] at this
        simp only[Option.map_some,Option.map_none,OV.aF,ZO hw] at this
        exact this
       ·exact q.elim
     ·rename_i ty' ko y eo
      cases hb2:(Nat.beq ko k&&Nat.beq ty' ty) with
      |false=>rw[hb2] at q; exact q.elim
      |true =>
       rw[hb2] at q
       simp only[cond_true] at q
       simp only[Bool.and_eq_true] at hb2
       have f1:=gB hb2.1; have f2:=gB hb2.2; subst f1; subst f2
       obtain⟨c,hk⟩:=q
       simp only[V.aI,aH eo,OV.aF]
       unfold kQ at c
       rw[xH] at c
       refine⟨by simp,by rw[dR]; exact c.1,by rw[dR]; exact c.2,?_⟩
       have:=fin hk
       rw[aY,aY] at this
       simp only[Option.map_some,Option.map_none,OV.aF,vI,Rw.XJ] at this
       exact this
     ·exact q.elim
    ·rename_i i
     obtain⟨r,h',a1,a2,hk⟩:=q.ok
     split at hk
     ·rename_i w hw
      obtain⟨c,hk⟩:=hk
      simp only[V.aI,aH a1,OV.aF,V.aX,List.append_nil]
      unfold kQ at c
      rw[xH] at c
      refine⟨by simp,by rw[Rw.dP]; exact c.1,by rw[Rw.dP]; exact c.2,?_⟩
      have:=fin hk
      rw[aY,a2] at this
      simp only[Option.map_some,OV.aF,Rw.F8 hw,List.append_assoc] at this
      exact this
     ·exact hk.elim
    ·exact q.elim
   ·exact q.elim
  ·exact q.elim
 ·rename_i k z x
  split at q
  ·rename_i i lo hi e
   split at q
   ·rename_i ty ko r eo
    cases g:(Nat.beq ko k&&z.kd==k&&z.jS h.aj&&z.free) with
    |false=>rw[g] at q; exact q.elim
    |true =>
     rw[g] at q
     simp only[cond_true] at q
     obtain⟨⟨c1,c2⟩,hk⟩:=q
     simp only[Bool.and_eq_true] at g
     obtain⟨⟨⟨g1,g2⟩,g3⟩,g4⟩:=g
     have f1:=gB g1; subst f1
     simp only[lu]
     rw[R.ev e]
     simp only[V.aI,hh,aH eo,OV.aF]
     refine⟨by simp[g2,g3,g4],by simp[Rw.dP,c2,V.aX],?_⟩
     have el:(r.take lo).aX++V.aX (List.replicate (hi-lo) (Aq z))=List.take lo (r.aX++V.aX [])++List.replicate (hi-lo) z++List.drop hi (r.aX++V.aX []):=by
      rw[Rw.DL,jM,List.map_replicate,wo]
      simp[V.aX,Rw.dP,c2]
     cases d with
     |none =>
      simp only at hk
      refine⟨_,_,hl,R,?_,hp,hn,hk⟩
      rw[aY]
      simp only[Option.map_some,OV.aF,el]
     |some dd =>
      simp only at hk
      have:=fin hk
      rw[aY] at this
      simp only[Option.map_some,OV.aF,el] at this
      exact this
   ·exact q.elim
  ·exact q.elim
 ·rename_i ty k z nn ps
  split at q
  ·rename_i vs s' hb
   split at q
   ·rename_i l hl
    cases g:((z.kd==k)&&z.free&&EW k vs&&A8 h vs&&Nat.ble (nn*bC k) 16777216&&yg k) with
    |false=>rw[g] at q; exact q.elim
    |true =>
     rw[g] at q
     simp only[cond_true] at q
     obtain⟨hs,hk⟩:=jZ q
     have he:=qE R hb (hs (.inl rfl))
     have he':(ps.map fun p=>s.ev p.2)=V.aX vs:=by rw[<- he]; simp
     simp only[Bool.and_eq_true] at g
     obtain⟨⟨⟨⟨⟨g1,g2⟩,g3⟩,g4⟩,g5⟩,g6⟩:=g
     obtain⟨i1,i2⟩:=SH hl he' g3
     have e:V.aX (List.replicate nn (Aq z))=List.replicate nn z:=by rw[jM,List.map_replicate,wo]
     rw[e] at i2
     simp only[lu]
     rw[i1,i2,he',hh,EJ g4,g1,g2,g5,g6]
     refine⟨rfl,?_⟩
     have:=fin hk
     rw[aY] at this
     simp only[Option.map_some,OV.aF,Rw.aX,List.nil_append] at this
     exact this
   ·exact q.elim
  ·exact q.elim
 ·rename_i x
  split at q
  ·rename_i k' f r e
   obtain⟨q1,q2⟩:=q
   simp only[lu]
   rw[R.ev e]
   have f1:=fun hz=>fin (q1 hz)
   have f2:=fin q2
   rw[<- hh] at f1 f2
   refine⟨fun hl=>?_,?_⟩
   ·have:=f1 (by rw[<- Rw.dP]; exact congrArg List.length hl)
    rw[show({(s.put d (V.bool true).aI) with hp:=s.hp}:AS)=s.put d (.lit (.bool true)) by cases d<;>rfl] at this
    exact this
   ·rw[show({(s.put d (V.bool false).aI) with hp:=s.hp}:AS)=s.put d (.lit (.bool false)) by cases d<;>rfl] at f2
    exact f2
  ·rename_i i e
   split at q
   ·rename_i ty ko r eo
    cases hb:Nat.beq ko eU with
    |true=>rw[hb] at q; exact q.elim
    |false =>
     rw[hb] at q
     obtain⟨q1,q2⟩:=q
     simp only[lu]
     rw[R.ev e]
     have f1:=fun hz=>fin (q1 hz)
     have f2:=fin q2
     rw[<- hh] at f1 f2
     simp only[V.aI,hh,aH eo,OV.aF]
     refine⟨fun hl=>?_,?_,Nat.ne_of_beq_eq_false hb⟩
     ·have:=f1 (by rw[<- Rw.dP]; simpa [V.aX] using congrArg List.length hl)
      rw[show({(s.put d (V.bool true).aI) with hp:=s.hp}:AS)=s.put d (.lit (.bool true)) by cases d<;>rfl] at this
      exact this
     ·rw[show({(s.put d (V.bool false).aI) with hp:=s.hp}:AS)=s.put d (.lit (.bool false)) by cases d<;>rfl] at f2
      exact f2
   ·exact q.elim
  ·exact q.elim
 ·rename_i ty
  simp only[lu]
  have:=fin q
  rw[aY] at this
  rw[hh]
  exact this
 ·rename_i z x i
  split at q
  ·rename_i o k e1 e2
   split at q
   ·rename_i ty es eo
    obtain⟨q1,q2⟩:=q
    rw[bF rfl]
    simp only[qc,qt]
    rw[R.ev e1,R.ev e2]
    simp only[V.aI,T.int,hh,aH eo,OV.aF,List.map_nil,List.append_nil,ab3]
    refine⟨trivial,?_⟩
    cases hg:wX k es with
    |some l =>
     have f1:=fin (q1 l hg)
     rw[<- hh] at f1
     rw[show({(s.put d (V.fH [.row 0 false (.bools l),.bool true]).aI) with hp:=s.hp}:AS)=s.put d (.fH [.sl 0 false (l.map T.bool),.lit (.bool true)]) by cases d<;>rfl] at f1
     exact f1
    |none =>
     have f2:=fin (q2 hg)
     rw[<- hh] at f2
     rw[show({(s.put d (V.fH [Aq z,.bool false]).aI) with hp:=s.hp}:AS)=s.put d (.fH [(Aq z).aI,.lit (.bool false)]) by cases d<;>rfl,wo] at f2
     exact f2
   ·exact q.elim
  ·exact q.elim
 ·rename_i x i v
  split at q
  ·rename_i o k w e1 e2 e3
   split at q
   rename_i v' s' hb
   split at q
   ·rename_i ty es eo
    cases g:EW 0 [v']&&v'.jS h with
    |false=>rw[g] at q; exact q.elim
    |true =>
     rw[g] at q
     simp only[Bool.and_eq_true] at g
     simp only[cond_true] at q
     obtain⟨hs,c,hk⟩:=jZ q
     have ev:s.ev v=v'.aI:=by rw[R.ev e3]; exact dF hb (hs (.inl rfl))
     have hkd:=Md g.1
     have hst:=V.qA g.2
     simp only[lu]
     rw[R.ev e1,R.ev e2,ev]
     simp only[V.aI,T.int,hh,aH eo,OV.aF,List.map_nil,List.append_nil]
     refine⟨trivial,?_,?_⟩
     ·rw[hkd]
      have:v'.aI.xg h.aj=true:=by
       revert hst hkd
       cases v'.aI<;>simp[T.jS,T.kd]
      rw[this]; rfl
     ·have hK:Kz N pn nx K {s with hp:=Hz.aj ((o,some (.map ty es [(k,v')]))::h)}:=⟨m,_,hl,R,rfl,hp,hn,hk⟩
      rw[aY] at hK
      have:=adi (v:=v'.aI) c
      simp only[T.int] at this
      rw[this]
      exact hK
   ·exact q.elim
  ·exact q.elim
 ·exact q.elim
end
section
variable {P:Program} {m:Fm} {h:Hz}
theorem Kz.put{N pn nx:Nat}{K:Fm->Hz->Prop}{s:AS}{d:Option Nat}{v:V}{t:T}{h':Hz}(hl:s.fr.length=N)(hd: ∀ i,d=some i->i<N)(R:Rp m s.fr)(hp:s.pin=pn)(hn:s.nx=nx)(ht:t=v.aI)(hk:K (gy d v m) h') :
  Kz N pn nx K {(s.put d t) with hp:=h'.aj}:=by
 subst ht
 exact⟨_,h',by show(s.put d v.aI).fr.length=N; rw[SK,hl],R.put (v:=v) (fun i e=>by rw[hl]; exact hd i e) rfl,rfl,by show(s.put d v.aI).pin=pn; cases d<;>exact hp,by show(s.put d v.aI).nx=nx; cases d<;>exact hn,hk⟩
theorem IL{N pn nx n:Nat}{K:Fm->Hz->Prop}{KW:Nat->Fm->Hz->Prop}{s:AS}{d:Option Nat}{dr:Bool}{g:Option Bool}{f:FuncId}{l:List V}(hl:s.fr.length=N)(hd: ∀ i,d=some i->i<N)(R:Rp m s.fr)(hh:s.hp=h.aj)(hp:s.pin=pn)(hn:s.nx=nx)
  (hg:g=none\/g=some true) (q:ah P dr g f l h n (fun v h'=>v.seq fun v=>K (gy d (rF g v) m) h') (fun k v h'=>v.seq fun v=>KW k (gy d v m) h')) (hq:dr=true-> ∀ (v:V) (h':Hz),¬ (v.seq fun v=>KW 0 (gy d v m) h')) :
  lU P dr n d f (V.aX l) (Kz N pn nx K) s\/(dr=false/\ ∃ k,kF P f (V.aX l) s.hp n k fun t hp=>Kz N pn (nx+k) (KW k) {(s.put d t) with hp:=hp,nx:=s.nx+k}):=by
 unfold lU
 rw[hh]
 rcases q.ok with q|⟨rfl,rfl,k,q⟩|⟨_,hdr,_,⟨_,_,v,o,_,_,hk⟩,_⟩
 rotate_left
 rotate_left
 ·exact absurd hk (hq hdr _ _)
 rotate_left
 ·refine .inr ⟨rfl,k,q.mono ?_⟩
  rintro t hp' ⟨v,h',rfl,rfl,hk⟩
  rw[V.seq_eq] at hk
  obtain⟨m',h'',a1,a2,a3,a4,_,a6⟩:=Kz.put (K:=KW k) hl hd R hp hn rfl hk
  exact⟨m',h'',a1,a2,a3,a4,by show s.nx+k=nx+k; rw[hn],a6⟩
 left
 rcases hg with rfl|rfl
 ·refine aP.mono q ?_
  rintro t hp' ⟨v,h',e1,e2,e3,hk⟩
  rw[V.seq_eq] at hk
  subst e2
  refine⟨fun e=>⟨by rw[(e3 e).1],(e3 e).2⟩,Kz.put (v:=v) hl hd R hp hn e1 hk⟩
 ·rcases q with ⟨v,c,hf,hk⟩|⟨hdr,c,_⟩
  rotate_left
  ·refine aP.mono (c rfl) ?_
   rintro t hp' ⟨v,h',e1,e2,hk⟩
   rw[V.seq_eq] at hk
   subst e2
   exact⟨fun e=>(by rw[hdr] at e; cases e),Kz.put (v:=rF (some true) v) hl hd R hp hn (e1.trans (EL v).symm) hk⟩
  rw[V.seq_eq] at hk
  refine aP.mono (c rfl) ?_
  rintro t hp' ⟨e1,e2⟩
  subst e2
  refine⟨fun _=>⟨rfl,by rw[e1]; exact V.lI v hf⟩,Kz.put (v:=rF (some true) v) hl hd R hp hn (by rw[e1]; exact(EL v).symm) hk⟩
theorem wz{N pn nx n:Nat}{K:Fm->Hz->Prop}{s:AS}{d:Option Nat}{dr:Bool}{g:Option Bool}{f:FuncId}{l:List V}(hl:s.fr.length=N)(hd: ∀ i,d=some i->i<N)(R:Rp m s.fr)(hh:s.hp=h.aj)(hp:s.pin=pn)(hn:s.nx=nx)
  (hg:g=none\/g=some true) (q:ah P dr g f l h n (fun v h'=>v.seq fun v=>K (gy d (rF g v) m) h') (fun _ _ _=>False)):lU P dr n d f (V.aX l) (Kz N pn nx K) s:=by
 rcases IL (KW:=fun _ _ _=>False) hl hd R hh hp hn hg ⟨q.ok.imp id fun h=>h.imp (fun⟨a,b,k,c⟩=>⟨a,b,k,c.mono fun _ _ ⟨_,_,_,_,h⟩=>h.elim⟩) (fun⟨a,b,d,c⟩=>⟨a,b,d,c.mono fun _ _ ⟨_,_,_,_,h⟩=>h.elim⟩)⟩ (fun _ v h' hk=>by rw[V.seq_eq] at hk; exact hk) with h|⟨_,k,⟨t,hp',hk⟩,_⟩
 ·exact h
 ·obtain⟨_,_,_,_,_,_,_,hk⟩:=hk; exact hk.elim
theorem ah.guard{dr:Bool}{f:FuncId}{args:List V}{n:Nat}{K:V->Hz->Prop}{KW:Nat->V->Hz->Prop}(q:ah P dr (some false) f args h n K KW): ∃ v,K v h:=by
 rcases q.ok with (⟨v,_,_,k⟩|⟨_,_,k⟩)|⟨h1,_⟩|⟨h1,_⟩
 ·exact⟨v,k⟩
 ·exact⟨_,k rfl⟩
 ·cases h1
 ·cases h1
theorem U0{dr fl:Bool}{a b c:Prop}:BO dr fl a b c↔(dr=false/\a)\/(dr=true/\bif fl then c else b):=by
 cases dr<;>cases fl<;>simp[BO]
theorem rP{dr fl:Bool}{C:Bool->Prop}(q:BO dr fl (C false) (C true) (C false)):C (dr&& !fl):=by
 cases dr<;>cases fl<;>exact q
theorem QY{N pn nx n:Nat}{KK:Nat->Fm->Hz->Prop}{s:AS}{o:aN}{dr:Bool}(hl:s.fr.length=N)(hd: ∀ i,o.d=some i->i<N)(R:Rp m s.fr)(hh:s.hp=h.aj)(hp:s.pin=pn)(hn:s.nx=nx)
  (q:ab1 P dr nx n o KK m h):(gv o.g s=some true/\iV o s/\(lu P (o.dr dr) n o.d o.op (Kz N pn nx (KK 0)) s\/YF P dr n o.d o.op (fun s'=> ∃ k,Kz N pn (nx+k) (KK k) s') s))\/(gv o.g s=some false/\Kz N pn nx (KK 0) (s.put o.d T.un)):=by
 unfold ab1 at q
 split at q
 ·exact q.elim
 ·rename_i g hg
  cases hf:Fe nx o m with
  |false=>rw[hf] at q; exact q.elim
  |true =>
   rw[hf] at q
   simp only[cond_true] at q
   have hfl:iV o s:=IK R (by rw[hn]; exact hf)
   have un: ∀ {v:V} {h':Hz},h'=h->KK 0 (gy o.d (rF (some false) v) m) h'->Kz N pn nx (KK 0) (s.put o.d T.un):=fun {v h'} e hk=>by
    subst e
    have:=Kz.put (s:=s) (v:=rF (some false) v) (t:=T.un) hl hd R hp hn (QW v).symm hk
    rw[<- hh] at this
    have e2:({(s.put o.d T.un) with hp:=s.hp}:AS)=s.put o.d T.un:=by
     cases o.d<;>rfl
    rw[e2] at this
    exact this
   rcases UZ R hg with ⟨h1,h2⟩|⟨h1,rfl⟩
   ·refine .inl ⟨h1,hfl,?_⟩
    split at q
    ·rename_i f xs eo
     split at q
     ·rename_i l sd hb
      obtain⟨hs,q⟩:=jZ q
      have ed:o.dr dr=(dr&& !o.fl):=by unfold aN.dr; rw[eo]
      rw[ed,eo]
      show lU P (dr&& !o.fl) n o.d f (xs.map s.ev) _ s\/(dr=false/\ ∃ k,kF P f (xs.map s.ev) s.hp n k _)
      rw[qE R hb (hs h2)]
      split at q
      ·rw[U0] at q
       rcases q with ⟨e,q⟩|q
       ·rw[e]
        exact(IL (g:=none) hl hd R hh hp hn h2 q (fun e=>by cases e)).imp id fun⟨a,k,b⟩=>⟨a,k,b.mono fun _ _ hk=>⟨k,hk⟩⟩
       ·obtain⟨hdt,q⟩:=q
        refine .inl (wz (g:=none) hl hd R hh hp hn h2 ?_)
        rw[hdt]
        cases hf2:o.fl<;>rw[hf2] at q<;>exact q
      ·rename_i bb _
       exact .inl (wz hl hd R hh hp hn h2 (rP (C:=fun dr=>ah P dr (some bb) f l h n (fun v h'=>v.seq fun v=>KK 0 (gy o.d (rF (some bb) v) m) h') (fun _ _ _=>False)) q))
     ·exact q.elim
    ·rename_i x xs eo
     split at q
     ·rename_i v0 l sd e1 hb
      split at q
      ·rename_i f cap s0 hb0
       obtain⟨hs,q⟩:=jZ q
       have hs2:=Sd.kX.1 (hs h2)
       have ed:o.dr dr=(dr&& !o.fl):=by unfold aN.dr; rw[eo]
       rw[ed,eo]
       cases ZQ:Nat.blt f 8192 with
       |false =>
        have h40:Nat.blt f 4096=false:=by
         cases hq:Nat.blt f 4096 with
         |false=>rfl
         |true=>rw[Nat.blt_eq.mpr (Nat.lt_trans (Nat.blt_eq.mp hq) (by decide))] at ZQ; cases ZQ
        rw[h40,ZQ] at q
        right
        cases dr with
        |true=>exact q.elim
        |false =>
         have q':adg P f cap l h n (fun v h'=>v.seq fun v=>KK 0 (gy o.d v m) h'):=by
          rcases h2 with rfl|rfl
          ·exact q
          ·obtain⟨qa,_⟩:=q; exact qa rfl
         refine⟨rfl,?_⟩
         rw[R.ev e1,dF hb0 hs2.1]
         simp only[V.aI]
         rw[qE R hb hs2.2,hh]
         refine⟨ZQ,q'.ok.mono ?_⟩
         rintro t hp' ⟨v,h',rfl,rfl,hk⟩
         rw[V.seq_eq] at hk
         exact⟨0,Kz.put hl hd R hp hn rfl hk⟩
       |true =>
       left
       simp only[lu]
       rw[R.ev e1,dF hb0 hs2.1]
       simp only[V.aI]
       rw[qE R hb hs2.2,<- vI]
       cases hbl:Nat.blt f 4096 with
       |true=>rw[hbl] at q; exact wz hl hd R hh hp hn h2 (rP (C:=fun dr=>ah P dr g f (l++cap) h n (fun v h'=>v.seq fun v=>KK 0 (gy o.d (rF g v) m) h') (fun _ _ _=>False)) q)
       |false=>rw[hbl,ZQ] at q; refine⟨ZQ,?_⟩; exact wz (l:=.agg cap::l) hl hd R hh hp hn h2 (rP (C:=fun dr=>ah P dr g (f % 4096) (.agg cap::l) h n (fun v h'=>v.seq fun v=>KK 0 (gy o.d (rF g v) m) h') (fun _ _ _=>False)) q)
      ·exact q.elim
     ·exact q.elim
    ·rename_i hn1 hn2
     have ed:o.dr dr=dr:=by
      unfold aN.dr
      split
      ·rename_i e; exact absurd e (hn1 _ _)
      ·rename_i e; exact absurd e (hn2 _ _)
      ·rfl
     rw[ed]
     left
     split at q
     ·rename_i v sd hq
      obtain⟨hs,hk⟩:=jZ q
      rw[V.seq_eq] at hk
      obtain⟨hqu,hc,ht⟩:=XR R hh hq (hs h2)
      rw[bF hqu]
      refine⟨hc,?_⟩
      have:=Kz.put (s:=s) (v:=rF g v) (t:=qt s o.op) hl hd R hp hn (by rw[ht]; rcases h2 with rfl|rfl; rfl; exact(EL v).symm) hk
      rw[<- hh] at this
      have e2:({(s.put o.d (qt s o.op)) with hp:=s.hp}:AS)=s.put o.d (qt s o.op):=by cases o.d<;>rfl
      rw[e2] at this
      exact this
     ·split at q
      ·exact Kt hl hd R hh hp hn q
      ·rename_i b _
       rcases h2 with h2|h2
       ·cases h2
       ·cases h2
        obtain⟨qa,_⟩:=q
        exact Kt hl hd R hh hp hn (qa rfl)
   ·refine .inr ⟨h1,?_⟩
    split at q
    ·split at q
     ·obtain⟨hs,q⟩:=jZ q
      obtain⟨v,hk⟩:=ah.guard (rP (C:=fun dr=>ah P dr (some false) _ _ h n (fun v h'=>v.seq fun v=>KK 0 (gy o.d (rF (some false) v) m) h') (fun _ _ _=>False)) q)
      rw[V.seq_eq] at hk
      exact un rfl hk
     ·exact q.elim
    ·split at q
     ·rename_i v0 l sd e1 hb
      split at q
      ·rename_i f cap s0 hb0
       obtain⟨hs,q⟩:=jZ q
       cases hbl:Nat.blt f 4096 with
       |true =>
        rw[hbl] at q
        obtain⟨v,hk⟩:=ah.guard (rP (C:=fun dr=>ah P dr (some false) f (l++cap) h n (fun v h'=>v.seq fun v=>KK 0 (gy o.d (rF (some false) v) m) h') (fun _ _ _=>False)) q)
        rw[V.seq_eq] at hk
        exact un rfl hk
       |false =>
        rw[hbl] at q
        cases ZQ:Nat.blt f 8192 with
        |false =>
         rw[ZQ] at q
         cases dr with
         |true=>exact q.elim
         |false =>
          obtain⟨_,qb⟩:=q
          exact un (v:=.int 0) rfl (qb rfl)
        |true =>
        rw[ZQ] at q
        obtain⟨v,hk⟩:=ah.guard (rP (C:=fun dr=>ah P dr (some false) (f % 4096) (.agg cap::l) h n (fun v h'=>v.seq fun v=>KK 0 (gy o.d (rF (some false) v) m) h') (fun _ _ _=>False)) q)
        rw[V.seq_eq] at hk
        exact un rfl hk
      ·exact q.elim
     ·exact q.elim
    ·split at q
     ·obtain⟨hs,hk⟩:=jZ q
      rw[V.seq_eq] at hk
      exact un rfl hk
     ·obtain⟨_,qb⟩:=q
      have e3:V.cnd false (phZ o.op)=rF (some false) (phZ o.op):=by cases o.op<;>rfl
      exact un (v:=phZ o.op) rfl (by rw[<- e3]; exact qb rfl)
theorem U1{N pn nx n:Nat}{KK:Nat->Fm->Hz->Prop}{s:AS}{o:aN}{dr:Bool}(hl:s.fr.length=N)(hd: ∀ i,o.d=some i->i<N)(R:Rp m s.fr)(hh:s.hp=h.aj)(hp:s.pin=pn)(hn:s.nx=nx)
  (q:opZ P dr nx n o KK m h):(gv o.g s=some true/\iV o s/\(opR P dr n o (Kz N pn nx (KK 0)) s\/YF P dr n o.d o.op (fun s'=> ∃ k,Kz N pn (nx+k) (KK k) s') s))\/(gv o.g s=some false/\Kz N pn nx (KK 0) (s.put o.d T.un)):=by
 unfold opZ at q
 cases har:o.ar with
 |true =>
  rw[har] at q
  simp only at q
  unfold arZ at q
  split at q
  ·rename_i f xs eo eg
   cases hf:(o.fl&&Fe nx o m) with
   |false=>rw[hf] at q; exact q.elim
   |true =>
    rw[hf] at q
    simp only[cond_true] at q
    rw[Bool.and_eq_true] at hf
    have hfl:iV o s:=IK R (by rw[hn]; exact hf.2)
    refine .inl ⟨by rw[eg]; rfl,hfl,.inl (.inr ⟨har,hf.1,?_⟩)⟩
    split at q
    ·rename_i l sd hb
     obtain⟨hs,q⟩:=jZ q
     obtain⟨v,ob,c1,c2,c3,hk⟩:=q.ok
     rw[eo]
     refine⟨v.aI,ob.map OV.aF,c1,?_,?_,?_⟩
     ·intro o' ho'
      cases ob with
      |none=>cases ho'
      |some ob=>cases ho'; exact c2 _ rfl
     ·intro hp' he _
      rw[qE R hb (hs (.inl rfl))]
      exact c3 hp' (by rw[<- hh]; exact he)
     ·rw[V.seq_eq] at hk
      cases ob with
      |none =>
       show Kz N pn nx (KK 0) {(s.put o.d v.aI) with hp:=s.hp}
       rw[hh]
       exact Kz.put (v:=v) hl hd R hp hn rfl hk
      |some ob =>
       have e:gu s.hp n (some ob.aF)=Hz.aj ((n,some ob)::h):=by rw[aY,hh]; rfl
       show Kz N pn nx (KK 0) {(s.put o.d v.aI) with hp:=gu s.hp n (some ob.aF)}
       rw[e]
       exact Kz.put (v:=v) hl hd R hp hn rfl hk
    ·exact q.elim
  ·exact q.elim
 |false =>
 rw[har] at q
 simp only at q
 cases had:o.ad with
 |false =>
  rw[had] at q
  rcases QY hl hd R hh hp hn q with ⟨h1,h2,h3⟩|h1
  ·exact .inl ⟨h1,h2,h3.imp (fun h=>.inl ⟨har,jr (fun s' _ _ h=>⟨fun e=>(by rw[had] at e; cases e),h⟩) h⟩) id⟩
  ·exact .inr h1
 |true =>
  rw[had] at q
  simp only at q
  unfold adZ at q
  split at q
  ·rename_i f xs eo eg
   cases hf:(o.fl&&Fe nx o m) with
   |false=>rw[hf] at q; exact q.elim
   |true =>
    rw[hf] at q
    simp only[cond_true] at q
    rw[Bool.and_eq_true] at hf
    have hfl:iV o s:=IK R (by rw[hn]; exact hf.2)
    refine .inl ⟨by rw[eg]; rfl,hfl,.inl (.inl ⟨har,?_⟩)⟩
    split at q
    ·rename_i l sd hb
     obtain⟨hs,q⟩:=jZ q
     have ed:o.dr dr=false:=by unfold aN.dr; rw[eo,hf.1]; cases dr<;>rfl
     rw[ed,eo]
     show aP P f (xs.map s.ev) s.hp n _
     rw[qE R hb (hs (.inl rfl)),hh]
     have hx: ∀ {h':Hz} {s':AS},s'.hp=h'.aj->(h'=h\/ ∃ o,h'=(n,some o)::h/\h.get n=none)-> ∀ i ob,s.hp i=some ob->s'.hp i=some ob:=by
      intro h' s' e1 e2 i ob hi
      rw[e1]
      rw[hh] at hi
      rcases e2 with rfl|⟨o',rfl,hn0⟩
      ·exact hi
      ·rw[aY]
       have hne:i≠n:=by
        rintro rfl
        simp only[Hz.aj,hn0] at hi; cases hi
       simp only[upd,if_neg hne]; exact hi
     rcases q.ok with q|⟨_,e,_⟩|⟨_,_,hn0,q⟩
     ·refine aP.mono q ?_
      rintro t hp' ⟨v,h',e1,e2,e3,hk⟩
      rw[V.seq_eq] at hk
      subst e2
      exact⟨(fun e=>by cases e),fun _=>hx rfl (.inl (e3 rfl).1),Kz.put (v:=v) hl hd R hp hn e1 hk⟩
     ·cases e
     ·refine aP.mono q ?_
      rintro t hp' ⟨v,o',e1,e2,hk⟩
      rw[V.seq_eq] at hk
      subst e2
      exact⟨(fun e=>by cases e),fun _=>hx rfl (.inr ⟨o',rfl,hn0⟩),Kz.put (v:=v) hl hd R hp hn e1 hk⟩
    ·exact q.elim
  ·exact q.elim
theorem OC{N pn ml:Nat}{K:Fm->Hz->Nat->Prop}{dr:Bool}: ∀ {nx:Nat} {ops:List aN} {i:Nat} {m:Fm} {h:Hz} {s:AS},Mc N ops=true->s.fr.length=N->Rp m s.fr->s.hp=h.aj->s.pin=pn->s.nx=nx ->
  OB P dr ml nx K ops i m h->qP P dr ml (fun s=> ∃ m h,s.fr.length=N/\Rp m s.fr/\s.hp=h.aj/\s.pin=pn/\K m h s.nx) ops i s:=by
 intro nx ops
 induction ops generalizing nx with
 |nil =>
  intro i m h s _ hl R hh hp hn q
  exact⟨m,h,hl,R,hh,hp,by show K m h (s.nx+ml); rw[hn]; exact q⟩
 |cons o r ih =>
  intro i m h s hd hl R hh hp hn q
  simp only[Mc,Bool.and_eq_true] at hd
  have hd1: ∀ j,o.d=some j->j<N:=fun j e=>by
   have:=hd.1
   rw[e] at this
   simpa using this
  simp only[qP]
  rw[BF]
  have next: ∀ s',s'.nx=s.nx->s'.pin=s.pin->Kz N pn nx (OB P dr ml nx K r (i+1)) s'->qP P dr ml (fun s=> ∃ m h,s.fr.length=N/\Rp m s.fr/\s.hp=h.aj/\s.pin=pn/\K m h s.nx) r (i+1) s':=by
   rintro s' _ _ ⟨m',h',a1,a2,a3,a4,a5,a6⟩
   exact ih hd.2 a1 a2 a3 a4 a5 a6
  have adk: ∀ s',(∃ k,Kz N pn (nx+k) (OB P dr ml (nx+k) K r (i+1)) s')->qP P dr ml (fun s=> ∃ m h,s.fr.length=N/\Rp m s.fr/\s.hp=h.aj/\s.pin=pn/\K m h s.nx) r (i+1) s':=by
   rintro s' ⟨k,m',h',a1,a2,a3,a4,a5,a6⟩
   exact ih hd.2 a1 a2 a3 a4 a5 a6
  rcases U1 hl hd1 R hh hp hn q with ⟨h1,h2,h3⟩|⟨h1,h2⟩
  ·refine .inl ⟨h1,h2,?_⟩
   rw[hn]
   exact h3.imp (fun h=>h.imp (fun h=>⟨h.1,jr (fun s' a b c=>⟨c.1,next s' a b c.2⟩) h.2⟩) fun h=>⟨h.1,h.2.1,Ip (fun s' a b c=>next s' a b c) h.2.2⟩) (Ot adk)
  ·exact .inr ⟨h1,next _ (dV _ _ _) (fM _ _ _) h2⟩
theorem sJ{N pn:Nat}: ∀ {c:fO} {Q:Qz} {m:Fm} {h:Hz} {s:AS},qQ N c=true->s.fr.length=N->Rp m s.fr->s.hp=h.aj->s.pin=pn->az P N pn c Q m h s.nx->aw P c (Lift N pn Q) s:=by
 intro c
 induction c with
 |skip=>intro Q m h s _ hl R hh hp q; exact⟨m,h,hl,R,hh,hp,q⟩
 |reg dr ops =>
  intro Q m h s hd hl R hh hp q
  exact OC hd hl R hh hp rfl q
 |seq a b ia ib =>
  intro Q m h s hd hl R hh hp q
  simp only[qQ,Bool.and_eq_true] at hd
  simp only[aw]
  refine nM ?_ (ia hd.1 hl R hh hp q)
  rintro e s' ⟨m',h',b1,b2,b3,b4,b5⟩
  cases e with
  |normal=>exact ib hd.2 b1 b2 b3 b4 b5
  |exit j=>exact⟨m',h',b1,b2,b3,b4,b5⟩
  |ret=>exact⟨m',h',b1,b2,b3,b4,b5⟩
 |cond c a b ia ib =>
  intro Q m h s hd hl R hh hp q
  simp only[qQ,Bool.and_eq_true] at hd
  simp only[az] at q
  simp only[aw]
  split at q
  ·rename_i t e
   rw[R.ev e]
   obtain⟨q1,q2⟩:=q
   exact⟨fun e=>ia hd.1 hl R hh hp (q1 e),fun e=>ib hd.2 hl R hh hp (q2 e)⟩
  ·exact q.elim
 |blk id b ib =>
  intro Q m h s hd hl R hh hp q
  simp only[aw]
  refine nM ?_ (ib hd hl R hh hp q)
  rintro e s' ⟨m',h',b1,b2,b3,b4,b5⟩
  cases e with
  |normal=>exact⟨m',h',b1,b2,b3,b4,b5⟩
  |ret=>exact⟨m',h',b1,b2,b3,b4,b5⟩
  |exit j =>
   simp only at b5 ⊢
   by_cases e:j=id
   ·subst e; simp at b5 ⊢; exact⟨m',h',b1,b2,b3,b4,b5⟩
   ·have e1:Nat.beq j id=false:=by
     cases hb:Nat.beq j id with
     |false=>rfl
     |true=>exact absurd (gB hb) e
    have e2:(j==id)=false:=by simpa using e
    rw[e1] at b5; rw[e2]
    exact⟨m',h',b1,b2,b3,b4,b5⟩
 |exit i=>intro Q m h s _ hl R hh hp q; exact⟨m,h,hl,R,hh,hp,q⟩
 |ret=>intro Q m h s _ hl R hh hp q; exact⟨m,h,hl,R,hh,hp,q⟩
 |loop b ib =>
  intro Q m h s _ hl R hh hp q
  have:=q.ok s.fr hl R
  rw[<- hh,<- hp] at this
  simp only[aw]
  rw[hp] at this
  have e:(⟨s.fr,s.hp,s.nx,pn⟩:AS)=s:=by rw[<- hp]
  rw[e] at this
  exact this
end
end Go.Ab
