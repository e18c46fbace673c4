/-
 The typed layer, part 1: typed values, rows, objects. Definitions alone.
-/
import Derived.Test.YtkmldgihhaooaaaGreatDoorLd
import Derived.Test.YtkmldgihhaooaaaGreatDoorLc
namespace Go.Ab
inductive Dat where
 |lin (x:Lin)
 |Ux (x:Bf)
 |rule (x:Rule)
 |fQ (x:aJ)
 |cnt (x:Cnt)
 |prop (x:Prop')
 |clause (x:Clause)
 |elem (x:Elem)
@[reducible] def afy(l:List Bool):T:=.sl 0 false (l.map T.bool)
@[reducible] def afz(l:List (List Int)):T:=.sl 0 false (l.map Go.Ab.ints)
inductive Rw where
 |ints (l:List Int)
 |bools (l:List Bool)
 |strs (l:List Str)
 |bH (l:List (List Int))
 |nY (l:List (List Bool))
 |nZ (l:List (List (List Int)))
 |Cm (l:List Lin)
 |rM (l:List Bf)
 |rules (l:List Rule)
 |cnts (l:List Cnt)
 |clauses (l:List Clause)
 |elems (l:List Elem)
 |nil
inductive V where
 |int (n:Int)
 |bool (b:Bool)
 |u8 (n:Int)
 |str (s:Str)
 |dat (d:Dat)
 |agg (l:List V)
 |row (k:Nat) (full:Bool) (r:Rw)
 |Iq (k:Nat) (full:Bool) (l:List V)
 |ref (k:Nat) (v:V)
 |own (i:Nat)
 |inn (i:Nat)
 |pin (i j off:Nat)
 |ptr (i j off:Nat)
 |qw (i lo hi:Nat)
 |fn (f:FuncId) (cap:List V)
 |eX (l:List V)
 |cnd (b:Bool) (v:V)
 |raw (t:T)
def Dat.aH:Dat->T
 | .lin x=>Vo x
 | .Ux x=>RZ x
 | .rule x=>Lr x
 | .fQ x=>WQ x
 | .cnt x=>Vp x
 | .prop x=>aaV x
 | .clause x=>JL x
 | .elem x=>gJ x
def Dat.kd:Dat->Nat
 | .lin _=>5
 | .Ux _=>7
 | .rule _=>19
 | .fQ _=>11
 | .cnt _=>3
 | .prop _=>7
 | .clause _=>4
 | .elem _=>3
def Rw.aT:Rw->List T
 | .ints l=>l.map T.int
 | .bools l=>l.map T.bool
 | .strs l=>l.map eS
 | .bH l=>l.map Go.Ab.ints
 | .nY l=>l.map afy
 | .nZ l=>l.map afz
 | .Cm l=>l.map Vo
 | .rM l=>l.map RZ
 | .rules l=>l.map Lr
 | .cnts l=>l.map Vp
 | .clauses l=>l.map JL
 | .elems l=>l.map gJ
 | .nil=>[]
mutual
def V.aH:V->T
 | .int n=>.int n
 | .bool b=>.bool b
 | .u8 n=>.lit (.int .u8 n)
 | .str s=>eS s
 | .dat d=>d.aH
 | .agg l=>.agg (V.aT l)
 | .row k f r=>.sl k f r.aT
 | .Iq k f l=>.sl k f (V.aT l)
 | .ref k v=>.ref k v.aH
 | .own i=>.own i
 | .inn i=>.own i
 | .pin i j off=>.ptr i j off
 | .ptr i j off=>.ptr i j off
 | .qw i lo hi=>.qw i lo hi
 | .fn f cap=>.fn f (V.aT cap)
 | .eX l=>.eX (V.aT l)
 | .cnd b v=>bif b then v.aH else T.un
 | .raw t=>t
def V.aT:List V->List T
 |[]=>[]
 |v::r=>v.aH::V.aT r
end
def Dat.cells:Dat->List V
 | .lin x=>[.int x.c,.int x.n,.int x.t,.int x.f]
 | .Ux x=>[.int x.message,.int x.Gh,.int x.bound.c,.int x.bound.n,.int x.bound.t,.int x.bound.f]
 | .rule x=>[.str x.name,.int x.kind,.int x.fr,.int x.to,.int x.je,.int x.zQ,.row 0 false (.ints x.response),.row 7 false (.rM x.guards),.row 0 false (.ints x.ex),.row 0 false (.ints x.all),.int x.read,.int x.write,.row 0 false (.ints x.send),.int x.pos,.row 0 false (.ints x.left),.row 0 false (.ints x.right),.row 0 false (.ints x.parent),.int x.direction]
 | .fQ x=>[.str x.name,.int x.topology,.row 0 false (.strs x.states),.row 0 false (.strs x.messages),.row 0 false (.strs x.values),.int x.fault,.row 5 false (.Cm x.bZ),.row 0 false (.ints x.initial),.row 0 false (.ints x.leader),.row 19 false (.rules x.rules)]
 | .cnt x=>[.row 0 false (.ints x.states),.int x.least]
 | .prop x=>[.str x.name,.int x.kind,.row 0 false (.ints x.start),.row 3 false (.cnts x.bad),.row 0 false (.ints x.adjacent),.row 0 false (.ints x.goal)]
 | .clause x=>[.row 0 false (.bH x.each),.row 0 false (.ints x.values),.row 0 false (.ints x.some)]
 | .elem x=>[.int x.value,.row 0 false (.ints x.counts)]
theorem Dat.Ir(d:Dat):d.aH= .agg (V.aT d.cells):=by cases d<;>rfl
theorem Dat.afA(d:Dat):d.aH.kd=d.kd:=by cases d<;>rfl
def Rw.len:Rw->Nat
 | .ints l=>l.length
 | .bools l=>l.length
 | .strs l=>l.length
 | .bH l=>l.length
 | .nY l=>l.length
 | .nZ l=>l.length
 | .Cm l=>l.length
 | .rM l=>l.length
 | .rules l=>l.length
 | .cnts l=>l.length
 | .clauses l=>l.length
 | .elems l=>l.length
 | .nil=>0
def Rw.lenV:Rw->V
 | .ints l=>.int l.length
 | .bools l=>.int l.length
 | .strs l=>.int l.length
 | .bH l=>.int l.length
 | .nY l=>.int l.length
 | .nZ l=>.int l.length
 | .Cm l=>.int l.length
 | .rM l=>.int l.length
 | .rules l=>.int l.length
 | .cnts l=>.int l.length
 | .clauses l=>.int l.length
 | .elems l=>.int l.length
 | .nil=>.int 0
def Rw.rng(n:Int):Rw->Prop
 | .ints l=>0<=n/\n<l.length
 | .bools l=>0<=n/\n<l.length
 | .strs l=>0<=n/\n<l.length
 | .bH l=>0<=n/\n<l.length
 | .nY l=>0<=n/\n<l.length
 | .nZ l=>0<=n/\n<l.length
 | .Cm l=>0<=n/\n<l.length
 | .rM l=>0<=n/\n<l.length
 | .rules l=>0<=n/\n<l.length
 | .cnts l=>0<=n/\n<l.length
 | .clauses l=>0<=n/\n<l.length
 | .elems l=>0<=n/\n<l.length
 | .nil=>False
def Rw.qH(n:Int):Rw->Prop
 | .ints l=>0<=n/\n<=l.length
 | .bools l=>0<=n/\n<=l.length
 | .strs l=>0<=n/\n<=l.length
 | .bH l=>0<=n/\n<=l.length
 | .nY l=>0<=n/\n<=l.length
 | .nZ l=>0<=n/\n<=l.length
 | .Cm l=>0<=n/\n<=l.length
 | .rM l=>0<=n/\n<=l.length
 | .rules l=>0<=n/\n<=l.length
 | .cnts l=>0<=n/\n<=l.length
 | .clauses l=>0<=n/\n<=l.length
 | .elems l=>0<=n/\n<=l.length
 | .nil=>n=0
def Rw.get(i:Nat):Rw->V
 | .ints l=>.int (l.getD i 0)
 | .bools l=>.bool (l.getD i false)
 | .strs l=>.str (l.getD i [])
 | .bH l=>.row 0 false (.ints (l.getD i []))
 | .nY l=>.row 0 false (.bools (l.getD i []))
 | .nZ l=>.row 0 false (.bH (l.getD i []))
 | .Cm l=>.dat (.lin (l.getD i default))
 | .rM l=>.dat (.Ux (l.getD i default))
 | .rules l=>.dat (.rule (l.getD i default))
 | .cnts l=>.dat (.cnt (l.getD i default))
 | .clauses l=>.dat (.clause (l.getD i default))
 | .elems l=>.dat (.elem (l.getD i default))
 | .nil=>.raw .any
def Rw.take(i:Nat):Rw->Rw
 | .ints l=>.ints (l.take i)
 | .bools l=>.bools (l.take i)
 | .strs l=>.strs (l.take i)
 | .bH l=>.bH (l.take i)
 | .nY l=>.nY (l.take i)
 | .nZ l=>.nZ (l.take i)
 | .Cm l=>.Cm (l.take i)
 | .rM l=>.rM (l.take i)
 | .rules l=>.rules (l.take i)
 | .cnts l=>.cnts (l.take i)
 | .clauses l=>.clauses (l.take i)
 | .elems l=>.elems (l.take i)
 | .nil=>.nil
def Rw.drop(i:Nat):Rw->Rw
 | .ints l=>.ints (l.drop i)
 | .bools l=>.bools (l.drop i)
 | .strs l=>.strs (l.drop i)
 | .bH l=>.bH (l.drop i)
 | .nY l=>.nY (l.drop i)
 | .nZ l=>.nZ (l.drop i)
 | .Cm l=>.Cm (l.drop i)
 | .rM l=>.rM (l.drop i)
 | .rules l=>.rules (l.drop i)
 | .cnts l=>.cnts (l.drop i)
 | .clauses l=>.clauses (l.drop i)
 | .elems l=>.elems (l.drop i)
 | .nil=>.nil
def Rw.app:Rw->Rw->Option Rw
 |r,.nil=>some r
 | .nil,r=>some r
 | .ints a,.ints b=>some (.ints (a++b))
 | .bools a,.bools b=>some (.bools (a++b))
 | .strs a,.strs b=>some (.strs (a++b))
 | .bH a,.bH b=>some (.bH (a++b))
 | .nY a,.nY b=>some (.nY (a++b))
 | .nZ a,.nZ b=>some (.nZ (a++b))
 | .Cm a,.Cm b=>some (.Cm (a++b))
 | .rM a,.rM b=>some (.rM (a++b))
 | .rules a,.rules b=>some (.rules (a++b))
 | .cnts a,.cnts b=>some (.cnts (a++b))
 | .clauses a,.clauses b=>some (.clauses (a++b))
 | .elems a,.elems b=>some (.elems (a++b))
 |_,_=>none
def Rw.kd:Rw->Nat
 | .ints _=>0
 | .bools _=>0
 | .strs _=>0
 | .bH _=>0
 | .nY _=>0
 | .nZ _=>0
 | .Cm _=>5
 | .rM _=>7
 | .rules _=>19
 | .cnts _=>3
 | .clauses _=>4
 | .elems _=>3
 | .nil=>0
def V.one:V->Option Rw
 | .int n=>some (.ints [n])
 | .bool b=>some (.bools [b])
 | .str s=>some (.strs [s])
 | .row 0 false (.ints l)=>some (.bH [l])
 | .row 0 false (.bools l)=>some (.nY [l])
 | .row 0 false (.bH l)=>some (.nZ [l])
 | .dat (.lin x)=>some (.Cm [x])
 | .dat (.Ux x)=>some (.rM [x])
 | .dat (.rule x)=>some (.rules [x])
 | .dat (.cnt x)=>some (.cnts [x])
 | .dat (.clause x)=>some (.clauses [x])
 | .dat (.elem x)=>some (.elems [x])
 | .agg [.int a,.row 0 false (.ints c)]=>some (.elems [⟨a,c⟩])
 | .agg [.row 0 false (.ints c),.int a]=>some (.cnts [⟨c,a⟩])
 | .agg [.row 0 false (.bH e),.row 0 false (.ints v),.row 0 false (.ints s)]=>some (.clauses [⟨e,v,s⟩])
 |_=>none
def Rw.ZI:List V->Option Rw
 |[]=>some .nil
 |v::r=>match v.one,Rw.ZI r with
  |some a,some b=>a.app b
  |_,_=>none
def Rw.vs:Rw->List V
 | .ints l=>l.map .int
 | .bools l=>l.map .bool
 | .strs l=>l.map .str
 | .bH l=>l.map fun c=>.row 0 false (.ints c)
 | .nY l=>l.map fun c=>.row 0 false (.bools c)
 | .nZ l=>l.map fun c=>.row 0 false (.bH c)
 | .Cm l=>l.map fun c=>.dat (.lin c)
 | .rM l=>l.map fun c=>.dat (.Ux c)
 | .rules l=>l.map fun c=>.dat (.rule c)
 | .cnts l=>l.map fun c=>.dat (.cnt c)
 | .clauses l=>l.map fun c=>.dat (.clause c)
 | .elems l=>l.map fun c=>.dat (.elem c)
 | .nil=>[]
inductive OV where
 |row (ty k:Nat) (r:Rw) (x:List V)
 |box (ty k:Nat) (v:V)
 |map (ty:Nat) (es:List (Int×List Bool)) (x:List (Int×V))
 |gen (ty k:Nat) (x:List V)
def adq(e:Int×List Bool):T:=.eX [.int e.1,.sl 0 false (e.2.map T.bool)]
def adr(e:Int×V):T:=.eX [.int e.1,e.2.aH]
def OV.au:OV->Ob
 | .row ty k r x=>⟨ty,k,r.aT++V.aT x⟩
 | .box ty k v=>⟨ty,k,[v.aH]⟩
 | .map ty es x=>⟨ty,iK,es.map adq++x.map adr⟩
 | .gen ty k x=>⟨ty,k,V.aT x⟩
abbrev Fm:=List (Nat×V)
def Fm.get(i:Nat):Fm->Option V
 |[]=>none
 |(j,v)::r=>bif Nat.beq j i then some v else Fm.get i r
abbrev Hz:=List (Nat×Option OV)
def Hz.get(i:Nat):Hz->Option OV
 |[]=>none
 |(j,o)::r=>bif Nat.beq j i then o else Hz.get i r
def Hz.ay(h:Hz):Hp:=fun i=>(h.get i).map OV.au
mutual
def En:T->V
 | .lit (.int .i64 n)=>.int n
 | .lit (.int .u8 n)=>.u8 n
 | .lit (.bool b)=>.bool b
 | .lit (.string b)=>.str b.data.toList
 | .sl k f []=>.row k f .nil
 | .agg l=>.agg (ZI l)
 | .fn f l=>.fn f (ZI l)
 |t=>.raw t
def ZI:List T->List V
 |[]=>[]
 |t::r=>En t::ZI r
end
def V.kd:V->Option Nat
 | .dat d=>some d.kd
 | .agg l=>some (l.length+1)
 | .cnd _ _=>none
 | .raw _=>none
 |_=>some 0
def V.cells:V->Option (List V)
 | .dat d=>some d.cells
 | .agg l=>some l
 | .cnd _ _=>none
 | .raw _=>none
 |v=>some [v]
def V.kZ(h:Hz):V->Bool
 | .own i=>(h.get i).isSome
 | .ptr i _ _=>(h.get i).isSome
 | .qw i _ _=>(h.get i).isSome
 | .cnd _ _=>false
 | .raw _=>false
 | .eX _=>false
 | .inn _=>false
 | .pin _ _ _=>false
 |_=>true
def V.part(off:Nat):Nat->V->Option V
 |0,.dat d=>d.cells[off]?
 |0,.agg l=>l[off]?
 |k+1,.dat (.Ux x)=>bif (Nat.beq off 2)&&(Nat.beq k 4) then some (.dat (.lin x.bound)) else none
 |k+1,.agg l=>some (.agg ((l.drop off).take k))
 |_,_=>none
inductive VC(p k:Prop):Prop where
 |mk:p->k->VC p k
inductive Fork(b:Bool)(x y:Prop):Prop where
 |mk:(b=true->x)->(b=false->y)->Fork b x y
inductive Sd where
 |no
 |yes (p:Prop)
def Sd.holds:Sd->Prop
 | .no=>True
 | .yes p=>p
def Sd.and:Sd->Sd->Sd
 | .no,b=>b
 |a,.no=>a
 | .yes p,.yes q=>.yes (p/\q)
def Sd.imp(t:Bool)(b:Bool):Sd->Sd
 | .no=>.no
 | .yes p=>.yes (t=b->p)
def Sd.vc(g:Option Bool)(k:Prop):Sd->Prop
 | .no=>k
 | .yes p=>match g with
  |none=>VC p k
  |some b=>VC (b=true->p) k
def V.bare:V->V×Sd
 | .cnd c v=>(v,.yes (c=true))
 |v=>(v,.no)
mutual
def V.free:V->Bool
 | .own _=>false
 | .ptr _ _ _=>false
 | .qw _ _ _=>false
 | .inn _=>false
 | .pin _ _ _=>false
 | .cnd _ _=>false
 | .raw t=>t.free
 | .agg l=>V.bW l
 | .fn _ l=>V.bW l
 | .eX l=>V.bW l
 |_=>true
def V.bW:List V->Bool
 |[]=>true
 |v::r=>V.free v&&V.bW r
end
def CB(m:Fm):X->Option V
 | .t n=>m.get n
 | .c t=>some (En t)
def evL(m:Fm):List X->Option (List V)
 |[]=>some []
 |x::r=>match CB m x,evL m r with
  |some v,some l=>some (v::l)
  |_,_=>none
abbrev DJ:=Option (V×Sd)
def Sm(m:Fm)(x:X)(f:V->DJ):DJ :=
 match CB m x with
 |some v=>match v.bare with
  |(u,s)=>match f u with
   |some (r,s')=>some (r,s.and s')
   |none=>none
 |none=>none
def qz2(m:Fm)(x y:X)(f:V->V->DJ):DJ:=Sm m x fun u=>Sm m y fun v=>f u v
def okI(n:Int):Prop:= -9223372036854775808<=n/\n<9223372036854775808
def UG(a b:Int):Int:=a.fdiv (2 ^ min b.toNat 64)
theorem BH(a:Int):UG a 1=a / 2:=by
 show Int.fdiv a 2=_;rw[Int.fdiv_eq_ediv_of_nonneg _ (by decide)]
def afB(op:BinOp):V->V->DJ
 | .int a,.int b=>match op with
  | .add=>some (.int (a+b),.yes (okI (a+b)))
  | .sub=>some (.int (a-b),.yes (okI (a-b)))
  | .mul=>some (.int (a*b),.yes (okI (a*b)))
  | .eql=>some (.bool (a==b),.no)
  | .neq=>some (.bool (a !=b),.no)
  | .lss=>some (.bool (decide (a<b)),.no)
  | .leq=>some (.bool (decide (a<=b)),.no)
  | .gtr=>some (.bool (decide (b<a)),.no)
  | .geq=>some (.bool (decide (b<=a)),.no)
  |_=>none
 | .u8 a,.u8 b=>match op with
  | .eql=>some (.bool (a==b),.no)
  | .neq=>some (.bool (a !=b),.no)
  | .lss=>some (.bool (decide (a<b)),.no)
  | .leq=>some (.bool (decide (a<=b)),.no)
  | .gtr=>some (.bool (decide (b<a)),.no)
  | .geq=>some (.bool (decide (b<=a)),.no)
  |_=>none
 | .str a,.str b=>match op with
  | .eql=>some (.bool (a==b),.no)
  | .neq=>some (.bool (!(a==b)),.no)
  | .add=>some (.str (a++b),.yes (a.length+b.length<=9223372036854775807))
  |_=>none
 | .raw (.lit (.int .u64 a)),.raw (.lit (.int .u64 b))=>match op with
  | .shr=>some (.raw (.lit (.int .u64 (UG a b))),.yes (0<=b))
  | .and=>some (.raw (.lit (.int .u64 (ae7 .u64 a b))),.no)
  | .rem=>some (.raw (.lit (.int .u64 (a.tmod b))),.yes (b≠0))
  | .eql=>some (.bool (a==b),.no)
  | .geq=>some (.bool (decide (b<=a)),.no)
  |_=>none
 |_,_=>none
def DK:X->Bool
 | .c (.lit (.bool true))=>true
 |_=>false
def zx:X->Bool
 | .c (.lit (.bool false))=>true
 |_=>false
def aeP(t:Bool)(xa xb:X):V->V->Option V
 | .bool x,.bool y=>bif DK xa then some (.bool (t||y)) else bif zx xb then some (.bool (t&&x)) else some (.bool (bif t then x else y))
 | .int x,.int y=>some (.int (bif t then x else y))
 | .str x,.str y=>some (.str (bif t then x else y))
 |_,_=>none
def aaX(t:Bool)(xa xb:X)(a b:V×Sd):DJ :=
 match a,b with
 |(a,sa),(b,sb)=>match aeP t xa xb a b with
  |some v=>some (v,(sa.imp t true).and (sb.imp t false))
  |none=>none
def dO{α:Type}(b:Bool)(x:Option α):Option α:=bif b then x else none
def V.Vr(k:Nat):Option V->DJ
 |some u=>some (.ref k u,.no)
 |none=>none
def V.JM:Option V->DJ
 |some u=>some (u,.no)
 |none=>none
def faZ(h:Hz)(off k:Nat):V->DJ
 | .ref kt v=>dO (!(Nat.beq kt 0)&&qy (bg kt) off k) (V.Vr k (v.part off k))
 | .ptr i j o=>dO (h.get i).isSome (some (.ptr i j (o+off),.no))
 |_=>none
def fvZ(off k:Nat)(v:V):DJ :=
 match v.kd with
 |some kt=>dO (!(Nat.beq kt 0)&&qy (bg kt) off k) (V.JM (v.part off k))
 |none=>none
def afC:List V->Nat->Option V
 |[],_=>none
 |v::_,0=>some v
 |_::r,n+1=>afC r n
def iaZ(h:Hz)(k:Nat):V->V->DJ
 | .Iq k' _ l,.int n=>match afC l n.toNat with
  |some v=>dO (Nat.beq k' k) (some (.ref k v,.yes (0<=n)))
  |none=>none
 | .row k' _ r,.int n=>dO (Nat.beq k' k) (some (.ref k (r.get n.toNat),.yes (r.rng n)))
 | .own o,.int n=>match h.get o with
  |some (.row _ k' r [])=>dO (Nat.beq k' k) (some (.ptr o n.toNat 0,.yes (r.rng n)))
  |some (.gen _ k' x)=>dO (Nat.beq k' k) (some (.ptr o n.toNat 0,.yes (0<=n/\n<x.length)))
  |_=>none
 | .qw o lo hi,.int n=>match h.get o with
  |some (.row _ k' _ [])=>dO (Nat.beq k' k) (some (.ptr o (lo+n.toNat) 0,.yes (0<=n/\n<(hi-lo:Nat))))
  |_=>none
 |_,_=>none
def chZ:V->V->DJ
 | .str s,.int n=>some (.u8 (s.getD n.toNat 0).toNat,.yes (0<=n/\n<s.length))
 | .str s,.u8 n=>some (.u8 (s.getD n.toNat 0).toNat,.yes (0<=n/\n<s.length))
 |_,_=>none
def ldB(k j off ko:Nat)(v:V):DJ :=
 bif Nat.beq j 0 then(bif Nat.beq off 0&&Nat.beq ko k then some (v,.no) else dO (!(Nat.beq ko 0)&&qy (bg ko) off k) (V.JM (v.part off k))) else none
def ldR(k j off ko:Nat)(r:Rw):DJ :=
 bif Nat.beq off 0&&Nat.beq ko k then some (r.get j,.yes (r.rng j)) else
  match (r.get j).part off k with
  |some u=>dO (!(Nat.beq ko 0)&&qy (bg ko) off k) (some (u,.yes (r.rng j)))
  |none=>none
def ldZ(h:Hz)(k:Nat):V->DJ
 | .ref k' v=>dO (Nat.beq k' k&&Nat.blt 0 (bg k)) (some (v,.no))
 | .ptr i j off=>match h.get i with
  |some (.box _ ko v)=>ldB k j off ko v
  |some (.row _ ko r [])=>ldR k j off ko r
  |_=>none
 |_=>none
def ncZ(h:Hz):V->DJ
 | .ref k v=>some (.ref k v,.no)
 | .ptr i j o=>dO (h.get i).isSome (some (.ptr i j o,.no))
 | .fn f l=>some (.fn f l,.no)
 |_=>none
def ads(h:Hz)(str:Bool):V->DJ
 | .row _ _ r=>dO (!str) (some (r.lenV,.no))
 | .Iq _ _ l=>dO (!str) (some (.int l.length,.no))
 | .str s=>dO str (some (.int s.length,.no))
 | .own o=>match h.get o with
  |some (.row _ k r x)=>dO (!str&& !(Nat.beq k iK)) (match x with|[]=>some (r.lenV,.no)|x=>some (.int (r.len+x.length),.no))
  |some (.gen _ k x)=>dO (!str&& !(Nat.beq k iK)) (some (.int x.length,.no))
  |_=>none
 | .qw o lo hi=>dO (!str&&(h.get o).isSome) (some (.int (hi-lo:Nat),.no))
 |_=>none
def mxZ:V->V->DJ
 | .int a,.int b=>some (.int (max a b),.no)
 |_,_=>none
def CG(m:Fm):List X->Option (List V×Sd)
 |[]=>some ([],.no)
 |x::r=>match CB m x,CG m r with
  |some v,some (l,s)=>match v.bare with|(u,s')=>some (u::l,s'.and s)
  |_,_=>none
def WU:List (Nat×Nat×X)->List V->List V->Option (List V)
 |[],[],z=>some z
 |(off,n,_)::ps,v::vs,z=>match v.cells with
  |some c=>dO (Nat.beq c.length n&&Nat.ble (off+n) z.length) (WU ps vs (z.take off++c++z.drop (off+n)))
  |none=>none
 |_,_,_=>none
def Eo(h:Hz):List V->Bool
 |[]=>true
 |v::r=>v.kZ h&&Eo h r
def mkZ(m:Fm)(h:Hz)(z:List T)(ps:List (Nat×Nat×X)):DJ :=
 match CG m (ps.map fun p=>p.2.2) with
 |some (vs,s)=>match WU ps vs (ZI z) with
  |some l=>dO (Eo h vs) (some (.agg l,s))
  |none=>none
 |none=>none
def FN(k:Nat):List V->Bool
 |[]=>true
 |v::r=>(match v.kd with|some k'=>Nat.beq k' k|none=>false)&&FN k r
def aaY(n:Nat):List (Nat×X)->List V->List V->Option (List V)
 |[],[],z=>some z
 |(i,_)::ps,v::vs,z=>dO (Nat.blt i n) (aaY n ps vs (z.set i v))
 |_,_,_=>none
def msZ(m:Fm)(h:Hz)(k:Nat)(z:T)(n:Nat)(ps:List (Nat×X)):DJ :=
 match CG m (ps.map fun p=>p.2) with
 |some (vs,s)=>match aaY n ps vs (List.replicate n (En z)) with
  |some l=>dO ((z.kd==k)&&z.free&&FN k vs&&Eo h vs&&V.bW vs&&Nat.ble (n*bg k) 16777216&&Nat.blt 0 (bg k))
    (match Rw.ZI l with
    |some r=>some (.row k true r,s)
    |none=>some (.Iq k true l,s))
  |none=>none
 |none=>none
def kOk(k k':Nat):Rw->Bool
 | .nil=>true
 |_=>Nat.beq k' k
def LC(m:Fm):Option X->Option (Option V×Sd)
 |none=>some (none,.no)
 |some x=>match CB m x with
  |some v=>match v.bare with|(u,s)=>some (some u,s)
  |none=>none
def aaZ(k k':Nat)(f:Bool)(r:Rw):Option V->Option V->Option V->DJ
 |none,none,none=>dO (kOk k k' r) (some (.row k f r,.no))
 |some (.int a),none,none=>dO (kOk k k' r) (some (.row k f (r.drop a.toNat),.yes (r.qH a)))
 |none,some (.int b),none=>dO (kOk k k' r) (some (.row k (f&&decide (b=r.len)) (r.take b.toNat),.yes (r.qH b)))
 |some (.int a),some (.int b),none=>dO (kOk k k' r) (some (.row k false ((r.take b.toNat).drop a.toNat),.yes (0<=a/\a<=b/\r.qH b)))
 |none,some (.int b),some (.int c)=>dO (kOk k k' r) (some (.row k (decide (b=c)) (r.take b.toNat),.yes (0<=b/\b<=c/\r.qH c)))
 |_,_,_=>none
def aa0(k i ko:Nat)(r:Rw):Option V->Option V->Option V->DJ
 |some (.int a),none,none=>dO (Nat.beq ko k) (some (.qw i a.toNat r.len,.yes (r.qH a)))
 |none,some (.int b),none=>dO (Nat.beq ko k) (some (.qw i 0 b.toNat,.yes (r.qH b)))
 |some (.int a),some (.int b),none=>dO (Nat.beq ko k) (some (.qw i a.toNat b.toNat,.yes (0<=a/\a<=b/\r.qH b)))
 |_,_,_=>none
def Vs(k i ko:Nat)(r:Rw)(xs:List V):Option V->Option V->Option V->DJ
 |none,some (.int b),none=>dO (Nat.beq ko k) (some (.qw i 0 b.toNat,.yes (r.qH b)))
 |lo,hi,mx=>match xs with|[]=>aa0 k i ko r lo hi mx|_=>none
def slZ(h:Hz)(x:Bool)(k:Nat)(v:V)(lo hi mx:Option V):DJ :=
 match v with
 | .row k' f r=>aaZ k k' f r lo hi mx
 | .own i=>bif x then(match h.get i with
  |some (.row _ ko r xs)=>Vs k i ko r xs lo hi mx
  |_=>none) else none
 |_=>none
def slX(m:Fm)(h:Hz)(b:Bool)(k:Nat)(x:X)(lo hi mx:Option X):DJ :=
 Sm m x fun v=>match LC m lo,LC m hi,LC m mx with
  |some (lo,s1),some (hi,s2),some (mx,s3)=>match slZ h b k v lo hi mx with
   |some (u,s)=>some (u,s1.and (s2.and (s3.and s)))
   |none=>none
  |_,_,_=>none
def ssZ(s:Str):Option V->Option V->DJ
 |some (.int a),none=>some (.str (s.drop a.toNat),.yes (0<=a/\a<=s.length))
 |none,some (.int b)=>some (.str (s.take b.toNat),.yes (0<=b/\b<=s.length))
 |some (.int a),some (.int b)=>some (.str ((s.take b.toNat).drop a.toNat),.yes (0<=a/\a<=b/\b<=s.length))
 |_,_=>none
def ssX(m:Fm)(x:X)(lo hi:Option X):DJ :=
 Sm m x fun v=>match v,LC m lo,LC m hi with
  | .str s,some (lo,s1),some (hi,s2)=>match ssZ s lo hi with
   |some (u,s)=>some (u,s1.and (s2.and s))
   |none=>none
  |_,_,_=>none
def exZ(i:Nat):V->DJ
 | .eX l=>match l[i]? with|some v=>some (v,.no)|none=>none
 |_=>none
def afD(ne:Bool)(n:Nat):V->V->DJ
 | .dat (.lin x),.dat (.lin y)=>dO (Nat.beq n 4) (some (.bool (bif ne then !(x==y) else x==y),.no))
 | .dat (.Ux x),.dat (.Ux y)=>dO (Nat.beq n 6) (some (.bool (bif ne then !(x==y) else x==y),.no))
 |_,_=>none
def mfZ(m:Fm)(h:Hz)(f:FuncId)(cap:List X):DJ :=
 match CG m cap with
 |some (l,s)=>dO (Eo h l&&FN 0 l&&Nat.blt f 4096) (some (.fn f l,s))
 |none=>none
def mbZ(f:FuncId):V->DJ
 | .agg l=>dO (Nat.blt f 4096) (some (.fn (f+4096) l,.no))
 | .dat d=>dO (Nat.blt f 4096) (some (.fn (f+4096) d.cells,.no))
 |_=>none
def qz(m:Fm)(h:Hz):oK->DJ
 | .mv x=>match CB m x with|some v=>some (v,.no)|none=>none
 | .pick c a b=>Sm m c fun c=>match c,CB m a,CB m b with
  | .bool t,some va,some vb=>aaX t a b va.bare vb.bare
  |_,_,_=>none
 | .bin op x y=>qz2 m x y (afB op)
 | .bb ne x y=>qz2 m x y fun x y=>match x,y with
  | .bool a,.bool b=>some (.bool (bif ne then !(a==b) else a==b),.no)
  |_,_=>none
 | .not x=>Sm m x fun v=>match v with| .bool b=>some (.bool !b,.no)|_=>none
 | .conv .i64 x=>Sm m x fun v=>match v with
  | .int n=>some (.int n,.yes (okI n))
  | .u8 n=>some (.int n,.yes (okI n))
  | .raw (.lit (.int .u64 n))=>some (.int n,.yes (okI n))
  |_=>none
 | .conv .u64 x=>Sm m x fun v=>match v with
  | .int n=>some (.raw (.lit (.int .u64 n)),.yes (0<=n/\n<18446744073709551616))
  | .raw (.lit (.int .i64 n))=>some (.raw (.lit (.int .u64 (IntKind.u64.wrap n))),.no)
  |_=>none
 | .conv .u8 x=>Sm m x fun v=>match v with
  | .raw (.lit (.int .u64 n))=>some (.u8 n,.yes (0<=n/\n<256))
  |_=>none
 | .fa off k x=>Sm m x (faZ h off k)
 | .ia k x i=>qz2 m x i (iaZ h k)
 | .ch x i=>qz2 m x i chZ
 | .ld k x=>Sm m x (ldZ h k)
 | .nc x=>Sm m x (ncZ h)
 | .len s x=>Sm m x (ads h s)
 | .mx x y=>qz2 m x y mxZ
 | .mk z ps=>mkZ m h z ps
 | .ms _ k z n ps=>msZ m h k z n ps
 | .sl k x lo hi mx=>slX m h false k x lo hi mx
 | .X9 k x lo hi mx=>slX m h true k x lo hi mx
 | .ss x lo hi=>ssX m x lo hi
 | .ex x i=>Sm m x (exZ i)
 | .mf f cap=>mfZ m h f cap
 | .eqs ne n x y=>qz2 m x y (afD ne n)
 | .mb f x=>Sm m x (mbZ f)
 |_=>none
theorem aeQ(b:ByteArray):eS b.data.toList= .lit (.string b):=by
 unfold eS bs; simp
mutual
theorem Ah:(t:T)->(En t).aH=t
 | .lit v=>by
  cases v with
  |int k n=>cases k<;>simp[En,V.aH]
  |bool b=>simp[En,V.aH]
  |string b=>simp only[En,V.aH]; exact aeQ b
  |_=>simp[En,V.aH]
 | .agg l=>by simp only[En,V.aH]; rw[DL l]
 | .sl k f l=>by cases l<;>simp[En,V.aH,Rw.aT]
 | .ref k t=>by simp[En,V.aH]
 | .own i=>by simp[En,V.aH]
 | .ptr i j k=>by simp[En,V.aH]
 | .qw i j k=>by simp[En,V.aH]
 | .fn f l=>by simp only[En,V.aH]; rw[DL l]
 | .eX l=>by simp[En,V.aH]
 | .any=>by simp[En,V.aH]
theorem DL:(l:List T)->V.aT (ZI l)=l
 |[]=>rfl
 |t::r=>by simp only[ZI,V.aT]; rw[Ah t,DL r]
end
theorem fF(l:List V):V.aT l=l.map V.aH:=by
 induction l with
 |nil=>rfl
 |cons v r ih=>simp[V.aT,ih]
theorem dP(l:List V):(V.aT l).length=l.length:=by rw[fF]; simp
theorem xO(a b:List V):V.aT (a++b)=V.aT a++V.aT b:=by simp[fF]
theorem LD(a:List V)(n:Nat):V.aT (a.take n)=(V.aT a).take n:=by simp[fF]
theorem LG(a:List V)(n:Nat):V.aT (a.drop n)=(V.aT a).drop n:=by simp[fF]
def Rp(m:Fm)(fr:List T):Prop:= ∀ i v,m.get i=some v->fr[i]? =some v.aH
theorem Rp.getD{m:Fm}{fr:List T}(R:Rp m fr){i:Nat}{v:V}{d:T}(h:m.get i=some v):fr.getD i d=v.aH:=by
 rw[List.getD_eq_getElem?_getD,R i v h]; rfl
theorem Rp.ev{m:Fm}{s:AS}(R:Rp m s.fr){x:X}{v:V}(h:CB m x=some v):s.ev x=v.aH:=by
 cases x with
 |t n=>exact R.getD h
 |c t=>simp only[CB,Option.some.injEq] at h; subst h; exact(Ah t).symm
theorem eU{v u:V}{s:Sd}(h:v.bare=(u,s))(hs:s.holds):v.aH=u.aH:=by
 unfold V.bare at h;split at h
 ·cases h; simp only[Sd.holds] at hs; simp[V.aH,hs]
 ·cases h; rfl
theorem Sd.lN{a b:Sd}:(a.and b).holds↔a.holds/\b.holds:=by cases a<;>cases b<;>simp[Sd.and,Sd.holds]
theorem Sd.Ot{t b:Bool}{s:Sd}:(s.imp t b).holds↔(t=b->s.holds):=by cases s<;>simp[Sd.imp,Sd.holds]
theorem mY{m:Fm}{s:AS}(R:Rp m s.fr){x:X}{f:V->DJ}{r:V}{sd:Sd}(h:Sm m x f=some (r,sd))(hs:sd.holds): ∃ u s',f u=some (r,s')/\s'.holds/\s.ev x=u.aH:=by
 unfold Sm at h;split at h
 ·rename_i v hv;split at h;rename_i u s0 hb;split at h
  ·rename_i r' s' hf;cases h;rw[Sd.lN] at hs;exact⟨u,s',hf,hs.2,by rw[R.ev hv,eU hb hs.1]⟩
  ·cases h
 ·cases h
theorem DN{m:Fm}{s:AS}(R:Rp m s.fr){x y:X}{f:V->V->DJ}{r:V}{sd:Sd}(h:qz2 m x y f=some (r,sd))(hs:sd.holds): ∃ u v s',f u v=some (r,s')/\s'.holds/\s.ev x=u.aH/\s.ev y=v.aH:=by
 obtain⟨u,s',h1,h2,h3⟩:=mY R h hs;obtain⟨v,s'',h4,h5,h6⟩:=mY R h1 h2;exact⟨u,v,s'',h4,h5,h3,h6⟩
theorem aU{α:Type}{b:Bool}{x:Option α}{y:α}(h:dO b x=some y):b=true/\x=some y:=by
 cases b<;>simp[dO] at h; exact⟨rfl,h⟩
theorem agW{n:Int}(h1:0<=n)(h2:n<18446744073709551616):IntKind.u64.wrap n=n:=by
 have e:IntKind.u64.wrap n=(if(false&&decide (n % 18446744073709551616>=9223372036854775808))=true then n % 18446744073709551616-18446744073709551616 else n % 18446744073709551616):=rfl;rw[e];simp only[Bool.false_and,Bool.false_eq_true,if_false];omega
theorem afE{n:Int}(h1:0<=n)(h2:n<256):IntKind.u8.wrap n=n:=by
 have e:IntKind.u8.wrap n=(if(false&&decide (n % 256>=128))=true then n % 256-256 else n % 256):=rfl;rw[e];simp only[Bool.false_and,Bool.false_eq_true,if_false];omega
theorem WV{n:Int}(h:okI n):IntKind.i64.wrap n=n:=wrap64 h.1 h.2
theorem Rw.fB(r:Rw):r.aT.length=r.len:=by cases r<;>simp[Rw.aT,Rw.len]
theorem Rw.WW(r:Rw):r.lenV= .int r.len:=by cases r<;>rfl
theorem Rw.Ai{n:Int}{r:Rw}:r.rng n↔(0<=n/\n<r.len):=by cases r<;>simp[Rw.rng,Rw.len]<;>omega
theorem Rw.uP{n:Int}{r:Rw}:r.qH n↔(0<=n/\n<=r.len):=by cases r<;>simp[Rw.qH,Rw.len]<;>omega
theorem getD_map'{α:Type}{f:α->T}{l:List α}{i:Nat}{d:α}(h:i<l.length):(l.map f).getD i .any=f (l.getD i d):=by
 simp[List.getD_eq_getElem?_getD,h]
theorem Rw.P9{r:Rw}{i:Nat}(h:i<r.len):r.aT.getD i .any=(r.get i).aH:=by
 cases r<;>simp only[Rw.len] at h<;>simp only[Rw.aT,Rw.get,V.aH,Dat.aH,Rw.aT]<;>first|exact getD_map' h|omega
theorem Rw.Gj(r:Rw)(n:Nat):(r.take n).aT=r.aT.take n:=by cases r<;>simp[Rw.take,Rw.aT]
theorem Rw.Sr(r:Rw)(n:Nat):(r.drop n).aT=r.aT.drop n:=by cases r<;>simp[Rw.drop,Rw.aT]
theorem Rw.aa1(r:Rw):V.aT r.vs=r.aT:=by
 rw[fF];cases r<;>simp[Rw.vs,Rw.aT,V.aH,Dat.aH]
theorem Rw.JO{a b c:Rw}(h:a.app b=some c):c.aT=a.aT++b.aT:=by
 unfold Rw.app at h;split at h<;>first|(cases h; done)|(cases h; simp[Rw.aT])
theorem V.adt{v:V}{r:Rw}(h:v.one=some r):r.aT=[v.aH]:=by
 unfold V.one at h;split at h<;>first|(cases h; done)|(cases h; simp[Rw.aT,V.aH,V.aT,Dat.aH,gJ,Vp,JL])
theorem Rw.DL: ∀ {l:List V} {r:Rw},Rw.ZI l=some r->r.aT=V.aT l:=by
 intro l;induction l with
 |nil=>intro r h; cases h; rfl
 |cons v l ih =>
  intro r h;simp only[Rw.ZI] at h;split at h
  ·rename_i a b h1 h2;rw[Rw.JO h,V.adt h1,ih h2]; rfl
  ·cases h
theorem V.Vt{v:V}{k:Nat}(h:v.kd=some k):v.aH.kd=k:=by
 cases v with
 |dat d=>cases h; exact Dat.afA d
 |_=>simp only[V.kd,Option.some.injEq,reduceCtorEq] at h<;>subst h<;>simp[V.aH,T.kd,eS,dP]
theorem V.Iu{v:V}{l:List V}(h:v.cells=some l):v.aH.cells=V.aT l:=by
 cases v<;>simp only[V.cells,Option.some.injEq,reduceCtorEq] at h<;>subst h<;>simp[V.aH,Dat.Ir,T.cells,eS,V.aT]
theorem Hz.zy{h:Hz}{i:Nat}:(h.ay i).isSome=(h.get i).isSome:=by simp[Hz.ay]
theorem V.uQ{h:Hz}{v:V}(hv:v.kZ h=true):v.aH.kZ h.ay=true:=by
 cases v<;>simp only[V.kZ,Bool.false_eq_true] at hv<;>simp[V.aH,T.kZ,T.Ba,eS,Value.oneCell',Hz.zy,hv]
 rename_i d;cases d<;>rfl
theorem V.aa2{h:Hz}{v:V}(hv:v.kZ h=true)(hk:v.kd=some 0):v.aH.Ba h.ay=true:=by
 cases v<;>simp only[V.kZ,Bool.false_eq_true] at hv<;>simp only[V.kd,Option.some.injEq,Nat.succ_ne_zero] at hk<;>simp[V.aH,T.Ba,eS,Value.oneCell',Hz.zy,hv]
 rename_i d;cases d<;>cases hk
theorem Dat.free(d:Dat):d.aH.free=true:=by cases d<;>rfl
mutual
theorem V.oZ:(v:V)->v.free=true->v.aH.free=true
 | .int _,_=>by simp[V.aH,T.free]
 | .bool _,_=>by simp[V.aH,T.free]
 | .u8 _,_=>by simp[V.aH,T.free]
 | .str _,_=>by simp[V.aH,T.free,eS]
 | .dat d,_=>by simp only[V.aH]; exact d.free
 | .agg l,h=>by simp only[V.aH,T.free]; simp only[V.free] at h; exact V.iI l h
 | .row _ _ _,_=>by simp[V.aH,T.free]
 | .Iq _ _ _,_=>by simp[V.aH,T.free]
 | .ref _ _,_=>by simp[V.aH,T.free]
 | .own _,h=>by simp[V.free] at h
 | .inn _,h=>by simp[V.free] at h
 | .pin _ _ _,h=>by simp[V.free] at h
 | .ptr _ _ _,h=>by simp[V.free] at h
 | .qw _ _ _,h=>by simp[V.free] at h
 | .fn _ l,h=>by simp only[V.aH,T.free]; simp only[V.free] at h; exact V.iI l h
 | .eX l,h=>by simp only[V.aH,T.free]; simp only[V.free] at h; exact V.iI l h
 | .cnd _ _,h=>by simp[V.free] at h
 | .raw t,h=>by simp only[V.aH]; simpa only[V.free] using h
theorem V.iI:(l:List V)->V.bW l=true->T.bW (V.aT l)=true
 |[],_=>by simp[V.aT,T.bW]
 |v::r,h=>by
  simp only[V.bW,Bool.and_eq_true] at h;simp only[V.aT,T.bW,Bool.and_eq_true];exact⟨V.oZ v h.1,V.iI r h.2⟩
end
theorem yI{l:List V}{i:Nat}{u:V}(h:l[i]? =some u):(V.aT l).getD i .any=u.aH:=by
 rw[fF,List.getD_eq_getElem?_getD,List.getElem?_map,h]; rfl
theorem V.LH{off k:Nat}{v u:V}(h:v.part off k=some u):v.aH.part off k=u.aH:=by
 unfold V.part at h;split at h
 ·simp only[V.aH,Dat.Ir,T.part,T.cells]; exact yI h
 ·simp only[V.aH,T.part,T.cells]; exact yI h
 ·rename_i k x;cases hb:(Nat.beq off 2)&&(Nat.beq k 4) with
  |false=>rw[hb] at h; cases h
  |true =>
   rw[hb] at h;simp only[Bool.and_eq_true,Nat.beq_eq] at hb;obtain⟨rfl,rfl⟩:=hb;cases h; rfl
 ·cases h;simp only[V.aH,T.part,T.cells,LD,LG]
 ·cases h
theorem fC{a b:Nat}(h:Nat.beq a b=true):a=b:=Nat.eq_of_beq_eq_true h
section
variable {m:Fm} {h:Hz} {s:AS}
def Ok(s:AS)(op:oK)(v:V):Prop:=qc s op/\qt s op=v.aH
theorem adu{op:BinOp}{x y:X}{u v r:V}{sd:Sd}(q:afB op u v=some (r,sd))(hs:sd.holds)(h1:s.ev x=u.aH)(h2:s.ev y=v.aH):Ok s (.bin op x y) r:=by
 unfold Ok; simp only[qc,qt]; rw[h1,h2];unfold afB at q;split at q
 ·rename_i a b;split at q<;>first|(cases q; done)|(cases q; simp only[Sd.holds] at hs; simp[V.aH,D6,kEq,WV,hs])
 ·split at q<;>first|(cases q; done)|(cases q; simp[V.aH,D6,kEq])
 ·split at q
  ·cases q; simp[V.aH,D6,eS,DI]
  ·cases q; simp[V.aH,D6,eS,DI]
  ·rename_i a b _;cases q;simp only[Sd.holds] at hs;have hsz:(((bs a).size+(bs b).size:Nat):Int)<=9223372036854775807:=by
    have e1:(bs a).size=a.length:=by simp[bs,ByteArray.size]
    have e2:(bs b).size=b.length:=by simp[bs,ByteArray.size]
    rw[e1,e2]; exact Int.ofNat_le.2 hs
   have hap:bs a++bs b=bs (a++b):=by apply ByteArray.ext; simp[bs]
   have hsz2:((bs a).size:Int)+(bs b).size<=9223372036854775807:=by omega
   simp[V.aH,D6,eS,hsz2,hap]
  ·cases q
 ·split at q
  ·cases q;simp only[Sd.holds] at hs;refine⟨?_,?_⟩
   ·simp only[V.aH,D6,hs,decide_true,cond_true,Option.isSome]
   ·simp only[V.aH,D6,hs,decide_true,cond_true]; rfl
  ·cases q; simp[V.aH,D6,kEq]
  ·cases q;simp only[Sd.holds] at hs;simp[V.aH,D6,kEq,hs]
  ·cases q; simp[V.aH,D6,kEq]
  ·cases q; simp[V.aH,D6,kEq]
  ·cases q
 ·cases q
theorem Vu{x:X}(hx:DK x=true):x= .c (.lit (.bool true)):=by
 unfold DK at hx;split at hx
 ·rfl
 ·cases hx
theorem Sv{x:X}(hx:zx x=true):x= .c (.lit (.bool false)):=by
 unfold zx at hx;split at hx
 ·rfl
 ·cases hx
theorem aa3{c xa xb:X}{t:Bool}{va vb r:V}{sd:Sd}(R:Rp m s.fr)(ha:CB m xa=some va)(hb:CB m xb=some vb)(q:aaX t xa xb va.bare vb.bare=some (r,sd))(hs:sd.holds)(hc:s.ev c= .lit (.bool t)):Ok s (.pick c xa xb) r:=by
 unfold Ok; simp only[qc,qt]; rw[hc];refine⟨rfl,?_⟩;unfold aaX at q;split at q;rename_i a sa b sb ea eb;split at q
 ·rename_i v hp;cases q;rw[Sd.lN,Sd.Ot,Sd.Ot] at hs;have h1:t=true->s.ev xa=a.aH:=fun e=>by rw[R.ev ha,eU ea (hs.1 e)]
  have h2:t=false->s.ev xb=b.aH:=fun e=>by rw[R.ev hb,eU eb (hs.2 e)]
  unfold aeP at hp;split at hp
  ·rename_i x y;have hp':r= .bool (bif DK xa then t||y else bif zx xb then t&&x else bif t then x else y):=by
    cases e1:DK xa<;>cases e2:zx xb<;>simp[e1,e2] at hp ⊢ <;>exact hp.symm
   subst hp';have key:BM (.lit (.bool t)) (s.ev xa) (s.ev xb)= .lit (.bool (bif t then x else y)):=by
    cases t with
    |true =>
     rw[h1 rfl]; simp only[V.aH,BM];split<;>simp_all
    |false =>
     rw[h2 rfl]; simp only[V.aH,BM];split<;>simp_all
   rw[key];simp only[V.aH]
   congr 2
   cases e1:DK xa with
   |true =>
    have:=Vu e1; subst this;simp only[CB,Option.some.injEq] at ha; subst ha;simp only[En,V.bare,Prod.mk.injEq] at ea;have:=ea.1; cases this;cases t<;>rfl
   |false =>
    cases e2:zx xb with
    |true =>
     have:=Sv e2; subst this;simp only[CB,Option.some.injEq] at hb; subst hb;simp only[En,V.bare,Prod.mk.injEq] at eb;have:=eb.1; cases this;cases t<;>simp
    |false=>rfl
  ·cases hp;cases t with
   |true=>rw[h1 rfl]; simp only[V.aH,BM,cond_true]
   |false=>rw[h2 rfl]; simp only[V.aH,BM,cond_false]; split<;>simp_all
  ·cases hp;cases t with
   |true=>rw[h1 rfl]; simp only[V.aH,BM,cond_true,eS]
   |false=>rw[h2 rfl]; simp only[V.aH,BM,cond_false,eS]; split<;>simp_all
  ·cases hp
 ·cases q
theorem Vw{k:Nat}{p:Option V}{r:V}{sd:Sd}(q:V.Vr k p=some (r,sd)): ∃ u,p=some u/\r= .ref k u:=by
 unfold V.Vr at q;split at q
 ·cases q; exact⟨_,rfl,rfl⟩
 ·cases q
theorem Sz{p:Option V}{r:V}{sd:Sd}(q:V.JM p=some (r,sd)):p=some r:=by
 unfold V.JM at q;split at q
 ·cases q; rfl
 ·cases q
theorem adv{k:Nat}(h:(!(Nat.beq k 0))=true):(!(k==0))=true:=by
 cases k<;>simp_all
theorem afF(hh:s.hp=h.ay){off k:Nat}{x:X}{u r:V}{sd:Sd}(q:faZ h off k u=some (r,sd))(h1:s.ev x=u.aH):Ok s (.fa off k x) r:=by
 unfold Ok; simp only[qc,qt]; rw[h1];unfold faZ at q;split at q
 ·obtain⟨g,q⟩:=aU q;obtain⟨u,e,rfl⟩:=Vw q;simp only[Bool.and_eq_true] at g;simp only[V.aH,V.LH e,Bool.and_eq_true];exact⟨⟨adv g.1,g.2⟩,trivial⟩
 ·obtain⟨g,q⟩:=aU q;cases q;simp only[V.aH,hh,Hz.zy,g,and_self]
 ·cases q
theorem aK{i:Nat}{o:OV}(e:h.get i=some o):h.ay i=some o.au:=by simp[Hz.ay,e]
theorem adw: ∀ {l:List V} {i:Nat} {v:V},afC l i=some v->i<l.length/\(V.aT l).getD i .any=v.aH:=by
 intro l;induction l with
 |nil=>intro i v h; cases h
 |cons u r ih =>
  intro i v h;cases i with
  |zero=>cases h; exact⟨Nat.succ_pos _,rfl⟩
  |succ i =>
   obtain⟨a,b⟩:=ih h;exact⟨Nat.succ_lt_succ a,by simpa [V.aT] using b⟩
theorem aa4(hh:s.hp=h.ay){k:Nat}{x i:X}{u v r:V}{sd:Sd}(q:iaZ h k u v=some (r,sd))(hs:sd.holds)(h1:s.ev x=u.aH)(h2:s.ev i=v.aH):Ok s (.ia k x i) r:=by
 unfold Ok; simp only[qc,qt]; rw[h1,h2];unfold iaZ at q;split at q
 ·rename_i k' f l n;split at q
  ·rename_i v hv;obtain⟨g,q⟩:=aU q;cases q;have:=fC g; subst this;simp only[Sd.holds] at hs;obtain⟨a,b⟩:=adw hv;simp only[V.aH,inR,dP];exact⟨⟨trivial,hs,by omega⟩,by rw[b]⟩
  ·cases q
 ·rename_i k' f w n;obtain⟨g,q⟩:=aU q;cases q;have:=fC g; subst this;simp only[Sd.holds,Rw.Ai] at hs;simp only[V.aH,inR,Rw.fB];refine⟨⟨trivial,hs⟩,?_⟩;rw[Rw.P9 (by omega)]
 ·rename_i o n;split at q
  ·rename_i ty k' w e;obtain⟨g,q⟩:=aU q;cases q;have:=fC g; subst this;simp only[Sd.holds,Rw.Ai] at hs;simp only[V.aH,hh,aK e,OV.au,V.aT,List.append_nil,inR,Rw.fB];exact⟨⟨trivial,hs⟩,trivial⟩
  ·rename_i ty k' x e;obtain⟨g,q⟩:=aU q;cases q;have:=fC g; subst this;simp only[Sd.holds] at hs;simp only[V.aH,hh,aK e,OV.au,inR,dP];exact⟨⟨trivial,hs⟩,trivial⟩
  ·cases q
 ·rename_i o lo hi n;split at q
  ·rename_i ty k' w e;obtain⟨g,q⟩:=aU q;cases q;have:=fC g; subst this;simp only[Sd.holds] at hs;simp only[V.aH,hh,aK e,OV.au,inR];exact⟨⟨trivial,hs⟩,trivial⟩
  ·cases q
 ·cases q
theorem afG{x i:X}{u v r:V}{sd:Sd}(q:chZ u v=some (r,sd))(hs:sd.holds)(h1:s.ev x=u.aH)(h2:s.ev i=v.aH):Ok s (.ch x i) r:=by
 unfold Ok; simp only[qc,qt]; rw[h1,h2];unfold chZ at q;split at q
 ·cases q;simp only[Sd.holds] at hs;simp only[V.aH,eS,inR,Ag,aaW];exact⟨hs,trivial⟩
 ·cases q;simp only[Sd.holds] at hs;simp only[V.aH,eS,inR,Ag,aaW];exact⟨hs,trivial⟩
 ·cases q
theorem Vx(hh:s.hp=h.ay){k:Nat}{x:X}{u r:V}{sd:Sd}(q:ldZ h k u=some (r,sd))(hs:sd.holds)(h1:s.ev x=u.aH):Ok s (.ld k x) r:=by
 unfold Ok; simp only[qc,qt]; rw[h1];unfold ldZ at q;split at q
 ·obtain⟨g,q⟩:=aU q;cases q;simp only[Bool.and_eq_true] at g;have:=fC g.1; subst this;simp[V.aH,g.2]
 ·rename_i i j off;split at q
  ·rename_i ty ko v e;simp only[V.aH,hh,aK e,OV.au];unfold ldB at q;cases hj:Nat.beq j 0 with
   |false=>rw[hj] at q; cases q
   |true =>
    have:=fC hj; subst this;rw[hj] at q;simp only[cond_true] at q;cases hb:(Nat.beq off 0&&Nat.beq ko k) with
    |true =>
     rw[hb] at q; cases q;simp only[Bool.and_eq_true] at hb;have e1:=fC hb.1; have e2:=fC hb.2; subst e1; subst e2;simp
    |false =>
     rw[hb] at q;simp only[cond_false] at q;obtain⟨g,q⟩:=aU q;have hb':(off==0&&ko==k)=false:=by
      rw[Bool.and_eq_false_iff] at hb ⊢;rcases hb with hb|hb
      ·left; simpa using Nat.ne_of_beq_eq_false hb
      ·right; simpa using Nat.ne_of_beq_eq_false hb
     simp only[hb',cond_false,Bool.false_or,List.getD_cons_zero,V.LH (Sz q),List.length_cons,List.length_nil];simp only[Bool.and_eq_true] at g ⊢;exact⟨⟨by omega,adv g.1,g.2⟩,trivial⟩
  ·rename_i ty ko w e;simp only[V.aH,hh,aK e,OV.au,V.aT,List.append_nil];unfold ldR at q;cases hb:(Nat.beq off 0&&Nat.beq ko k) with
   |true =>
    rw[hb] at q; cases q;simp only[Bool.and_eq_true] at hb;have e1:=fC hb.1; have e2:=fC hb.2; subst e1; subst e2;simp only[Sd.holds,Rw.Ai] at hs;have hlt:j<w.len:=by omega
    simp only[BEq.rfl,Bool.and_self,Bool.true_or,cond_true,Rw.fB,Rw.P9 hlt];exact⟨⟨hlt,trivial⟩,trivial⟩
   |false =>
    rw[hb] at q;simp only[cond_false] at q;split at q
    ·rename_i u hu;obtain⟨g,q⟩:=aU q;cases q;have hb':(off==0&&ko==k)=false:=by
      rw[Bool.and_eq_false_iff] at hb ⊢;rcases hb with hb|hb
      ·left; simpa using Nat.ne_of_beq_eq_false hb
      ·right; simpa using Nat.ne_of_beq_eq_false hb
     simp only[Sd.holds,Rw.Ai] at hs;have hlt:j<w.len:=by omega
     simp only[hb',cond_false,Bool.false_or,Rw.fB,Rw.P9 hlt,V.LH hu];simp only[Bool.and_eq_true] at g ⊢;exact⟨⟨hlt,adv g.1,g.2⟩,trivial⟩
    ·cases q
  ·cases q
 ·cases q
theorem afH(hh:s.hp=h.ay){x:X}{u r:V}{sd:Sd}(q:ncZ h u=some (r,sd))(h1:s.ev x=u.aH):Ok s (.nc x) r:=by
 unfold Ok; simp only[qc,qt]; rw[h1];unfold ncZ at q;split at q
 ·cases q; simp[V.aH]
 ·obtain⟨g,q⟩:=aU q; cases q; simp[V.aH,hh,Hz.zy,g]
 ·cases q; simp[V.aH]
 ·cases q
theorem WX(hh:s.hp=h.ay){str:Bool}{x:X}{u r:V}{sd:Sd}(q:ads h str u=some (r,sd))(h1:s.ev x=u.aH):Ok s (.len str x) r:=by
 unfold Ok; simp only[qc,qt]; rw[h1];unfold ads at q;split at q
 ·obtain⟨g,q⟩:=aU q; cases q;simp only[Bool.not_eq_true'] at g;simp[V.aH,Rw.WW,Rw.fB,g]
 ·obtain⟨g,q⟩:=aU q; cases q;simp only[Bool.not_eq_true'] at g;simp[V.aH,dP,g]
 ·obtain⟨g,q⟩:=aU q; cases q;simp[V.aH,eS,Ag,g]
 ·rename_i o;split at q
  ·rename_i ty k w y e;obtain⟨g,q⟩:=aU q;simp only[Bool.and_eq_true,Bool.not_eq_true'] at g;have hk:k≠iK:=Nat.ne_of_beq_eq_false g.2;split at q
   ·cases q;simp only[V.aH,hh,aK e,OV.au,V.aT,List.append_nil,Rw.WW,Rw.fB];exact⟨⟨g.1,hk⟩,trivial⟩
   ·cases q;simp only[V.aH,hh,aK e,OV.au,List.length_append,dP,Rw.fB];exact⟨⟨g.1,hk⟩,by simp⟩
  ·rename_i ty k x e;obtain⟨g,q⟩:=aU q;cases q;simp only[Bool.and_eq_true,Bool.not_eq_true'] at g;simp only[V.aH,hh,aK e,OV.au,dP];exact⟨⟨g.1,Nat.ne_of_beq_eq_false g.2⟩,trivial⟩
  ·cases q
 ·rename_i o lo hi;obtain⟨g,q⟩:=aU q; cases q;simp only[Bool.and_eq_true,Bool.not_eq_true'] at g;simp[V.aH,hh,Hz.zy,g]
 ·cases q
theorem afI{x y:X}{u v r:V}{sd:Sd}(q:mxZ u v=some (r,sd))(h1:s.ev x=u.aH)(h2:s.ev y=v.aH):Ok s (.mx x y) r:=by
 unfold Ok; simp only[qc,qt]; rw[h1,h2];unfold mxZ at q;split at q
 ·rename_i a b;cases q; simp only[V.aH,true_and]; congr 2; split<;>omega
 ·cases q
theorem afJ{i:Nat}{x:X}{u r:V}{sd:Sd}(q:exZ i u=some (r,sd))(h1:s.ev x=u.aH):Ok s (.ex x i) r:=by
 unfold Ok; simp only[qc,qt]; rw[h1];unfold exZ at q;split at q
 ·split at q
  ·rename_i l _ v e;cases q;have hi:i<l.length:=(List.getElem?_eq_some_iff.1 e).1;simp only[V.aH,Nat.blt_eq,dP,yI e];exact⟨hi,trivial⟩
  ·cases q
 ·cases q
theorem adx{ne:Bool}{n:Nat}{x y:X}{u v r:V}{sd:Sd}(q:afD ne n u v=some (r,sd))(h1:s.ev x=u.aH)(h2:s.ev y=v.aH):Ok s (.eqs ne n x y) r:=by
 unfold Ok; simp only[qc,qt]; rw[h1,h2];unfold afD at q;split at q
 ·rename_i x y;obtain⟨g,q⟩:=aU q; cases q;have:=fC g; subst this;have e:uh [.int x.c,.int x.n,.int x.t,.int x.f] [.int y.c,.int y.n,.int y.t,.int y.f]=(x==y):=by
   cases x; cases y; simp[uh,BEq.beq]
  simp only[V.aH,Dat.aH,Vo,e];exact⟨rfl,trivial⟩
 ·rename_i x y;obtain⟨g,q⟩:=aU q; cases q;have:=fC g; subst this;have e:uh [.int x.message,.int x.Gh,.int x.bound.c,.int x.bound.n,.int x.bound.t,.int x.bound.f] [.int y.message,.int y.Gh,.int y.bound.c,.int y.bound.n,.int y.bound.t,.int y.bound.f]=(x==y):=by
   obtain⟨a,b,c,d,e,f⟩:=x; obtain⟨a',b',c',d',e',f'⟩:=y; simp[uh,BEq.beq]
  simp only[V.aH,Dat.aH,RZ,e];exact⟨rfl,trivial⟩
 ·cases q
end
section
variable {m:Fm} {h:Hz} {s:AS}
theorem uS(R:Rp m s.fr): ∀ {xs:List X} {l:List V} {sd:Sd},CG m xs=some (l,sd)->sd.holds->xs.map s.ev=V.aT l:=by
 intro xs;induction xs with
 |nil=>intro l sd q _; cases q; rfl
 |cons x r ih =>
  intro l sd q hs;simp only[CG] at q;split at q
  ·rename_i v l' s' h1 h2;cases q;rw[Sd.lN] at hs;simp only[List.map_cons,V.aT];rw[R.ev h1,eU (v:=v) (u:=v.bare.1) (s:=v.bare.2) rfl hs.1,ih h2 hs.2]
  ·cases q
theorem Iw: ∀ {l:List V},Eo h l=true->xq h.ay (V.aT l)=true:=by
 intro l;induction l with
 |nil=>intro _; rfl
 |cons v r ih =>
  intro q;simp only[Eo,Bool.and_eq_true] at q;simp only[V.aT,xq,Bool.and_eq_true];exact⟨V.uQ q.1,ih q.2⟩
theorem JQ{k:Nat}: ∀ {l:List V},FN k l=true-> ∀ v∈l,v.kd=some k:=by
 intro l;induction l with
 |nil=>intro _ v hv; cases hv
 |cons u r ih =>
  intro q v hv;simp only[FN,Bool.and_eq_true] at q;rcases List.mem_cons.1 hv with rfl|hv
  ·have:=q.1;split at this
   ·rename_i k' e; rw[e,fC this]
   ·cases this
  ·exact ih q.2 v hv
theorem YA: ∀ {l:List V},Eo h l=true->FN 0 l=true->zX h.ay (V.aT l)=true:=by
 intro l;induction l with
 |nil=>intro _ _; rfl
 |cons v r ih =>
  intro q k;have hk:=JQ k v (by simp);simp only[Eo,FN,Bool.and_eq_true] at q k;simp only[V.aT,zX,Bool.and_eq_true];exact⟨V.aa2 q.1 hk,ih q.2 k.2⟩
theorem aa5: ∀ {ps:List (Nat×Nat×X)} {vs z l:List V},WU ps vs z=some l->(ps.map fun p=>s.ev p.2.2)=V.aT vs ->
  H6 (V.aT z) (ps.map fun p=>(p.1,p.2.1,s.ev p.2.2))=true/\I4 (V.aT z) (ps.map fun p=>(p.1,p.2.1,s.ev p.2.2))=V.aT l:=by
 intro ps;induction ps with
 |nil =>
  intro vs z l q he;cases vs with
  |nil=>cases q; exact⟨rfl,rfl⟩
  |cons v vs=>simp[V.aT] at he
 |cons p ps ih =>
  intro vs z l q he;obtain⟨off,n,x⟩:=p;cases vs with
  |nil=>simp[V.aT] at he
  |cons v vs =>
   simp only[WU] at q;split at q
   ·rename_i c hc;obtain⟨g,q⟩:=aU q;simp only[List.map_cons,V.aT,List.cons.injEq] at he;simp only[Bool.and_eq_true] at g;have e1:=fC g.1;obtain⟨i1,i2⟩:=ih q he.2;simp only[List.map_cons,H6,I4,Bool.and_eq_true];have ec:(s.ev x).cells=V.aT c:=by rw[he.1]; exact V.Iu hc
    simp only[xO,LD,LG] at i1 i2;simp only[ec,dP];refine⟨⟨⟨by simpa using e1,g.2⟩,i1⟩,i2⟩
   ·cases q
theorem afK(R:Rp m s.fr)(hh:s.hp=h.ay){z:List T}{ps:List (Nat×Nat×X)}{r:V}{sd:Sd}(q:mkZ m h z ps=some (r,sd))(hs:sd.holds):Ok s (.mk z ps) r:=by
 unfold mkZ at q;split at q
 ·rename_i vs s' hb;split at q
  ·rename_i l hl;obtain⟨g,q⟩:=aU q;cases q;have he:=uS R hb hs;have he':(ps.map fun p=>s.ev p.2.2)=V.aT vs:=by rw[<- he]; simp
   obtain⟨i1,i2⟩:=aa5 hl he';rw[DL] at i1 i2;unfold Ok; simp only[qc,qt];rw[i1,i2,he',hh,Iw g];exact⟨rfl,rfl⟩
  ·cases q
 ·cases q
theorem WY{k n:Nat}: ∀ {ps:List (Nat×X)} {vs z l:List V},aaY n ps vs z=some l->(ps.map fun p=>s.ev p.2)=V.aT vs->FN k vs=true ->
  KF k n (ps.map fun p=>(p.1,s.ev p.2))=true/\sH (V.aT z) (ps.map fun p=>(p.1,s.ev p.2))=V.aT l:=by
 intro ps;induction ps with
 |nil =>
  intro vs z l q he _;cases vs with
  |nil=>cases q; exact⟨rfl,rfl⟩
  |cons v vs=>simp[V.aT] at he
 |cons p ps ih =>
  intro vs z l q he hk;obtain⟨i,x⟩:=p;cases vs with
  |nil=>simp[V.aT] at he
  |cons v vs =>
   simp only[aaY] at q;obtain⟨g,q⟩:=aU q;simp only[List.map_cons,V.aT,List.cons.injEq] at he;have hkv:=JQ hk v (by simp);simp only[FN,Bool.and_eq_true] at hk;obtain⟨i1,i2⟩:=ih q he.2 hk.2;have e:V.aT (z.set i v)=(V.aT z).set i (s.ev x):=by rw[he.1]; simp[fF,List.map_set]
   rw[e] at i2;simp only[List.map_cons,KF,sH,Bool.and_eq_true];refine⟨⟨⟨?_,g⟩,i1⟩,i2⟩;rw[he.1,V.Vt hkv]; simp
theorem afL(R:Rp m s.fr)(hh:s.hp=h.ay){ty k:Nat}{z:T}{n:Nat}{ps:List (Nat×X)}{r:V}{sd:Sd}(q:msZ m h k z n ps=some (r,sd))(hs:sd.holds):Ok s (.ms ty k z n ps) r:=by
 unfold msZ at q;split at q
 ·rename_i vs s' hb;split at q
  ·rename_i l hl;obtain⟨g,q⟩:=aU q;have hs':s'.holds/\r.aH= .sl k true (V.aT l):=by
    split at q
    ·rename_i w hw;cases q; exact⟨hs,by simp only[V.aH]; rw[Rw.DL hw]⟩
    ·cases q; exact⟨hs,rfl⟩
   have he:=uS R hb hs'.1;have he':(ps.map fun p=>s.ev p.2)=V.aT vs:=by rw[<- he]; simp
   simp only[Bool.and_eq_true] at g;obtain⟨⟨⟨⟨⟨⟨g1,g2⟩,g3⟩,g4⟩,g5⟩,g6⟩,g7⟩:=g;obtain⟨i1,i2⟩:=WY hl he' g3;have e:V.aT (List.replicate n (En z))=List.replicate n z:=by rw[fF,List.map_replicate,Ah]
   rw[e] at i2;unfold Ok; simp only[qc,qt];rw[i1,i2,he',hh,Iw g4,V.iI _ g5,g1,g2,g6,g7,hs'.2];exact⟨rfl,rfl⟩
  ·cases q
 ·cases q
theorem CJ(R:Rp m s.fr){x:Option X}{v:Option V}{sd:Sd}(q:LC m x=some (v,sd))(hs:sd.holds):x.map s.ev=v.map V.aH:=by
 cases x with
 |none=>cases q; rfl
 |some x =>
  simp only[LC] at q;split at q
  ·rename_i u hu;cases q;simp only[Option.map_some]; rw[R.ev hu,eU (v:=u) (u:=u.bare.1) (s:=u.bare.2) rfl hs]
  ·cases q
theorem Iy{k k':Nat}{r:Rw}(g:kOk k k' r=true):k'=k\/r.aT=[]:=by
 unfold kOk at g;split at g
 ·exact .inr rfl
 ·exact .inl (fC g)
theorem SA{k k':Nat}{f:Bool}{w:Rw}{lo hi mx:Option V}{r:V}{sd:Sd}(q:aaZ k k' f w lo hi mx=some (r,sd))(hs:sd.holds) :
  slC k (.sl k' f w.aT) (lo.map V.aH) (hi.map V.aH) (mx.map V.aH)/\Rh k (.sl k' f w.aT) (lo.map V.aH) (hi.map V.aH) (mx.map V.aH)=r.aH:=by
 unfold aaZ at q;split at q
 ·obtain⟨g,q⟩:=aU q; cases q;simp only[Option.map_none,slC,Rh,V.aH];exact⟨Iy g,trivial⟩
 ·obtain⟨g,q⟩:=aU q; cases q;simp only[Sd.holds,Rw.uP] at hs;simp only[Option.map_none,Option.map_some,slC,Rh,V.aH,Rw.Sr,Rw.fB];exact⟨⟨Iy g,hs⟩,trivial⟩
 ·obtain⟨g,q⟩:=aU q; cases q;simp only[Sd.holds,Rw.uP] at hs;simp only[Option.map_none,Option.map_some,slC,Rh,V.aH,Rw.Gj,Rw.fB];exact⟨⟨Iy g,hs⟩,trivial⟩
 ·obtain⟨g,q⟩:=aU q; cases q;simp only[Sd.holds,Rw.uP] at hs;simp only[Option.map_none,Option.map_some,slC,Rh,V.aH,Rw.Gj,Rw.Sr,Rw.fB];exact⟨⟨Iy g,hs.1,hs.2.1,hs.2.2.2⟩,trivial⟩
 ·obtain⟨g,q⟩:=aU q; cases q;simp only[Sd.holds,Rw.uP] at hs;simp only[Option.map_none,Option.map_some,slC,Rh,V.aH,Rw.Gj,Rw.fB];exact⟨⟨Iy g,hs.1,hs.2.1,hs.2.2.2⟩,trivial⟩
 ·cases q
theorem aa6{k i ty ko:Nat}{w:Rw}{lo hi mx:Option V}{r:V}{sd:Sd}(q:aa0 k i ko w lo hi mx=some (r,sd))(hs:sd.holds) :
  FT k ⟨ty,ko,w.aT⟩ (lo.map V.aH) (hi.map V.aH) (mx.map V.aH)/\AP i ⟨ty,ko,w.aT⟩ (lo.map V.aH) (hi.map V.aH) (mx.map V.aH)=r.aH:=by
 unfold aa0 at q;split at q
 ·obtain⟨g,q⟩:=aU q; cases q;simp only[Sd.holds,Rw.uP] at hs;simp only[Option.map_none,Option.map_some,FT,AP,V.aH,Rw.fB];exact⟨⟨fC g,hs⟩,trivial⟩
 ·obtain⟨g,q⟩:=aU q; cases q;simp only[Sd.holds,Rw.uP] at hs;simp only[Option.map_none,Option.map_some,FT,AP,V.aH,Rw.fB];exact⟨⟨fC g,hs⟩,trivial⟩
 ·obtain⟨g,q⟩:=aU q; cases q;simp only[Sd.holds,Rw.uP] at hs;simp only[Option.map_none,Option.map_some,FT,AP,V.aH,Rw.fB];exact⟨⟨fC g,hs.1,hs.2.1,hs.2.2.2⟩,trivial⟩
 ·cases q
theorem YB{k i ty ko:Nat}{w:Rw}{xs:List V}{lo hi mx:Option V}{r:V}{sd:Sd}(q:Vs k i ko w xs lo hi mx=some (r,sd))(hs:sd.holds) :
  FT k ⟨ty,ko,w.aT++V.aT xs⟩ (lo.map V.aH) (hi.map V.aH) (mx.map V.aH)/\AP i ⟨ty,ko,w.aT++V.aT xs⟩ (lo.map V.aH) (hi.map V.aH) (mx.map V.aH)=r.aH:=by
 unfold Vs at q;split at q
 ·obtain⟨g,q⟩:=aU q; cases q;simp only[Sd.holds,Rw.uP] at hs;simp only[Option.map_none,Option.map_some,FT,AP,V.aH];refine⟨⟨fC g,hs.1,?_⟩,trivial⟩;have:=hs.2;simp only[List.length_append,Rw.fB]; omega
 ·split at q
  ·simp only[V.aT,List.append_nil]; exact aa6 q hs
  ·cases q
theorem WZ(R:Rp m s.fr){b:Bool}{k:Nat}{x:X}{lo hi mx:Option X}{r:V}{sd:Sd}(q:slX m h b k x lo hi mx=some (r,sd))(hs:sd.holds) :
  ∃ v lo' hi' mx' s',slZ h b k v lo' hi' mx'=some (r,s')/\s'.holds/\s.ev x=v.aH/\lo.map s.ev=lo'.map V.aH/\hi.map s.ev=hi'.map V.aH/\mx.map s.ev=mx'.map V.aH:=by
 obtain⟨v,s',q,hs,hv⟩:=mY R q hs;split at q
 ·rename_i lo' s1 hi' s2 mx' s3 e1 e2 e3;split at q
  ·rename_i u s4 e4;cases q;rw[Sd.lN,Sd.lN,Sd.lN] at hs;exact⟨v,lo',hi',mx',s4,e4,hs.2.2.2,hv,CJ R e1 hs.1,CJ R e2 hs.2.1,CJ R e3 hs.2.2.1⟩
  ·cases q
 ·cases q
theorem agX(R:Rp m s.fr){k:Nat}{x:X}{lo hi mx:Option X}{r:V}{sd:Sd}(q:slX m h false k x lo hi mx=some (r,sd))(hs:sd.holds):Ok s (.sl k x lo hi mx) r:=by
 obtain⟨v,lo',hi',mx',s',q,hs,hv,e1,e2,e3⟩:=WZ R q hs;unfold Ok; simp only[qc,qt]; rw[hv,e1,e2,e3];unfold slZ at q;split at q
 ·exact SA q hs
 ·cases q
 ·cases q
theorem afM(R:Rp m s.fr)(hh:s.hp=h.ay){k:Nat}{x:X}{lo hi mx:Option X}{r:V}{sd:Sd}(q:slX m h true k x lo hi mx=some (r,sd))(hs:sd.holds):Ok s (.X9 k x lo hi mx) r:=by
 obtain⟨v,lo',hi',mx',s',q,hs,hv,e1,e2,e3⟩:=WZ R q hs;unfold Ok; simp only[qc,qt]; rw[hv,e1,e2,e3];unfold slZ at q;split at q
 ·exact SA q hs
 ·simp only[cond_true] at q;split at q
  ·rename_i i _ ty ko w xs e;simp only[V.aH,hh,aK e,OV.au];exact YB q hs
  ·cases q
 ·cases q
theorem ET{t:Str}{a b:Nat}(hab:a<=b)(_hb:b<=t.length):(bs t).extract a b=bs ((t.take b).drop a):=by
 apply ByteArray.ext;have h1:((bs t).extract a b).data=(bs t).data.extract a b:=ByteArray.data_extract;rw[h1];apply Array.ext';simp[bs,List.extract,List.take_drop];rw[show a+(b-a)=b by omega]
theorem agY(R:Rp m s.fr){x:X}{lo hi:Option X}{r:V}{sd:Sd}(q:ssX m x lo hi=some (r,sd))(hs:sd.holds):Ok s (.ss x lo hi) r:=by
 obtain⟨v,s',q,hs,hv⟩:=mY R q hs;split at q
 ·rename_i t lo' s1 hi' s2 e1 e2;split at q
  ·rename_i u s4 e4;cases q;rw[Sd.lN,Sd.lN] at hs;have f1:=CJ R e1 hs.1;have f2:=CJ R e2 hs.2.1;unfold Ok; simp only[qc,qt]; rw[hv,f1,f2];have hs4:=hs.2.2;unfold ssZ at e4;split at e4
   ·cases e4;simp only[Sd.holds] at hs4;simp only[Option.map_none,Option.map_some,V.aH,eS,Ag];refine⟨hs4,?_⟩;rw[ET (by omega) (Nat.le_refl _)]; simp
   ·cases e4;simp only[Sd.holds] at hs4;simp only[Option.map_none,Option.map_some,V.aH,eS,Ag];refine⟨hs4,?_⟩;rw[ET (by omega) (by omega)]; simp
   ·cases e4;simp only[Sd.holds] at hs4;simp only[Option.map_some,V.aH,eS,Ag];refine⟨hs4,?_⟩;rw[ET (by omega) (by omega)]
   ·cases e4
  ·cases q
 ·cases q
theorem afN(R:Rp m s.fr)(hh:s.hp=h.ay){f:FuncId}{cap:List X}{r:V}{sd:Sd}(q:mfZ m h f cap=some (r,sd))(hs:sd.holds):Ok s (.mf f cap) r:=by
 unfold mfZ at q;split at q
 ·rename_i l s' hb;obtain⟨g,q⟩:=aU q;cases q;simp only[Bool.and_eq_true] at g;unfold Ok; simp only[qc,qt];rw[uS R hb hs,hh,YA g.1.1 g.1.2,g.2];exact⟨rfl,rfl⟩
 ·cases q
theorem afO{f:FuncId}{x:X}{v r:V}{sd:Sd}(q:mbZ f v=some (r,sd))(h1:s.ev x=v.aH):Ok s (.mb f x) r:=by
 unfold mbZ at q;split at q
 ·obtain⟨g,q⟩:=aU q; cases q;unfold Ok; simp only[qc,qt]; rw[h1]; exact⟨Nat.blt_eq.mp g,rfl⟩
 ·obtain⟨g,q⟩:=aU q; cases q;rename_i d;unfold Ok; simp only[qc,qt]; rw[h1]; simp only[V.aH]; rw[Dat.Ir]; exact⟨Nat.blt_eq.mp g,rfl⟩
 ·cases q
theorem aa7(R:Rp m s.fr)(hh:s.hp=h.ay){op:oK}{r:V}{sd:Sd}(q:qz m h op=some (r,sd))(hs:sd.holds):bG op=true/\Ok s op r:=by
 unfold qz at q;split at q
 ·split at q
  ·rename_i v e; cases q;exact⟨rfl,trivial,R.ev e⟩
  ·cases q
 ·obtain⟨c,s',q,hs,hc⟩:=mY R q hs;split at q
  ·rename_i t va vb e1 e2;exact⟨rfl,aa3 R e1 e2 q hs hc⟩
  ·cases q
 ·obtain⟨u,v,s',q,hs,h1,h2⟩:=DN R q hs;exact⟨rfl,adu q hs h1 h2⟩
 ·obtain⟨u,v,s',q,hs,h1,h2⟩:=DN R q hs;split at q
  ·cases q; refine⟨rfl,?_⟩; unfold Ok; simp only[qc,qt]; rw[h1,h2]; exact⟨rfl,rfl⟩
  ·cases q
 ·obtain⟨u,s',q,hs,h1⟩:=mY R q hs;split at q
  ·cases q; refine⟨rfl,?_⟩; unfold Ok; simp only[qc,qt]; rw[h1]; exact⟨rfl,rfl⟩
  ·cases q
 ·obtain⟨u,s',q,hs,h1⟩:=mY R q hs;split at q
  ·cases q; refine⟨rfl,?_⟩; unfold Ok; simp only[qc,qt]; rw[h1]; simp only[V.aH,true_and]; rw[WV hs]
  ·cases q; refine⟨rfl,?_⟩; unfold Ok; simp only[qc,qt]; rw[h1]; simp only[V.aH,true_and]; rw[WV hs]
  ·cases q; refine⟨rfl,?_⟩; unfold Ok; simp only[qc,qt]; rw[h1]; simp only[V.aH,true_and]; rw[WV hs]
  ·cases q
 ·obtain⟨u,s',q,hs,h1⟩:=mY R q hs;split at q
  ·cases q; refine⟨rfl,?_⟩; unfold Ok; simp only[qc,qt]; rw[h1]; simp only[V.aH,true_and]; rw[agW hs.1 hs.2]
  ·cases q; refine⟨rfl,?_⟩; unfold Ok; simp only[qc,qt]; rw[h1]; exact⟨trivial,rfl⟩
  ·cases q
 ·obtain⟨u,s',q,hs,h1⟩:=mY R q hs;split at q
  ·cases q; refine⟨rfl,?_⟩; unfold Ok; simp only[qc,qt]; rw[h1]; simp only[V.aH,true_and]; rw[afE hs.1 hs.2]
  ·cases q
 ·obtain⟨u,s',q,hs,h1⟩:=mY R q hs; exact⟨rfl,afF hh q h1⟩
 ·obtain⟨u,v,s',q,hs,h1,h2⟩:=DN R q hs; exact⟨rfl,aa4 hh q hs h1 h2⟩
 ·obtain⟨u,v,s',q,hs,h1,h2⟩:=DN R q hs; exact⟨rfl,afG q hs h1 h2⟩
 ·obtain⟨u,s',q,hs,h1⟩:=mY R q hs; exact⟨rfl,Vx hh q hs h1⟩
 ·obtain⟨u,s',q,hs,h1⟩:=mY R q hs; exact⟨rfl,afH hh q h1⟩
 ·obtain⟨u,s',q,hs,h1⟩:=mY R q hs; exact⟨rfl,WX hh q h1⟩
 ·obtain⟨u,v,s',q,hs,h1,h2⟩:=DN R q hs; exact⟨rfl,afI q h1 h2⟩
 ·exact⟨rfl,afK R hh q hs⟩
 ·exact⟨rfl,afL R hh q hs⟩
 ·exact⟨rfl,agX R q hs⟩
 ·exact⟨rfl,afM R hh q hs⟩
 ·exact⟨rfl,agY R q hs⟩
 ·obtain⟨u,s',q,hs,h1⟩:=mY R q hs; exact⟨rfl,afJ q h1⟩
 ·exact⟨rfl,afN R hh q hs⟩
 ·obtain⟨u,v,s',q,hs,h1,h2⟩:=DN R q hs; exact⟨rfl,adx q h1 h2⟩
 ·obtain⟨u,s',q,hs,h1⟩:=mY R q hs; exact⟨rfl,afO q h1⟩
 ·cases q
end
structure ah(P:Program)(dr:Bool)(g:Option Bool)(f:FuncId)(args:List V)(h:Hz)(n:Nat)(K:V->Hz->Prop)(KW:Nat->V->Hz->Prop):Prop where
 ok:(match g with
  |none=>aO P f (V.aT args) h.ay n fun t hp=> ∃ v h',t=v.aH/\hp=h'.ay/\(dr=true->h'=h/\t.free=true)/\K v h'
  |some b=>(∃ v,(b=true->aO P f (V.aT args) h.ay n fun t hp=>t=v.aH/\hp=h.ay)/\v.free=true/\K v h) \/
   (dr=false/\(b=true->aO P f (V.aT args) h.ay n fun t hp=> ∃ v h',t=v.aH/\hp=h'.ay/\K v h')/\(b=false->K (.int 0) h))) \/
  (g=none/\dr=false/\ ∃ k,jJ P f (V.aT args) h.ay n k fun t hp=> ∃ v h',t=v.aH/\hp=h'.ay/\KW k v h') \/
  (g=none/\dr=true/\h.get n=none/\aO P f (V.aT args) h.ay n fun t hp=> ∃ v o,t=v.aH/\hp=Hz.ay ((n,some o)::h)/\KW 0 v ((n,some o)::h))
structure agZ(P:Program)(f:FuncId)(args:List V)(h:Hz)(n:Nat)(K:V->Hz->Prop):Prop where
 ok: ∃ (v:V) (o:Option OV),v.aH.ids (fun i=>i=n)/\(∀ ob,o=some ob->T.bW ob.au.l=true) /\
  (∀ hp:Hp,(∀ i ob,h.ay i=some ob->hp i=some ob)->aO P f (V.aT args) hp n fun t' h'=>t'=v.aH/\h'=jA hp n (o.map OV.au)) /\
  K v (match o with|none=>h|some o=>(n,some o)::h)
def EU(dr fl:Bool)(a b c:Prop):Prop :=
 match dr with
 |false=>a
 |true=>match fl with
  |false=>b
  |true=>c
inductive ZT(p a b:Prop):Prop where
 |mk:(p->a)->b->ZT p a b
inductive ahJ(o:Option (List Bool))(yes:List Bool->Prop)(no:Prop):Prop where
 |mk:(∀ l,o=some l->yes l)->(o=none->no)->ahJ o yes no
def V.seq(v:V)(K:V->Prop):Prop :=
 match v with
 | .int n=>K (.int n)
 | .bool b=>K (.bool b)
 | .u8 n=>K (.u8 n)
 | .str s=>K (.str s)
 | .dat d=>K (.dat d)
 | .agg l=>K (.agg l)
 | .row k f r=>K (.row k f r)
 | .Iq k f l=>K (.Iq k f l)
 | .ref k v=>K (.ref k v)
 | .own i=>K (.own i)
 | .inn i=>K (.inn i)
 | .pin i j o=>K (.pin i j o)
 | .ptr i j o=>K (.ptr i j o)
 | .qw i a b=>K (.qw i a b)
 | .fn f l=>K (.fn f l)
 | .eX l=>K (.eX l)
 | .cnd b v=>K (.cnd b v)
 | .raw t=>K (.raw t)
theorem V.seq_eq(v:V)(K:V->Prop):v.seq K=K v:=by cases v<;>rfl
def jc(d:Option Nat)(v:V)(m:Fm):Fm :=
 match d with
 |some d=>(d,v)::m
 |none=>m
def tJ:Option Bool->V->V
 |none,v=>v
 |some b,.cnd c v=>.cnd (b&&c) v
 |some b,v=>.cnd b v
theorem Iz(v:V):(tJ (some true) v).aH=v.aH:=by cases v<;>rfl
theorem Vy(v:V):(tJ (some false) v).aH=T.un:=by cases v<;>rfl
def Vz(m:Fm):Option (Nat×Bool)->Option (Option Bool)
 |none=>some none
 |some (g,w)=>match m.get g with
  |some (.bool b)=>some (some (bif w then b else !b))
  |some (.cnd c (.bool b))=>some (some (c&&(bif w then b else !b)))
  |_=>none
def ltX(nx:Nat)(m:Fm):List X->Bool
 |[]=>true
 |x::r=>(match CB m x with|some v=>T.lt nx v.aH|none=>false)&&ltX nx m r
def aa8(nx:Nat)(m:Fm):oK->Bool
 | .st _ x _=>match CB m x with|some v=>T.newer nx v.aH|none=>false
 | .app _ _ _ x _=>match CB m x with|some v=>T.newer nx v.aH|none=>false
 | .UZ _ _ _=>false
 | .call _ _=>true
 | .oD _ _=>true
 |op=>ltX nx m op.xs
def ady(i:Nat)(m:Fm):List X->Bool
 |[]=>true
 |x::r=>(match CB m x with|some v=>T.nid i v.aH|none=>false)&&ady i m r
def neB(m:Fm)(xs:List X):List Nat->Bool
 |[]=>true
 |d::r=>(bif Nat.blt d 1000000 then(match m.get d with|some (.ptr i _ _)=>ady i m xs|_=>false)
   else bif Nat.beq d 1000000 then ltX 10000 m xs else(match xs with|x::_=>(match CB m x with|some v=>T.newer 10000 v.aH|none=>false)|[]=>false))&&neB m xs r
def Gl(nx:Nat)(o:aI)(m:Fm):Bool:=(!o.fl||aa8 nx m o.op)&&neB m o.op.xs o.ne
def isZero:V->Bool
 | .int (.ofNat 0)=>true
 |_=>false
def ZO(n:Nat):T->Option Rw
 | .lit (.int .i64 z)=>some (.ints (List.replicate n z))
 | .lit (.bool z)=>some (.bools (List.replicate n z))
 | .lit (.string z)=>some (.strs (List.replicate n z.data.toList))
 |_=>none
def Rw.set(j:Nat)(v:V)(r:Rw):Option Rw :=
 match r,v with
 | .ints l,.int n=>some (.ints (l.set j n))
 | .bools l,.bool n=>some (.bools (l.set j n))
 | .strs l,.str n=>some (.strs (l.set j n))
 | .rules l,.dat (.rule n)=>some (.rules (l.set j n))
 | .clauses l,.dat (.clause n)=>some (.clauses (l.set j n))
 | .elems l,.dat (.elem n)=>some (.elems (l.set j n))
 | .bH l,.row 0 false (.ints n)=>some (.bH (l.set j n))
 | .nY l,.row 0 false (.bools n)=>some (.nY (l.set j n))
 | .nZ l,.row 0 false (.bH n)=>some (.nZ (l.set j n))
 |_,_=>none
def afP(h:Hz)(k:Nat):V->Option (Rw×List V)
 | .row k' _ r=>dO (kOk k k' r) (some (r,[]))
 | .Iq k' _ l=>dO (Nat.beq k' k) (some (.nil,l))
 | .own o=>match h.get o with
  |some (.row _ ko r x)=>dO (Nat.beq ko k) (some (r,x))
  |_=>none
 |_=>none
def afQ(r:Rw)(x:List V)(r':Rw)(x':List V):Option (Rw×List V) :=
 match x,r' with
 |[],r'=>match r.app r' with|some w=>some (w,x')|none=>none
 |x,.nil=>some (r,x++x')
 |_,_=>none
def jF(r:Rw)(x:List V):Nat :=
 match x with
 |[]=>r.len
 |x=>r.len+x.length
def jl(bytes:Nat)(a b:Nat):Prop:=(a+b)*bytes<=140737488355328/\a+b<=1152921504606846976
def setCells(v:V)(off:Nat)(u:V):Option V :=
 match v.cells,u.cells with
 |some l,some c=>some (.agg (l.take off++c++l.drop (off+c.length)))
 |_,_=>none
def Qa:List V->(List V->Prop)->Prop
 |[],K=>K []
 |v::r,K=>Qa r fun r'=>K (v::r')
def V.force(v:V)(K:V->Prop):Prop :=
 match v with
 | .agg l=>Qa l fun l=>K (.agg l)
 |v=>K v
theorem YC: ∀ {l:List V} {K:List V->Prop},Qa l K=K l:=by
 intro l;induction l with
 |nil=>intro K; rfl
 |cons v r ih=>intro K; show Qa r (fun r'=>K (v::r'))=_; rw[ih]
theorem V.force_eq(v:V)(K:V->Prop):v.force K=K v:=by
 cases v<;>first|rfl|exact YC
structure adz(c p a b:Prop):Prop where
 ok:(c\/b)/\p/\a
theorem adz.one{c p a b:Prop}(h:c/\p)(k:a):adz c p a b:=⟨.inl h.1,h.2,k⟩
structure AtZ(y:List V)(j:Nat)(K:V->Prop):Prop where
 ok: ∃ v,y[j]? =some v/\K v
structure Ou(h:Hz)(i:Nat)(K:Nat->Rw->Prop):Prop where
 ok: ∃ ty k r,h.get i=some (.row ty k r [])/\K k r
structure Nq(h:Hz)(i j k:Nat)(v:V)(K:Hz->Prop):Prop where
 ok: ∃ ty r r' h',h.get i=some (.row ty k r [])/\r.set j v=some r'/\r.rng j/\h'.ay=upd h.ay i (some (OV.row ty k r' []).au)/\K h'
structure LJ(h:Hz)(i ty k:Nat)(K:Rw->Hz->Prop):Prop where
 ok: ∃ r h',h.get i=some (.row ty k r [])/\h'.ay=upd h.ay i none/\K r h'
def adA(dr:Bool)(d:Option Nat)(n:Nat)(m:Fm)(h:Hz)(K:Fm->Hz->Prop):oK->Prop
 | .box ty k x=>match CB m x with
  |some v=>match v.bare with
   |(v,s)=>bif FN k [v]&&v.kZ h&&Bc k then s.vc none (K (jc d (.ptr n 0 0) m) ((n,some (.box ty k v))::h)) else False
  |none=>False
 | .al ty k z=>bif z.kd==k&&z.kZ h.ay&&z.free&&Bc k then K (jc d (.ptr n 0 0) m) ((n,some (.box ty k (En z)))::h) else False
 | .make ty k bytes z x y=>match CB m x,CB m y with
  |some (.int a),some (.int b)=>bif z.kd==k&&z.kZ h.ay&&z.free&&Bc k then
    (match (bif isZero (.int a) then some .nil else ZO a.toNat z) with
    |some r=>VC (0<=a/\a<=b/\b*bytes<=140737488355328/\b<=1152921504606846976) (K (jc d (.own n) m) ((n,some (.row ty k r []))::h))
    |none=>VC (0<=a/\a<=b/\b*bytes<=140737488355328/\b<=1152921504606846976) (K (jc d (.own n) m) ((n,some (.gen ty k (List.replicate a.toNat (En z))))::h))) else False
  |_,_=>False
 | .st k x v=>match CB m x,CB m v with
  |some (.ptr i j off),some v=>match v.bare with
   |(v,s)=>bif FN k [v]&&v.kZ h then
    (match h.get i with
    |some (.box ty ko w)=>bif Nat.beq j 0 then
      (bif Nat.beq off 0&&Nat.beq ko k then s.vc none (K m ((i,some (.box ty ko v))::h))
      else bif !(Nat.beq ko 0)&&qy (bg ko) off k then(match setCells w off v with
       |some w'=>w'.force fun w'=>s.vc none (K m ((i,some (.box ty ko w'))::h))
       |none=>False) else False) else False
    |some (.row ty ko r [])=>bif Nat.beq off 0&&Nat.beq ko k then(match r.set j v with
      |some r'=>s.vc none (VC (r.rng j) (K m ((i,some (.row ty ko r' []))::h)))
      |none=>s.vc none (VC (r.rng j) (K m ((i,some (.gen ty ko (r.vs.set j v)))::h)))) else False
    |some (.gen ty ko y)=>bif Nat.beq off 0&&Nat.beq ko k then s.vc none (VC (j<y.length) (K m ((i,some (.gen ty ko (y.set j v)))::h))) else False
    |_=>False) else False
  |some x,some v=>(match x.bare with
   |(.pin i j off,s0)=>match v.bare with
    |(v,s)=>bif FN k [v]&&v.kZ h&&Nat.beq off 0 then(s0.and s).vc none (Nq h i j k v fun h'=>K m h') else False
   |_=>False)
  |_,_=>False
 | .ld k x=>match CB m x with
  |some v=>(match v.bare with
   |(.ptr i j off,s)=>(match h.get i with
    |some (.gen _ ko y)=>bif Nat.beq off 0&&Nat.beq ko k then s.vc none (AtZ y j fun v=>v.seq fun v=>K (jc d v m) h) else False
    |_=>False)
   |(.pin i j off,s)=>s.vc none (Ou h i fun ko r=>match ldR k j off ko r with
    |some (v,s')=>s'.vc none (v.seq fun v=>K (jc d v m) h)
    |none=>False)
   |_=>False)
  |none=>False
 | .ia k x i=>match CB m x,CB m i with
  |some v,some w=>(match v.bare,w.bare with
   |(.inn o,s),(.int n,s')=>(s.and s').vc none (Ou h o fun ko r=>bif Nat.beq ko k then VC (r.rng n) (K (jc d (.pin o n.toNat 0) m) h) else False)
   |_,_=>False)
  |_,_=>False
 | .len str x=>match CB m x with
  |some v=>(match v.bare with
   |(.inn o,s)=>s.vc none (Ou h o fun ko r=>bif !str&& !(Nat.beq ko iK) then r.lenV.seq fun v=>K (jc d v m) h else False)
   |_=>False)
  |none=>False
 | .app ty k bytes x y=>match CB m x,CB m y with
  |some x,some y=>match afP h k y with
   |some (r',x')=>(match x with
    | .row _ true .nil=>VC (jl bytes 0 (jF r' x')) (K (jc d (.own n) m) ((n,some (.row ty k r' x'))::h))
    | .row k' true r=>bif Nat.beq k' k then(match r.app r' with
     |some w=>adz (r.len=0\/0<jF r' x') (jl bytes r.len (jF r' x')) (K (jc d (.own n) m) ((n,some (.row ty k w x'))::h)) (dr=false/\K (jc d (.row k' true r) m) h)
     |none=>False) else False
    | .own i=>(match h.get i with
     |some (.row ty' ko r x)=>bif Nat.beq ko k&&Nat.beq ty' ty then(match afQ r x r' x' with
      |some (w,z)=>VC (jl bytes (jF r x) (jF r' x')) (K (jc d (.own n) m) ((n,some (.row ty k w z))::(i,none)::h))
      |none=>False) else False
     |some (.gen ty' ko y)=>bif Nat.beq ko k&&Nat.beq ty' ty then VC (jl bytes y.length (jF r' x')) (K (jc d (.own n) m) ((n,some (.gen ty k (y++(r'.vs++x'))))::(i,none)::h)) else False
     |_=>False)
    | .inn i=>LJ h i ty k fun r h'=>match r.app r' with
     |some w=>VC (jl bytes r.len (jF r' x')) (K (jc d (.own n) m) ((n,some (.row ty k w x'))::h'))
     |none=>False
    |_=>False)
   |none=>False
  |_,_=>False
 | .UZ k z x=>match CB m x with
  |some (.qw i lo hi)=>match h.get i with
   |some (.row ty ko r [])=>bif Nat.beq ko k&&z.kd==k&&z.kZ h.ay&&z.free then
     VC (lo<=hi/\hi=r.len) (match d with
      |none=>K m ((i,some (.row ty ko (r.take lo) (List.replicate (hi-lo) (En z))))::h)
      |some _=>K (jc d (.raw T.un) m) ((i,some (.row ty ko (r.take lo) (List.replicate (hi-lo) (En z))))::h)) else False
   |_=>False
  |_=>False
 | .Bj ty k z nn ps=>match CG m (ps.map fun p=>p.2) with
  |some (vs,s)=>match aaY nn ps vs (List.replicate nn (En z)) with
   |some l=>bif (z.kd==k)&&z.free&&FN k vs&&Eo h vs&&Nat.ble (nn*bg k) 16777216&&Bc k then s.vc none (K (jc d (.own n) m) ((n,some (.row ty k .nil l))::h)) else False
   |none=>False
  |none=>False
 | .AO x=>match CB m x with
  |some (.row _ _ r)=>ZT (r.len=0) (K (jc d (.bool true) m) h) (K (jc d (.bool false) m) h)
  |some (.own i)=>match h.get i with
   |some (.row _ ko r [])=>bif Nat.beq ko iK then False else ZT (r.len=0) (K (jc d (.bool true) m) h) (K (jc d (.bool false) m) h)
   |_=>False
  |_=>False
 |_=>False
def phZ:oK->V
 | .not _=>.bool false
 |_=>.int 0
def afR(P:Program)(dr:Bool)(nx n:Nat)(o:aI)(KK:Nat->Fm->Hz->Prop)(m:Fm)(h:Hz):Prop :=
 match Vz m o.g with
 |none=>False
 |some g=>bif Gl nx o m then
   (match o.op with
   | .call f xs=>(match CG m xs with
    |some (l,s)=>s.vc g (match g with
     |none=>EU dr o.fl (ah P false none f l h n (fun v h'=>v.seq fun v=>KK 0 (jc o.d v m) h') (fun k v h'=>v.seq fun v=>KK k (jc o.d v m) h')) (ah P true none f l h n (fun v h'=>v.seq fun v=>KK 0 (jc o.d v m) h') (fun _ _ _=>False)) (ah P false none f l h n (fun v h'=>v.seq fun v=>KK 0 (jc o.d v m) h') (fun _ _ _=>False))
     |some b=>EU dr o.fl (ah P false (some b) f l h n (fun v h'=>v.seq fun v=>KK 0 (jc o.d (tJ (some b) v) m) h') (fun _ _ _=>False)) (ah P true (some b) f l h n (fun v h'=>v.seq fun v=>KK 0 (jc o.d (tJ (some b) v) m) h') (fun _ _ _=>False)) (ah P false (some b) f l h n (fun v h'=>v.seq fun v=>KK 0 (jc o.d (tJ (some b) v) m) h') (fun _ _ _=>False)))
    |none=>False)
   | .oD x xs=>(match CB m x,CG m xs with
    |some v,some (l,s)=>(match v.bare with
     |(.fn f cap,s0)=>(s0.and s).vc g (bif Nat.blt f 4096 then EU dr o.fl (ah P false g f (l++cap) h n (fun v h'=>v.seq fun v=>KK 0 (jc o.d (tJ g v) m) h') (fun _ _ _=>False)) (ah P true g f (l++cap) h n (fun v h'=>v.seq fun v=>KK 0 (jc o.d (tJ g v) m) h') (fun _ _ _=>False)) (ah P false g f (l++cap) h n (fun v h'=>v.seq fun v=>KK 0 (jc o.d (tJ g v) m) h') (fun _ _ _=>False)) else EU dr o.fl (ah P false g (f % 4096) (.agg cap::l) h n (fun v h'=>v.seq fun v=>KK 0 (jc o.d (tJ g v) m) h') (fun _ _ _=>False)) (ah P true g (f % 4096) (.agg cap::l) h n (fun v h'=>v.seq fun v=>KK 0 (jc o.d (tJ g v) m) h') (fun _ _ _=>False)) (ah P false g (f % 4096) (.agg cap::l) h n (fun v h'=>v.seq fun v=>KK 0 (jc o.d (tJ g v) m) h') (fun _ _ _=>False)))
     |_=>False)
    |_,_=>False)
   |op=>(match qz m h op with
    |some (v,s)=>s.vc g (v.seq fun v=>KK 0 (jc o.d (tJ g v) m) h)
    |none=>(match g with
     |none=>adA dr o.d n m h (KK 0) op
     |some b=>Fork b (adA dr o.d n m h (KK 0) op) (KK 0 (jc o.d (.cnd false (phZ op)) m) h))))
   else False
def adZ(P:Program)(nx n:Nat)(o:aI)(KK:Nat->Fm->Hz->Prop)(m:Fm)(h:Hz):Prop :=
 match o.op,o.g with
 | .call f xs,none=>bif o.fl&&Gl nx o m then
   (match CG m xs with
   |some (l,s)=>s.vc none (ah P true none f l h n (fun v h'=>v.seq fun v=>KK 0 (jc o.d v m) h') (fun _ v h'=>v.seq fun v=>KK 0 (jc o.d v m) h'))
   |none=>False)
   else False
 |_,_=>False
def arZ(P:Program)(nx n:Nat)(o:aI)(KK:Nat->Fm->Hz->Prop)(m:Fm)(h:Hz):Prop :=
 match o.op,o.g with
 | .call f xs,none=>bif o.fl&&Gl nx o m then
   (match CG m xs with
   |some (l,s)=>s.vc none (agZ P f l h n (fun v h'=>v.seq fun v=>KK 0 (jc o.d v m) h'))
   |none=>False)
   else False
 |_,_=>False
def opZ(P:Program)(dr:Bool)(nx n:Nat)(o:aI)(KK:Nat->Fm->Hz->Prop)(m:Fm)(h:Hz):Prop :=
 match o.ar with
 |true=>arZ P nx n o KK m h
 |false=>match o.ad with
 |true=>adZ P nx n o KK m h
 |false=>afR P dr nx n o KK m h
def SB(P:Program)(dr:Bool)(ml:Nat)(nx:Nat)(K:Fm->Hz->Nat->Prop):List aI->Nat->Fm->Hz->Prop
 |[],_,m,h=>K m h (nx+ml)
 |o::r,i,m,h=>opZ P dr nx (nx+i) o (fun k=>SB P dr ml (nx+k) K r (i+1)) m h
abbrev Qz:=sJ->Fm->Hz->Nat->Prop
def Lift(N pn:Nat)(Q:Qz)(e:sJ)(s:AS):Prop:= ∃ m h,s.fr.length=N/\Rp m s.fr/\s.hp=h.ay/\s.pin=pn/\Q e m h s.nx
structure aA(P:Program)(N pn:Nat)(b:fG)(Q:Qz)(m:Fm)(h:Hz)(nx:Nat):Prop where
 ok: ∀ fr,fr.length=N->Rp m fr->AQ (aw P b) (Lift N pn Q) ⟨fr,h.ay,nx,pn⟩
def az(P:Program)(N pn:Nat):fG->Qz->Fm->Hz->Nat->Prop
 | .skip,Q,m,h,nx=>Q .normal m h nx
 | .reg dr ops,Q,m,h,nx=>SB P dr ops.length nx (fun m h nx=>Q .normal m h nx) ops 0 m h
 | .seq a b,Q,m,h,nx=>az P N pn a (fun e m h nx=>match e with| .normal=>az P N pn b Q m h nx|e=>Q e m h nx) m h nx
 | .cond c a b,Q,m,h,nx =>
  match CB m c with
  |some (.bool t)=>Fork t (az P N pn a Q m h nx) (az P N pn b Q m h nx)
  |_=>False
 | .blk id b,Q,m,h,nx=>az P N pn b (fun e m h nx=>match e with| .exit j=>(bif Nat.beq j id then Q .normal m h nx else Q (.exit j) m h nx)|e=>Q e m h nx) m h nx
 | .exit id,Q,m,h,nx=>Q (.exit id) m h nx
 | .ret,Q,m,h,nx=>Q .ret m h nx
 | .loop b,Q,m,h,nx=>aA P N pn b Q m h nx
def Qb(N:Nat):List aI->Bool
 |[]=>true
 |o::r=>(match o.d with|some d=>Nat.blt d N|none=>true)&&Qb N r
def tV(N:Nat):fG->Bool
 | .skip=>true
 | .reg _ ops=>Qb N ops
 | .seq a b=>tV N a&&tV N b
 | .cond _ a b=>tV N a&&tV N b
 | .blk _ b=>tV N b
 | .exit _=>true
 | .ret=>true
 | .loop b=>tV N b
section
variable {P:Program} {m:Fm} {h:Hz}
theorem dA{i:Nat}{o:Option OV}:Hz.ay ((i,o)::h)=upd h.ay i (o.map OV.au):=by
 funext j;simp only[Hz.ay,Hz.get,upd];by_cases e:j=i
 ·subst e; simp
 ·have:Nat.beq i j=false:=by
   cases hb:Nat.beq i j with
   |false=>rfl
   |true=>exact absurd (fC hb).symm e
  simp[this,e]
theorem Rp.put{fr:List T}(R:Rp m fr){d:Option Nat}{v:V}(hd: ∀ i,d=some i->i<fr.length){s:AS}(hs:s.fr=fr):Rp (jc d v m) (s.put d v.aH).fr:=by
 subst hs;cases d with
 |none=>exact R
 |some d =>
  intro i u hu;simp only[jc,Fm.get] at hu;show(s.fr.set d v.aH)[i]? =_;cases hb:Nat.beq d i with
  |true =>
   rw[hb] at hu; simp at hu; subst hu;have:=fC hb; subst this;rw[List.getElem?_set_self (hd d rfl)]
  |false =>
   rw[hb] at hu;have hne:d≠i:=Nat.ne_of_beq_eq_false hb;rw[List.getElem?_set_ne hne];exact R i u hu
theorem W9{s:AS}{d:Option Nat}{t:T}:(s.put d t).fr.length=s.fr.length:=by cases d<;>simp[AS.put]
theorem lg{g:Option Bool}{k:Prop}{s:Sd}(q:s.vc g k):((g=none\/g=some true)->s.holds)/\k:=by
 unfold Sd.vc at q;split at q
 ·exact⟨fun _=>trivial,q⟩
 ·split at q
  ·obtain⟨a,b⟩:=q; exact⟨fun _=>a,b⟩
  ·obtain⟨a,b⟩:=q; exact⟨fun hg=>a (by rcases hg with e|e<;>cases e; rfl),b⟩
theorem YD{s:AS}(R:Rp m s.fr){g:Option (Nat×Bool)}{g':Option Bool}(q:Vz m g=some g'):(gv g s=some true/\(g'=none\/g'=some true))\/(gv g s=some false/\g'=some false):=by
 unfold Vz at q;split at q
 ·cases q; exact .inl ⟨rfl,.inl rfl⟩
 ·rename_i d w;split at q
  ·rename_i b e;cases q;have hg:s.fr.getD d .any= .lit (.bool b):=R.getD e;simp only[gv,hg];cases w<;>cases b<;>simp
  ·rename_i c b e;cases q;have hg:s.fr.getD d .any=bif c then .lit (.bool b) else T.un:=R.getD e;cases c with
   |true=>simp only[gv,hg,cond_true]; cases w<;>cases b<;>simp
   |false=>simp only[gv,hg,cond_false]; simp
  ·cases q
theorem Xa{s:AS}(R:Rp m s.fr){nx:Nat}: ∀ {xs:List X},ltX nx m xs=true->(xs.all fun x=>T.lt nx (s.ev x))=true:=by
 intro xs;induction xs with
 |nil=>intro _; rfl
 |cons x r ih =>
  intro q;simp only[ltX,Bool.and_eq_true] at q;simp only[List.all_cons,Bool.and_eq_true];refine⟨?_,ih q.2⟩;have:=q.1;split at this
  ·rename_i v e; rw[R.ev e]; exact this
  ·cases this
theorem aa9{s:AS}(R:Rp m s.fr){i:Nat}: ∀ {xs:List X},ady i m xs=true->(xs.all fun x=>T.nid i (s.ev x))=true:=by
 intro xs;induction xs with
 |nil=>intro _; rfl
 |cons x r ih =>
  intro q;simp only[ady,Bool.and_eq_true] at q;simp only[List.all_cons,Bool.and_eq_true];refine⟨?_,ih q.2⟩;have:=q.1;split at this
  ·rename_i v e; rw[R.ev e]; exact this
  ·cases this
theorem afS{s:AS}(R:Rp m s.fr){xs:List X}: ∀ {l:List Nat},neB m xs l=true->H9 s xs l=true:=by
 intro l;induction l with
 |nil=>intro _; rfl
 |cons d r ih =>
  intro q;simp only[neB,Bool.and_eq_true] at q;simp only[H9,Bool.and_eq_true];refine⟨?_,ih q.2⟩;have:=q.1;cases h1:Nat.blt d 1000000 with
  |true =>
   rw[h1,cond_true] at this;rw[cond_true];split at this
   ·rename_i i j o e;have hg:s.fr.getD d .any= .ptr i j o:=R.getD e;simp only[AS.obj,hg];exact aa9 R this
   ·cases this
  |false =>
   rw[h1,cond_false] at this;rw[cond_false];cases h2:Nat.beq d 1000000 with
   |true=>rw[h2,cond_true] at this; rw[cond_true]; exact Xa R this
   |false =>
    rw[h2,cond_false] at this;rw[cond_false];cases xs with
    |nil=>cases this
    |cons x l =>
     simp only at this ⊢;split at this
     ·rename_i v e; rw[R.ev e]; exact this
     ·cases this
theorem LK{s:AS}(R:Rp m s.fr){o:aI}(q:Gl s.nx o m=true):jy o s:=by
 unfold Gl at q;simp only[Bool.and_eq_true,Bool.or_eq_true,Bool.not_eq_true'] at q;refine⟨fun hf=>?_,afS R q.2⟩;have h1:aa8 s.nx m o.op=true:=by
  rcases q.1 with h|h
  ·rw[hf] at h; cases h
  ·exact h
 unfold aa8 at h1;split at h1
 ·rename_i k x v e;rw[e];split at h1
  ·rename_i u hu; simp only; rw[R.ev hu]; exact h1
  ·cases h1
 ·rename_i e;rw[e];split at h1
  ·rename_i u hu; simp only; rw[R.ev hu]; exact h1
  ·cases h1
 ·cases h1
 ·rename_i e; rw[e]
 ·rename_i e; rw[e]
 ·rename_i op h2 h3 h4 h5 h6;have:=Xa R h1;split
  ·rename_i e; exact absurd e (h2 _ _ _)
  ·rename_i e; exact absurd e (h3 _ _ _ _ _)
  ·rename_i e; exact absurd e (h4 _ _ _)
  ·rfl
  ·rfl
  ·exact this
def Kz(N pn nx:Nat)(K:Fm->Hz->Prop)(s:AS):Prop:= ∃ m h,s.fr.length=N/\Rp m s.fr/\s.hp=h.ay/\s.pin=pn/\s.nx=nx/\K m h
theorem SC{k:Nat}{v:V}(q:FN k [v]=true):v.aH.kd=k:=V.Vt (JQ q v (by simp))
theorem adB{n:Nat}{z:T}{r:Rw}(q:ZO n z=some r):r.aT=List.replicate n z:=by
 unfold ZO at q;split at q<;>cases q
 ·simp[Rw.aT]
 ·simp[Rw.aT]
 ·simp only[Rw.aT,List.map_replicate]; rw[aeQ]
theorem Rw.Xb{j:Nat}{v:V}{r w:Rw}(q:r.set j v=some w):w.aT=r.aT.set j v.aH:=by
 unfold Rw.set at q;split at q<;>first|(cases q; done)|(cases q; simp[Rw.aT,V.aH,Dat.aH,List.map_set])
theorem adC{k:Nat}{y:V}{r:Rw}{x:List V}(q:afP h k y=some (r,x)):U3 h.ay k y.aH= .list (r.aT++V.aT x):=by
 unfold afP at q;split at q
 ·rename_i k' f w;obtain⟨g,q⟩:=aU q; cases q;simp only[V.aH,U3,V.aT,List.append_nil];rcases Iy g with rfl|e
  ·cases r.aT<;>simp
  ·rw[e]
 ·rename_i k' f l;obtain⟨g,q⟩:=aU q; cases q;have:=fC g; subst this;simp only[V.aH,U3,Rw.aT,List.nil_append];cases hx:V.aT x<;>simp
 ·split at q
  ·rename_i o _ ty ko w z e;obtain⟨g,q⟩:=aU q; cases q;have:=fC g; subst this;simp[V.aH,U3,aK e,OV.au]
  ·cases q
 ·cases q
theorem zA{r:Rw}{x:List V}:jF r x=(r.aT++V.aT x).length:=by
 unfold jF;split
 ·simp[V.aT,Rw.fB]
 ·simp[dP,Rw.fB]
theorem adD{r r' w:Rw}{x x' z:List V}(q:afQ r x r' x'=some (w,z)):w.aT++V.aT z=(r.aT++V.aT x)++(r'.aT++V.aT x'):=by
 unfold afQ at q;split at q
 ·split at q
  ·rename_i w' e; cases q; rw[Rw.JO e]; simp[V.aT]
  ·cases q
 ·cases q; simp[xO,Rw.aT]
 ·cases q
theorem Ov{N pn n nx:Nat}{d:Option Nat}{op:oK}{K:Fm->Hz->Prop}{s:AS}{dr:Bool}(hl:s.fr.length=N)(hd: ∀ i,d=some i->i<N)(R:Rp m s.fr)(hh:s.hp=h.ay)(hp:s.pin=pn)(hn:s.nx=nx)(q:adA dr d n m h K op) :
  oL P dr n d op (Kz N pn nx K) s:=by
 have hd': ∀ i,d=some i->i<s.fr.length:=fun i e=>by rw[hl]; exact hd i e
 have fin: ∀ {v:V} {h':Hz},K (jc d v m) h'->Kz N pn nx K {(s.put d v.aH) with hp:=h'.ay}:=fun {v h'} hk =>
  ⟨_,h',by show(s.put d v.aH).fr.length=N; rw[W9,hl],R.put (v:=v) hd' rfl,rfl,by show(s.put d v.aH).pin=pn; cases d<;>exact hp,by show(s.put d v.aH).nx=nx; cases d<;>exact hn,hk⟩
 have adE: ∀ {op:oK} {v:V},bG op=true->Ok s op v->K (jc d v m) h->oL P dr n d op (Kz N pn nx K) s:=fun {op v} hq ho hk=>by
  rw[bF hq];refine⟨ho.1,?_⟩;rw[ho.2];have:=fin hk;rw[<- hh] at this;rw[show({(s.put d v.aH) with hp:=s.hp}:AS)=s.put d v.aH by cases d<;>rfl] at this;exact this
 unfold adA at q;split at q
 ·rename_i ty k x;split at q
  ·rename_i v e;split at q;rename_i v' s' hb;cases g:FN k [v']&&v'.kZ h&&Bc k with
   |false=>rw[g] at q; exact q.elim
   |true =>
    rw[g] at q;simp only[Bool.and_eq_true] at g;simp only[cond_true] at q;obtain⟨hs,hk⟩:=lg q;have ev:s.ev x=v'.aH:=by rw[R.ev e]; exact eU hb (hs (.inl rfl))
    simp only[oL];rw[ev,SC g.1.1,hh,V.uQ g.1.2,g.2];refine⟨by simp,?_⟩;have:=fin hk;rw[dA] at this;exact this
  ·exact q.elim
 ·rename_i ty k z;cases g:z.kd==k&&z.kZ h.ay&&z.free&&Bc k with
  |false=>rw[g] at q; exact q.elim
  |true =>
   rw[g] at q;simp only[oL];rw[hh,g];refine⟨rfl,?_⟩;have:=fin q;rw[dA] at this;simp only[Option.map_some,OV.au,Ah] at this;exact this
 ·rename_i ty k bytes z x y;split at q
  ·rename_i a b e1 e2;cases g:z.kd==k&&z.kZ h.ay&&z.free&&Bc k with
   |false=>rw[g] at q; exact q.elim
   |true =>
    rw[g] at q;simp only[cond_true] at q;split at q
    ·rename_i r er;obtain⟨c,hk⟩:=q;simp only[oL];rw[R.ev e1,R.ev e2];simp only[V.aH];rw[hh,g];refine⟨rfl,c,?_⟩;have:=fin hk;rw[dA] at this;simp only[Option.map_some,OV.au,V.aT,List.append_nil] at this;have hr:r.aT=List.replicate a.toNat z:=by
      cases hz:isZero (.int a) with
      |false=>rw[hz] at er; exact adB er
      |true =>
       rw[hz] at er; cases er;unfold isZero at hz;split at hz
       ·rename_i e; cases e; rfl
       ·cases hz
     rw[hr] at this;exact this
    ·obtain⟨c,hk⟩:=q;simp only[oL];rw[R.ev e1,R.ev e2];simp only[V.aH];rw[hh,g];refine⟨rfl,c,?_⟩;have:=fin hk;rw[dA] at this;simp only[Option.map_some,OV.au] at this;rw[fF,List.map_replicate,Ah] at this;exact this
  ·exact q.elim
 ·rename_i k x v;split at q
  ·rename_i i j off v0 e1 e2;split at q;rename_i v' s' hb;cases g:FN k [v']&&v'.kZ h with
   |false=>rw[g] at q; exact q.elim
   |true =>
    rw[g] at q;simp only[Bool.and_eq_true] at g;simp only[cond_true] at q;have fin2: ∀ {h':Hz},K m h'->Kz N pn nx K {s with hp:=h'.ay}:=fun {h'} hk=>⟨m,h',hl,R,rfl,hp,hn,hk⟩
    have ex:s.ev x= .ptr i j off:=R.ev e1;simp only[oL];rw[ex];simp only;split at q
    ·rename_i ty ko w eo;rw[hh,aK eo];simp only[OV.au];cases hj:Nat.beq j 0 with
     |false=>rw[hj] at q; exact q.elim
     |true =>
      have:=fC hj; subst this;rw[hj] at q;simp only[cond_true] at q;cases hb2:(Nat.beq off 0&&Nat.beq ko k) with
      |true =>
       rw[hb2] at q;simp only[cond_true] at q;obtain⟨hs,hk⟩:=lg q;have ev:s.ev v=v'.aH:=by rw[R.ev e2]; exact eU hb (hs (.inl rfl))
       simp only[Bool.and_eq_true] at hb2;have f1:=fC hb2.1; have f2:=fC hb2.2; subst f1; subst f2;rw[ev,SC g.1,V.uQ g.2];refine⟨by simp,by simp,by simp,?_⟩;have:=fin2 hk;rw[dA] at this;simp only[BEq.rfl,Bool.and_self,cond_true,List.set_cons_zero];exact this
      |false =>
       rw[hb2] at q;simp only[cond_false] at q;cases hc:(!(Nat.beq ko 0)&&qy (bg ko) off k) with
       |false=>rw[hc] at q; exact q.elim
       |true =>
        rw[hc] at q;simp only[cond_true] at q;split at q
        ·rename_i w' hw;rw[V.force_eq] at q;obtain⟨hs,hk⟩:=lg q;have ev:s.ev v=v'.aH:=by rw[R.ev e2]; exact eU hb (hs (.inl rfl))
         have hb':(off==0&&ko==k)=false:=by
          rw[Bool.and_eq_false_iff] at hb2 ⊢;rcases hb2 with hb2|hb2
          ·left; simpa using Nat.ne_of_beq_eq_false hb2
          ·right; simpa using Nat.ne_of_beq_eq_false hb2
         simp only[Bool.and_eq_true] at hc;rw[ev,SC g.1,V.uQ g.2];refine⟨by simp,by simp,?_,?_⟩
         ·simp only[hb',Bool.false_or,Bool.and_eq_true]; exact⟨adv hc.1,hc.2⟩
         ·have:=fin2 hk;rw[dA] at this;simp only[hb',cond_false,List.set_cons_zero,List.getD_cons_zero];have ew:w.aH.splice off v'.aH=w'.aH:=by
           unfold setCells at hw;split at hw
           ·rename_i l c f1 f2;cases hw;unfold T.splice;rw[V.Iu f1,V.Iu f2];simp only[V.aH,xO,LD,LG,dP]
           ·cases hw
          rw[ew];exact this
        ·exact q.elim
    ·rename_i ty ko r eo;rw[hh,aK eo];simp only[OV.au,V.aT,List.append_nil];cases hb2:(Nat.beq off 0&&Nat.beq ko k) with
     |false=>rw[hb2] at q; exact q.elim
     |true =>
      rw[hb2] at q;simp only[cond_true] at q;split at q
      ·rename_i r' hr;obtain⟨hs,hk0⟩:=lg q;obtain⟨abb,hk⟩:=hk0;have ev:s.ev v=v'.aH:=by rw[R.ev e2]; exact eU hb (hs (.inl rfl))
       simp only[Bool.and_eq_true] at hb2;have f1:=fC hb2.1; have f2:=fC hb2.2; subst f1; subst f2;rw[Rw.Ai] at abb;rw[ev,SC g.1,V.uQ g.2];refine⟨by simp,by rw[Rw.fB]; omega,by simp,?_⟩;have:=fin2 hk;rw[dA] at this;simp only[Option.map_some,OV.au,V.aT,List.append_nil,Rw.Xb hr] at this;simp only[BEq.rfl,Bool.and_self,cond_true];exact this
      ·obtain⟨hs,hk0⟩:=lg q;obtain⟨abb,hk⟩:=hk0;have ev:s.ev v=v'.aH:=by rw[R.ev e2]; exact eU hb (hs (.inl rfl))
       simp only[Bool.and_eq_true] at hb2;have f1:=fC hb2.1; have f2:=fC hb2.2; subst f1; subst f2;rw[Rw.Ai] at abb;rw[ev,SC g.1,V.uQ g.2];refine⟨by simp,by rw[Rw.fB]; omega,by simp,?_⟩;have:=fin2 hk;rw[dA] at this;simp only[Option.map_some,OV.au] at this;rw[fF,List.map_set,<- fF,Rw.aa1] at this;simp only[BEq.rfl,Bool.and_self,cond_true];exact this
    ·rename_i ty ko y eo;rw[hh,aK eo];simp only[OV.au];cases hb2:(Nat.beq off 0&&Nat.beq ko k) with
     |false=>rw[hb2] at q; exact q.elim
     |true =>
      rw[hb2] at q;simp only[cond_true] at q;obtain⟨hs,hk0⟩:=lg q;obtain⟨abb,hk⟩:=hk0;have ev:s.ev v=v'.aH:=by rw[R.ev e2]; exact eU hb (hs (.inl rfl))
      simp only[Bool.and_eq_true] at hb2;have f1:=fC hb2.1; have f2:=fC hb2.2; subst f1; subst f2;rw[ev,SC g.1,V.uQ g.2];refine⟨by simp,by rw[dP]; exact abb,by simp,?_⟩;have:=fin2 hk;rw[dA] at this;simp only[Option.map_some,OV.au] at this;rw[fF,List.map_set,<- fF] at this;simp only[BEq.rfl,Bool.and_self,cond_true];exact this
    ·exact q.elim
  ·rename_i x0 v0 _ e1 e2;split at q
   ·rename_i i j off s0 hb0;split at q;rename_i v' s' hb;cases g:FN k [v']&&v'.kZ h&&Nat.beq off 0 with
    |false=>rw[g] at q; exact q.elim
    |true =>
     rw[g] at q;simp only[Bool.and_eq_true] at g;simp only[cond_true] at q;obtain⟨hs,hk⟩:=lg q;have hs2:=Sd.lN.1 (hs (.inl rfl));have ex:s.ev x= .ptr i j off:=by rw[R.ev e1,eU hb0 hs2.1]; rfl
     have ev:s.ev v=v'.aH:=by rw[R.ev e2]; exact eU hb hs2.2
     have f1:=fC g.2; subst f1;obtain⟨ty,r,r',h',a1,a2,a3,a4,a5⟩:=hk.ok;rw[Rw.Ai] at a3;simp only[oL];rw[ex];simp only;rw[hh,aK a1];simp only[OV.au,V.aT,List.append_nil];rw[ev,SC g.1.1,V.uQ g.1.2];refine⟨by simp,by rw[Rw.fB]; omega,by simp,?_⟩;simp only[BEq.rfl,Bool.and_self,cond_true];rw[<- Rw.Xb a2];refine⟨m,h',hl,R,?_,hp,hn,a5⟩;rw[a4]; simp only[OV.au,V.aT,List.append_nil]
   ·exact q.elim
  ·exact q.elim
 ·rename_i k x;split at q
  ·rename_i v0 e1;split at q
   ·rename_i i j off s0 hb0;split at q
    ·rename_i ty ko y eo;cases hb2:(Nat.beq off 0&&Nat.beq ko k) with
     |false=>rw[hb2] at q; exact q.elim
     |true =>
      rw[hb2] at q;simp only[cond_true] at q;obtain⟨hs,hk⟩:=lg q;have ex:s.ev x= .ptr i j off:=by rw[R.ev e1,eU hb0 (hs (.inl rfl))]; rfl
      simp only[Bool.and_eq_true] at hb2;have f1:=fC hb2.1; have f2:=fC hb2.2; subst f1; subst f2;obtain⟨v,hv,hk⟩:=hk.ok;rw[V.seq_eq] at hk;refine adE rfl ?_ hk;have hj:j<y.length:=by
       rcases Nat.lt_or_ge j y.length with h|h
       ·exact h
       ·rw[List.getElem?_eq_none h] at hv; cases hv
      unfold Ok; simp only[qc,qt]; rw[ex];simp only[hh,aK eo,OV.au];simp only[BEq.rfl,Bool.and_self,Bool.true_or,cond_true,dP];exact⟨⟨hj,trivial⟩,yI hv⟩
    ·exact q.elim
   ·rename_i i j off s0 hb0;obtain⟨hs,hk⟩:=lg q;have ex:s.ev x=(V.ptr i j off).aH:=by rw[R.ev e1,eU hb0 (hs (.inl rfl))]; rfl
    obtain⟨ty,ko,r,eo,hk⟩:=hk.ok;split at hk
    ·rename_i v s' hq;obtain⟨hs',hk⟩:=lg hk;rw[V.seq_eq] at hk;exact adE rfl (Vx hh (u:=.ptr i j off) (by simp only[ldZ,eo]; exact hq) (hs' (.inl rfl)) ex) hk
    ·exact hk.elim
   ·exact q.elim
  ·exact q.elim
 ·rename_i k x i;split at q
  ·rename_i v0 w0 e1 e2;split at q
   ·rename_i o s0 n0 s1 hb0 hb1;obtain⟨hs,hk⟩:=lg q;have hs2:=Sd.lN.1 (hs (.inl rfl));have ex:s.ev x=(V.own o).aH:=by rw[R.ev e1,eU hb0 hs2.1]; rfl
    have ei:s.ev i=(V.int n0).aH:=by rw[R.ev e2,eU hb1 hs2.2]
    obtain⟨ty,ko,r,eo,hk⟩:=hk.ok;cases hb2:Nat.beq ko k with
    |false=>rw[hb2] at hk; exact hk.elim
    |true =>
     rw[hb2] at hk;simp only[cond_true] at hk;obtain⟨hr,hk⟩:=hk;have hok:Ok s (.ia k x i) (.ptr o n0.toNat 0):=aa4 hh (u:=.own o) (v:=.int n0) (r:=.ptr o n0.toNat 0) (sd:=.yes (r.rng n0)) (by simp only[iaZ,eo,hb2,dO,cond_true]) hr ex ei;exact adE (v:=.pin o n0.toNat 0) rfl ⟨hok.1,hok.2⟩ hk
   ·exact q.elim
  ·exact q.elim
 ·rename_i str x;split at q
  ·rename_i v0 e1;split at q
   ·rename_i o s0 hb0;obtain⟨hs,hk⟩:=lg q;have ex:s.ev x=(V.own o).aH:=by rw[R.ev e1,eU hb0 (hs (.inl rfl))]; rfl
    obtain⟨ty,ko,r,eo,hk⟩:=hk.ok;cases hb2:(!str&& !(Nat.beq ko iK)) with
    |false=>rw[hb2] at hk; exact hk.elim
    |true =>
     rw[hb2] at hk;simp only[cond_true] at hk;rw[V.seq_eq] at hk;exact adE rfl (WX hh (u:=.own o) (r:=r.lenV) (sd:=.no) (by simp only[ads,eo,hb2,dO,cond_true]) ex) hk
   ·exact q.elim
  ·exact q.elim
 ·rename_i ty k bytes x y;split at q
  ·rename_i vx vy e1 e2;split at q
   ·rename_i r' x' es;simp only[oL];rw[R.ev e1,R.ev e2,hh,adC es];simp only;split at q
    ·rename_i k';obtain⟨c,hk⟩:=q;have e0:(V.row k' true Rw.nil).aH= .sl k' true []:=rfl;rw[e0];unfold jl at c;rw[zA] at c;refine⟨.inr rfl,.inl (.inl rfl),by simpa using c.1,by simpa using c.2,?_⟩;have:=fin hk;rw[dA] at this;exact this
    ·rename_i k' r hnn;cases hb2:Nat.beq k' k with
     |false=>rw[hb2] at q; exact q.elim
     |true =>
      rw[hb2] at q;have:=fC hb2; subst this;simp only[cond_true] at q;split at q
      ·rename_i w hw;obtain⟨c1,c2,hk⟩:=q.ok;simp only[V.aH];unfold jl at c2;rw[zA] at c1 c2;refine⟨.inl trivial,?_,by rw[Rw.fB]; exact c2.1,by rw[Rw.fB]; exact c2.2,?_⟩
       ·rcases c1 with (c|c)|⟨c,hk2⟩
        ·left; left; exact List.eq_nil_of_length_eq_zero (by rw[Rw.fB]; exact c)
        ·left; right; intro e; rw[e] at c; simp at c
        ·right;refine⟨c,?_⟩;have f1:=fin hk2;rw[<- hh] at f1;rw[show({(s.put d (V.row k' true r).aH) with hp:=s.hp}:AS)=s.put d (.sl k' true r.aT) by cases d<;>rfl] at f1;exact f1
       ·have:=fin hk;rw[dA] at this;simp only[Option.map_some,OV.au,Rw.JO hw,List.append_assoc] at this;exact this
      ·exact q.elim
    ·rename_i i;split at q
     ·rename_i ty' ko r xx eo;cases hb2:(Nat.beq ko k&&Nat.beq ty' ty) with
      |false=>rw[hb2] at q; exact q.elim
      |true =>
       rw[hb2] at q;simp only[cond_true] at q;simp only[Bool.and_eq_true] at hb2;have f1:=fC hb2.1; have f2:=fC hb2.2; subst f1; subst f2;split at q
       ·rename_i w z hw;obtain⟨c,hk⟩:=q;simp only[V.aH,aK eo,OV.au];unfold jl at c;rw[zA,zA] at c;refine⟨by simp,c.1,c.2,?_⟩;have:=fin hk;rw[dA,dA] at this;simp only[Option.map_some,Option.map_none,OV.au,adD hw] at this;exact this
       ·exact q.elim
     ·rename_i ty' ko y eo;cases hb2:(Nat.beq ko k&&Nat.beq ty' ty) with
      |false=>rw[hb2] at q; exact q.elim
      |true =>
       rw[hb2] at q;simp only[cond_true] at q;simp only[Bool.and_eq_true] at hb2;have f1:=fC hb2.1; have f2:=fC hb2.2; subst f1; subst f2;obtain⟨c,hk⟩:=q;simp only[V.aH,aK eo,OV.au];unfold jl at c;rw[zA] at c;refine⟨by simp,by rw[dP]; exact c.1,by rw[dP]; exact c.2,?_⟩;have:=fin hk;rw[dA,dA] at this;simp only[Option.map_some,Option.map_none,OV.au,xO,Rw.aa1] at this;exact this
     ·exact q.elim
    ·rename_i i;obtain⟨r,h',a1,a2,hk⟩:=q.ok;split at hk
     ·rename_i w hw;obtain⟨c,hk⟩:=hk;simp only[V.aH,aK a1,OV.au,V.aT,List.append_nil];unfold jl at c;rw[zA] at c;refine⟨by simp,by rw[Rw.fB]; exact c.1,by rw[Rw.fB]; exact c.2,?_⟩;have:=fin hk;rw[dA,a2] at this;simp only[Option.map_some,OV.au,Rw.JO hw,List.append_assoc] at this;exact this
     ·exact hk.elim
    ·exact q.elim
   ·exact q.elim
  ·exact q.elim
 ·rename_i k z x;split at q
  ·rename_i i lo hi e;split at q
   ·rename_i ty ko r eo;cases g:(Nat.beq ko k&&z.kd==k&&z.kZ h.ay&&z.free) with
    |false=>rw[g] at q; exact q.elim
    |true =>
     rw[g] at q;simp only[cond_true] at q;obtain⟨⟨c1,c2⟩,hk⟩:=q;simp only[Bool.and_eq_true] at g;obtain⟨⟨⟨g1,g2⟩,g3⟩,g4⟩:=g;have f1:=fC g1; subst f1;simp only[oL];rw[R.ev e];simp only[V.aH,hh,aK eo,OV.au];refine⟨by simp[g2,g3,g4],by simp[Rw.fB,c2,V.aT],?_⟩;have el:(r.take lo).aT++V.aT (List.replicate (hi-lo) (En z))=List.take lo (r.aT++V.aT [])++List.replicate (hi-lo) z++List.drop hi (r.aT++V.aT []):=by
      rw[Rw.Gj,fF,List.map_replicate,Ah];simp[V.aT,Rw.fB,c2]
     cases d with
     |none =>
      simp only at hk;refine⟨_,_,hl,R,?_,hp,hn,hk⟩;rw[dA];simp only[Option.map_some,OV.au,el]
     |some dd =>
      simp only at hk;have:=fin hk;rw[dA] at this;simp only[Option.map_some,OV.au,el] at this;exact this
   ·exact q.elim
  ·exact q.elim
 ·rename_i ty k z nn ps;split at q
  ·rename_i vs s' hb;split at q
   ·rename_i l hl;cases g:((z.kd==k)&&z.free&&FN k vs&&Eo h vs&&Nat.ble (nn*bg k) 16777216&&Bc k) with
    |false=>rw[g] at q; exact q.elim
    |true =>
     rw[g] at q;simp only[cond_true] at q;obtain⟨hs,hk⟩:=lg q;have he:=uS R hb (hs (.inl rfl));have he':(ps.map fun p=>s.ev p.2)=V.aT vs:=by rw[<- he]; simp
     simp only[Bool.and_eq_true] at g;obtain⟨⟨⟨⟨⟨g1,g2⟩,g3⟩,g4⟩,g5⟩,g6⟩:=g;obtain⟨i1,i2⟩:=WY hl he' g3;have e:V.aT (List.replicate nn (En z))=List.replicate nn z:=by rw[fF,List.map_replicate,Ah]
     rw[e] at i2;simp only[oL];rw[i1,i2,he',hh,Iw g4,g1,g2,g5,g6];refine⟨rfl,?_⟩;have:=fin hk;rw[dA] at this;simp only[Option.map_some,OV.au,Rw.aT,List.nil_append] at this;exact this
   ·exact q.elim
  ·exact q.elim
 ·rename_i x;split at q
  ·rename_i k' f r e;obtain⟨q1,q2⟩:=q;simp only[oL];rw[R.ev e];have f1:=fun hz=>fin (q1 hz)
   have f2:=fin q2;rw[<- hh] at f1 f2;refine⟨fun hl=>?_,?_⟩
   ·have:=f1 (by rw[<- Rw.fB]; exact congrArg List.length hl);rw[show({(s.put d (V.bool true).aH) with hp:=s.hp}:AS)=s.put d (.lit (.bool true)) by cases d<;>rfl] at this;exact this
   ·rw[show({(s.put d (V.bool false).aH) with hp:=s.hp}:AS)=s.put d (.lit (.bool false)) by cases d<;>rfl] at f2;exact f2
  ·rename_i i e;split at q
   ·rename_i ty ko r eo;cases hb:Nat.beq ko iK with
    |true=>rw[hb] at q; exact q.elim
    |false =>
     rw[hb] at q;obtain⟨q1,q2⟩:=q;simp only[oL];rw[R.ev e];have f1:=fun hz=>fin (q1 hz)
     have f2:=fin q2;rw[<- hh] at f1 f2;simp only[V.aH,hh,aK eo,OV.au];refine⟨fun hl=>?_,?_,Nat.ne_of_beq_eq_false hb⟩
     ·have:=f1 (by rw[<- Rw.fB]; simpa [V.aT] using congrArg List.length hl);rw[show({(s.put d (V.bool true).aH) with hp:=s.hp}:AS)=s.put d (.lit (.bool true)) by cases d<;>rfl] at this;exact this
     ·rw[show({(s.put d (V.bool false).aH) with hp:=s.hp}:AS)=s.put d (.lit (.bool false)) by cases d<;>rfl] at f2;exact f2
   ·exact q.elim
  ·exact q.elim
 ·exact q.elim
end
section
variable {P:Program} {m:Fm} {h:Hz}
theorem Kz.put{N pn nx:Nat}{K:Fm->Hz->Prop}{s:AS}{d:Option Nat}{v:V}{t:T}{h':Hz}(hl:s.fr.length=N)(hd: ∀ i,d=some i->i<N)(R:Rp m s.fr)(hp:s.pin=pn)(hn:s.nx=nx)(ht:t=v.aH)(hk:K (jc d v m) h') :
  Kz N pn nx K {(s.put d t) with hp:=h'.ay}:=by
 subst ht;exact⟨_,h',by show(s.put d v.aH).fr.length=N; rw[W9,hl],R.put (v:=v) (fun i e=>by rw[hl]; exact hd i e) rfl,rfl,by show(s.put d v.aH).pin=pn; cases d<;>exact hp,by show(s.put d v.aH).nx=nx; cases d<;>exact hn,hk⟩
theorem LM{N pn nx n:Nat}{K:Fm->Hz->Prop}{KW:Nat->Fm->Hz->Prop}{s:AS}{d:Option Nat}{dr:Bool}{g:Option Bool}{f:FuncId}{l:List V}(hl:s.fr.length=N)(hd: ∀ i,d=some i->i<N)(R:Rp m s.fr)(hh:s.hp=h.ay)(hp:s.pin=pn)(hn:s.nx=nx)
  (hg:g=none\/g=some true) (q:ah P dr g f l h n (fun v h'=>v.seq fun v=>K (jc d (tJ g v) m) h') (fun k v h'=>v.seq fun v=>KW k (jc d v m) h')) (hq:dr=true-> ∀ (v:V) (h':Hz),¬ (v.seq fun v=>KW 0 (jc d v m) h')) :
  nK P dr n d f (V.aT l) (Kz N pn nx K) s\/(dr=false/\ ∃ k,jJ P f (V.aT l) s.hp n k fun t hp=>Kz N pn (nx+k) (KW k) {(s.put d t) with hp:=hp,nx:=s.nx+k}):=by
 unfold nK;rw[hh];rcases q.ok with q|⟨rfl,rfl,k,q⟩|⟨_,hdr,_,⟨_,_,v,o,_,_,hk⟩,_⟩
 rotate_left
 rotate_left
 ·exact absurd hk (hq hdr _ _)
 rotate_left
 ·refine .inr ⟨rfl,k,q.mono ?_⟩;rintro t hp' ⟨v,h',rfl,rfl,hk⟩;rw[V.seq_eq] at hk;obtain⟨m',h'',a1,a2,a3,a4,_,a6⟩:=Kz.put (K:=KW k) hl hd R hp hn rfl hk;exact⟨m',h'',a1,a2,a3,a4,by show s.nx+k=nx+k; rw[hn],a6⟩
 left;rcases hg with rfl|rfl
 ·refine aO.mono q ?_;rintro t hp' ⟨v,h',e1,e2,e3,hk⟩;rw[V.seq_eq] at hk;subst e2;refine⟨fun e=>⟨by rw[(e3 e).1],(e3 e).2⟩,Kz.put (v:=v) hl hd R hp hn e1 hk⟩
 ·rcases q with ⟨v,c,hf,hk⟩|⟨hdr,c,_⟩
  rotate_left
  ·refine aO.mono (c rfl) ?_;rintro t hp' ⟨v,h',e1,e2,hk⟩;rw[V.seq_eq] at hk;subst e2;exact⟨fun e=>(by rw[hdr] at e; cases e),Kz.put (v:=tJ (some true) v) hl hd R hp hn (e1.trans (Iz v).symm) hk⟩
  rw[V.seq_eq] at hk;refine aO.mono (c rfl) ?_;rintro t hp' ⟨e1,e2⟩;subst e2;refine⟨fun _=>⟨rfl,by rw[e1]; exact V.oZ v hf⟩,Kz.put (v:=tJ (some true) v) hl hd R hp hn (by rw[e1]; exact(Iz v).symm) hk⟩
theorem yJ{N pn nx n:Nat}{K:Fm->Hz->Prop}{s:AS}{d:Option Nat}{dr:Bool}{g:Option Bool}{f:FuncId}{l:List V}(hl:s.fr.length=N)(hd: ∀ i,d=some i->i<N)(R:Rp m s.fr)(hh:s.hp=h.ay)(hp:s.pin=pn)(hn:s.nx=nx)
  (hg:g=none\/g=some true) (q:ah P dr g f l h n (fun v h'=>v.seq fun v=>K (jc d (tJ g v) m) h') (fun _ _ _=>False)):nK P dr n d f (V.aT l) (Kz N pn nx K) s:=by
 rcases LM (KW:=fun _ _ _=>False) hl hd R hh hp hn hg ⟨q.ok.imp id fun h=>h.imp (fun⟨a,b,k,c⟩=>⟨a,b,k,c.mono fun _ _ ⟨_,_,_,_,h⟩=>h.elim⟩) (fun⟨a,b,d,c⟩=>⟨a,b,d,c.mono fun _ _ ⟨_,_,_,_,h⟩=>h.elim⟩)⟩ (fun _ v h' hk=>by rw[V.seq_eq] at hk; exact hk) with h|⟨_,k,⟨t,hp',hk⟩,_⟩
 ·exact h
 ·obtain⟨_,_,_,_,_,_,_,hk⟩:=hk; exact hk.elim
theorem ah.guard{dr:Bool}{f:FuncId}{args:List V}{n:Nat}{K:V->Hz->Prop}{KW:Nat->V->Hz->Prop}(q:ah P dr (some false) f args h n K KW): ∃ v,K v h:=by
 rcases q.ok with (⟨v,_,_,k⟩|⟨_,_,k⟩)|⟨h1,_⟩|⟨h1,_⟩
 ·exact⟨v,k⟩
 ·exact⟨_,k rfl⟩
 ·cases h1
 ·cases h1
theorem YE{dr fl:Bool}{a b c:Prop}:EU dr fl a b c↔(dr=false/\a)\/(dr=true/\bif fl then c else b):=by
 cases dr<;>cases fl<;>simp[EU]
theorem uq{dr fl:Bool}{C:Bool->Prop}(q:EU dr fl (C false) (C true) (C false)):C (dr&& !fl):=by
 cases dr<;>cases fl<;>exact q
theorem VA{N pn nx n:Nat}{KK:Nat->Fm->Hz->Prop}{s:AS}{o:aI}{dr:Bool}(hl:s.fr.length=N)(hd: ∀ i,o.d=some i->i<N)(R:Rp m s.fr)(hh:s.hp=h.ay)(hp:s.pin=pn)(hn:s.nx=nx)
  (q:afR P dr nx n o KK m h):(gv o.g s=some true/\jy o s/\(oL P (o.dr dr) n o.d o.op (Kz N pn nx (KK 0)) s\/opW P dr n o.d o.op (fun s'=> ∃ k,Kz N pn (nx+k) (KK k) s') s))\/(gv o.g s=some false/\Kz N pn nx (KK 0) (s.put o.d T.un)):=by
 unfold afR at q;split at q
 ·exact q.elim
 ·rename_i g hg;cases hf:Gl nx o m with
  |false=>rw[hf] at q; exact q.elim
  |true =>
   rw[hf] at q;simp only[cond_true] at q;have hfl:jy o s:=LK R (by rw[hn]; exact hf);have un: ∀ {v:V} {h':Hz},h'=h->KK 0 (jc o.d (tJ (some false) v) m) h'->Kz N pn nx (KK 0) (s.put o.d T.un):=fun {v h'} e hk=>by
    subst e;have:=Kz.put (s:=s) (v:=tJ (some false) v) (t:=T.un) hl hd R hp hn (Vy v).symm hk;rw[<- hh] at this;have e2:({(s.put o.d T.un) with hp:=s.hp}:AS)=s.put o.d T.un:=by
     cases o.d<;>rfl
    rw[e2] at this;exact this
   rcases YD R hg with ⟨h1,h2⟩|⟨h1,rfl⟩
   ·refine .inl ⟨h1,hfl,?_⟩;split at q
    ·rename_i f xs eo;split at q
     ·rename_i l sd hb;obtain⟨hs,q⟩:=lg q;have ed:o.dr dr=(dr&& !o.fl):=by unfold aI.dr; rw[eo]
      rw[ed,eo];show nK P (dr&& !o.fl) n o.d f (xs.map s.ev) _ s\/(dr=false/\ ∃ k,jJ P f (xs.map s.ev) s.hp n k _);rw[uS R hb (hs h2)];split at q
      ·rw[YE] at q;rcases q with ⟨e,q⟩|q
       ·rw[e];exact(LM (g:=none) hl hd R hh hp hn h2 q (fun e=>by cases e)).imp id fun⟨a,k,b⟩=>⟨a,k,b.mono fun _ _ hk=>⟨k,hk⟩⟩
       ·obtain⟨hdt,q⟩:=q;refine .inl (yJ (g:=none) hl hd R hh hp hn h2 ?_);rw[hdt];cases hf2:o.fl<;>rw[hf2] at q<;>exact q
      ·rename_i bb _;exact .inl (yJ hl hd R hh hp hn h2 (uq (C:=fun dr=>ah P dr (some bb) f l h n (fun v h'=>v.seq fun v=>KK 0 (jc o.d (tJ (some bb) v) m) h') (fun _ _ _=>False)) q))
     ·exact q.elim
    ·rename_i x xs eo;split at q
     ·rename_i v0 l sd e1 hb;split at q
      ·rename_i f cap s0 hb0;obtain⟨hs,q⟩:=lg q;have hs2:=Sd.lN.1 (hs h2);have ed:o.dr dr=(dr&& !o.fl):=by unfold aI.dr; rw[eo]
       rw[ed,eo];left;simp only[oL];rw[R.ev e1,eU hb0 hs2.1];simp only[V.aH];rw[uS R hb hs2.2,<- xO];cases hbl:Nat.blt f 4096 with
       |true=>rw[hbl] at q; exact yJ hl hd R hh hp hn h2 (uq (C:=fun dr=>ah P dr g f (l++cap) h n (fun v h'=>v.seq fun v=>KK 0 (jc o.d (tJ g v) m) h') (fun _ _ _=>False)) q)
       |false=>rw[hbl] at q; exact yJ (l:=.agg cap::l) hl hd R hh hp hn h2 (uq (C:=fun dr=>ah P dr g (f % 4096) (.agg cap::l) h n (fun v h'=>v.seq fun v=>KK 0 (jc o.d (tJ g v) m) h') (fun _ _ _=>False)) q)
      ·exact q.elim
     ·exact q.elim
    ·rename_i hn1 hn2;have ed:o.dr dr=dr:=by
      unfold aI.dr;split
      ·rename_i e; exact absurd e (hn1 _ _)
      ·rename_i e; exact absurd e (hn2 _ _)
      ·rfl
     rw[ed];left;split at q
     ·rename_i v sd hq;obtain⟨hs,hk⟩:=lg q;rw[V.seq_eq] at hk;obtain⟨hqu,hc,ht⟩:=aa7 R hh hq (hs h2);rw[bF hqu];refine⟨hc,?_⟩;have:=Kz.put (s:=s) (v:=tJ g v) (t:=qt s o.op) hl hd R hp hn (by rw[ht]; rcases h2 with rfl|rfl; rfl; exact(Iz v).symm) hk;rw[<- hh] at this;have e2:({(s.put o.d (qt s o.op)) with hp:=s.hp}:AS)=s.put o.d (qt s o.op):=by cases o.d<;>rfl
      rw[e2] at this;exact this
     ·split at q
      ·exact Ov hl hd R hh hp hn q
      ·rename_i b _;rcases h2 with h2|h2
       ·cases h2
       ·cases h2;obtain⟨qa,_⟩:=q;exact Ov hl hd R hh hp hn (qa rfl)
   ·refine .inr ⟨h1,?_⟩;split at q
    ·split at q
     ·obtain⟨hs,q⟩:=lg q;obtain⟨v,hk⟩:=ah.guard (uq (C:=fun dr=>ah P dr (some false) _ _ h n (fun v h'=>v.seq fun v=>KK 0 (jc o.d (tJ (some false) v) m) h') (fun _ _ _=>False)) q);rw[V.seq_eq] at hk;exact un rfl hk
     ·exact q.elim
    ·split at q
     ·rename_i v0 l sd e1 hb;split at q
      ·rename_i f cap s0 hb0;obtain⟨hs,q⟩:=lg q;cases hbl:Nat.blt f 4096 with
       |true =>
        rw[hbl] at q;obtain⟨v,hk⟩:=ah.guard (uq (C:=fun dr=>ah P dr (some false) f (l++cap) h n (fun v h'=>v.seq fun v=>KK 0 (jc o.d (tJ (some false) v) m) h') (fun _ _ _=>False)) q);rw[V.seq_eq] at hk;exact un rfl hk
       |false =>
        rw[hbl] at q;obtain⟨v,hk⟩:=ah.guard (uq (C:=fun dr=>ah P dr (some false) (f % 4096) (.agg cap::l) h n (fun v h'=>v.seq fun v=>KK 0 (jc o.d (tJ (some false) v) m) h') (fun _ _ _=>False)) q);rw[V.seq_eq] at hk;exact un rfl hk
      ·exact q.elim
     ·exact q.elim
    ·split at q
     ·obtain⟨hs,hk⟩:=lg q;rw[V.seq_eq] at hk;exact un rfl hk
     ·obtain⟨_,qb⟩:=q;have e3:V.cnd false (phZ o.op)=tJ (some false) (phZ o.op):=by cases o.op<;>rfl
      exact un (v:=phZ o.op) rfl (by rw[<- e3]; exact qb rfl)
theorem YF{N pn nx n:Nat}{KK:Nat->Fm->Hz->Prop}{s:AS}{o:aI}{dr:Bool}(hl:s.fr.length=N)(hd: ∀ i,o.d=some i->i<N)(R:Rp m s.fr)(hh:s.hp=h.ay)(hp:s.pin=pn)(hn:s.nx=nx)
  (q:opZ P dr nx n o KK m h):(gv o.g s=some true/\jy o s/\(opR P dr n o (Kz N pn nx (KK 0)) s\/opW P dr n o.d o.op (fun s'=> ∃ k,Kz N pn (nx+k) (KK k) s') s))\/(gv o.g s=some false/\Kz N pn nx (KK 0) (s.put o.d T.un)):=by
 unfold opZ at q;cases har:o.ar with
 |true =>
  rw[har] at q;simp only at q;unfold arZ at q;split at q
  ·rename_i f xs eo eg;cases hf:(o.fl&&Gl nx o m) with
   |false=>rw[hf] at q; exact q.elim
   |true =>
    rw[hf] at q;simp only[cond_true] at q;rw[Bool.and_eq_true] at hf;have hfl:jy o s:=LK R (by rw[hn]; exact hf.2);refine .inl ⟨by rw[eg]; rfl,hfl,.inl (.inr ⟨har,hf.1,?_⟩)⟩;split at q
    ·rename_i l sd hb;obtain⟨hs,q⟩:=lg q;obtain⟨v,ob,c1,c2,c3,hk⟩:=q.ok;rw[eo];refine⟨v.aH,ob.map OV.au,c1,?_,?_,?_⟩
     ·intro o' ho';cases ob with
      |none=>cases ho'
      |some ob=>cases ho'; exact c2 _ rfl
     ·intro hp' he _;rw[uS R hb (hs (.inl rfl))];exact c3 hp' (by rw[<- hh]; exact he)
     ·rw[V.seq_eq] at hk;cases ob with
      |none =>
       show Kz N pn nx (KK 0) {(s.put o.d v.aH) with hp:=s.hp};rw[hh];exact Kz.put (v:=v) hl hd R hp hn rfl hk
      |some ob =>
       have e:jA s.hp n (some ob.au)=Hz.ay ((n,some ob)::h):=by rw[dA,hh]; rfl
       show Kz N pn nx (KK 0) {(s.put o.d v.aH) with hp:=jA s.hp n (some ob.au)};rw[e];exact Kz.put (v:=v) hl hd R hp hn rfl hk
    ·exact q.elim
  ·exact q.elim
 |false =>
 rw[har] at q;simp only at q;cases had:o.ad with
 |false =>
  rw[had] at q;rcases VA hl hd R hh hp hn q with ⟨h1,h2,h3⟩|h1
  ·exact .inl ⟨h1,h2,h3.imp (fun h=>.inl ⟨har,jQ (fun s' _ _ h=>⟨fun e=>(by rw[had] at e; cases e),h⟩) h⟩) id⟩
  ·exact .inr h1
 |true =>
  rw[had] at q;simp only at q;unfold adZ at q;split at q
  ·rename_i f xs eo eg;cases hf:(o.fl&&Gl nx o m) with
   |false=>rw[hf] at q; exact q.elim
   |true =>
    rw[hf] at q;simp only[cond_true] at q;rw[Bool.and_eq_true] at hf;have hfl:jy o s:=LK R (by rw[hn]; exact hf.2);refine .inl ⟨by rw[eg]; rfl,hfl,.inl (.inl ⟨har,?_⟩)⟩;split at q
    ·rename_i l sd hb;obtain⟨hs,q⟩:=lg q;have ed:o.dr dr=false:=by unfold aI.dr; rw[eo,hf.1]; cases dr<;>rfl
     rw[ed,eo];show aO P f (xs.map s.ev) s.hp n _;rw[uS R hb (hs (.inl rfl)),hh];have hx: ∀ {h':Hz} {s':AS},s'.hp=h'.ay->(h'=h\/ ∃ o,h'=(n,some o)::h/\h.get n=none)-> ∀ i ob,s.hp i=some ob->s'.hp i=some ob:=by
      intro h' s' e1 e2 i ob hi;rw[e1];rw[hh] at hi;rcases e2 with rfl|⟨o',rfl,hn0⟩
      ·exact hi
      ·rw[dA];have hne:i≠n:=by
        rintro rfl;simp only[Hz.ay,hn0] at hi; cases hi
       simp only[upd,if_neg hne]; exact hi
     rcases q.ok with q|⟨_,e,_⟩|⟨_,_,hn0,q⟩
     ·refine aO.mono q ?_;rintro t hp' ⟨v,h',e1,e2,e3,hk⟩;rw[V.seq_eq] at hk;subst e2;exact⟨(fun e=>by cases e),fun _=>hx rfl (.inl (e3 rfl).1),Kz.put (v:=v) hl hd R hp hn e1 hk⟩
     ·cases e
     ·refine aO.mono q ?_;rintro t hp' ⟨v,o',e1,e2,hk⟩;rw[V.seq_eq] at hk;subst e2;exact⟨(fun e=>by cases e),fun _=>hx rfl (.inr ⟨o',rfl,hn0⟩),Kz.put (v:=v) hl hd R hp hn e1 hk⟩
    ·exact q.elim
  ·exact q.elim
theorem SE{N pn ml:Nat}{K:Fm->Hz->Nat->Prop}{dr:Bool}: ∀ {nx:Nat} {ops:List aI} {i:Nat} {m:Fm} {h:Hz} {s:AS},Qb N ops=true->s.fr.length=N->Rp m s.fr->s.hp=h.ay->s.pin=pn->s.nx=nx ->
  SB P dr ml nx K ops i m h->tN P dr ml (fun s=> ∃ m h,s.fr.length=N/\Rp m s.fr/\s.hp=h.ay/\s.pin=pn/\K m h s.nx) ops i s:=by
 intro nx ops;induction ops generalizing nx with
 |nil =>
  intro i m h s _ hl R hh hp hn q;exact⟨m,h,hl,R,hh,hp,by show K m h (s.nx+ml); rw[hn]; exact q⟩
 |cons o r ih =>
  intro i m h s hd hl R hh hp hn q;simp only[Qb,Bool.and_eq_true] at hd;have hd1: ∀ j,o.d=some j->j<N:=fun j e=>by
   have:=hd.1;rw[e] at this;simpa using this
  simp only[tN];rw[EL];have next: ∀ s',s'.nx=s.nx->s'.pin=s.pin->Kz N pn nx (SB P dr ml nx K r (i+1)) s'->tN P dr ml (fun s=> ∃ m h,s.fr.length=N/\Rp m s.fr/\s.hp=h.ay/\s.pin=pn/\K m h s.nx) r (i+1) s':=by
   rintro s' _ _ ⟨m',h',a1,a2,a3,a4,a5,a6⟩;exact ih hd.2 a1 a2 a3 a4 a5 a6
  have ag0: ∀ s',(∃ k,Kz N pn (nx+k) (SB P dr ml (nx+k) K r (i+1)) s')->tN P dr ml (fun s=> ∃ m h,s.fr.length=N/\Rp m s.fr/\s.hp=h.ay/\s.pin=pn/\K m h s.nx) r (i+1) s':=by
   rintro s' ⟨k,m',h',a1,a2,a3,a4,a5,a6⟩;exact ih hd.2 a1 a2 a3 a4 a5 a6
  rcases YF hl hd1 R hh hp hn q with ⟨h1,h2,h3⟩|⟨h1,h2⟩
  ·refine .inl ⟨h1,h2,?_⟩;rw[hn];exact h3.imp (fun h=>h.imp (fun h=>⟨h.1,jQ (fun s' a b c=>⟨c.1,next s' a b c.2⟩) h.2⟩) fun h=>⟨h.1,h.2.1,La (fun s' a b c=>next s' a b c) h.2.2⟩) (RY ag0)
  ·exact .inr ⟨h1,next _ (fE _ _ _) (iF _ _ _) h2⟩
theorem qK{N pn:Nat}: ∀ {c:fG} {Q:Qz} {m:Fm} {h:Hz} {s:AS},tV N c=true->s.fr.length=N->Rp m s.fr->s.hp=h.ay->s.pin=pn->az P N pn c Q m h s.nx->aw P c (Lift N pn Q) s:=by
 intro c;induction c with
 |skip=>intro Q m h s _ hl R hh hp q; exact⟨m,h,hl,R,hh,hp,q⟩
 |reg dr ops =>
  intro Q m h s hd hl R hh hp q;exact SE hd hl R hh hp rfl q
 |seq a b ia ib =>
  intro Q m h s hd hl R hh hp q;simp only[tV,Bool.and_eq_true] at hd;simp only[aw];refine mX ?_ (ia hd.1 hl R hh hp q);rintro e s' ⟨m',h',b1,b2,b3,b4,b5⟩;cases e with
  |normal=>exact ib hd.2 b1 b2 b3 b4 b5
  |exit j=>exact⟨m',h',b1,b2,b3,b4,b5⟩
  |ret=>exact⟨m',h',b1,b2,b3,b4,b5⟩
 |cond c a b ia ib =>
  intro Q m h s hd hl R hh hp q;simp only[tV,Bool.and_eq_true] at hd;simp only[az] at q;simp only[aw];split at q
  ·rename_i t e;rw[R.ev e];obtain⟨q1,q2⟩:=q;exact⟨fun e=>ia hd.1 hl R hh hp (q1 e),fun e=>ib hd.2 hl R hh hp (q2 e)⟩
  ·exact q.elim
 |blk id b ib =>
  intro Q m h s hd hl R hh hp q;simp only[aw];refine mX ?_ (ib hd hl R hh hp q);rintro e s' ⟨m',h',b1,b2,b3,b4,b5⟩;cases e with
  |normal=>exact⟨m',h',b1,b2,b3,b4,b5⟩
  |ret=>exact⟨m',h',b1,b2,b3,b4,b5⟩
  |exit j =>
   simp only at b5 ⊢;by_cases e:j=id
   ·subst e; simp at b5 ⊢; exact⟨m',h',b1,b2,b3,b4,b5⟩
   ·have e1:Nat.beq j id=false:=by
     cases hb:Nat.beq j id with
     |false=>rfl
     |true=>exact absurd (fC hb) e
    have e2:(j==id)=false:=by simpa using e
    rw[e1] at b5; rw[e2];exact⟨m',h',b1,b2,b3,b4,b5⟩
 |exit i=>intro Q m h s _ hl R hh hp q; exact⟨m,h,hl,R,hh,hp,q⟩
 |ret=>intro Q m h s _ hl R hh hp q; exact⟨m,h,hl,R,hh,hp,q⟩
 |loop b ib =>
  intro Q m h s _ hl R hh hp q;have:=q.ok s.fr hl R;rw[<- hh,<- hp] at this;simp only[aw];rw[hp] at this;have e:(⟨s.fr,s.hp,s.nx,pn⟩:AS)=s:=by rw[<- hp]
  rw[e] at this;exact this
end
end Go.Ab
